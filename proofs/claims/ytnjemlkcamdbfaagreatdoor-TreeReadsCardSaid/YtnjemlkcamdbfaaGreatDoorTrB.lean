/- Plain: right nodes; nodes are written. -/
import Derived.Test.YtnjemlkcamdbfaaGreatDoorTrA
set_option linter.unusedSimpArgs false
set_option linter.unusedVariables false
namespace Go.Proofs.YtnjemlkcamdbfaaGreatDoor
open Go.RowKit Go.Tri
theorem sub1 {i : Nat} (h : 1 ≤ i) (h2 : i ≤ 1000000000) : IntKind.i64.wrap ((i : Int) - 1) = ((i - 1 : Nat) : Int) := by rw [i64_id (by omega) (by omega)]; omega
theorem rRising_eq (l : List Pr) (hl : l.length ≤ 100000000) : m_triremeref06_Rising l = some (risB l) := by
  unfold m_triremeref06_Rising
  refine ris_loop l hl (fun i p q h1 hp hq => ?_) (fun i hi => by rw [if_neg (by omega)])
  have hlt := (List.getElem?_eq_some_iff.1 hq).1
  rw [if_pos (by omega), sub1 h1 (by omega), idxO_nat hp, idxO_nat hq]
  simp only [Option.bind_some, geq_cmp, decide_eq_true_eq]
  rw [i64_id (by omega) (by omega)]
  by_cases h : Lib.compareBytes p.1 q.1 < 0
  · rw [if_neg (by omega), if_pos h]; rfl
  · rw [if_pos (by omega), if_neg h]
theorem tRises_eq (l : List Pr) (hl : l.length ≤ 100000000) : m_tree_rises l = some (risB l) := by
  unfold m_tree_rises
  refine ris_loop l hl (fun i p q h1 hp hq => ?_) (fun i hi => by rw [if_neg (by omega)])
  have hlt := (List.getElem?_eq_some_iff.1 hq).1
  rw [if_pos (by omega), sub1 h1 (by omega), idxO_nat hp, idxO_nat hq]
  unfold m_tree_compare cmpB
  simp only [Option.bind_some]
  rw [i64_id (by omega) (by omega)]
  by_cases h : Lib.compareBytes p.1 q.1 < 0
  · rw [if_neg (by omega), if_pos h]; rfl
  · rw [if_pos (by omega), if_neg h]
theorem riseP_eq (l : List Pr) (hl : l.length ≤ 100000000) : riseP l = some (risB l) := by
  unfold riseP
  refine ris_loop l hl (fun i p q h1 hp hq => ?_) (fun i hi => by rw [if_neg (by omega)])
  have hlt := (List.getElem?_eq_some_iff.1 hq).1
  rw [if_pos (by omega), sub1 h1 (by omega), idxO_nat hp, idxO_nat hq]
  unfold m_node_right_1 cmpB
  simp only [Option.bind_some]
  rw [i64_id (by omega) (by omega)]
  by_cases h : Lib.compareBytes p.1 q.1 < 0
  · rw [if_neg (by omega), if_pos h]; rfl
  · rw [if_pos (by omega), if_neg h]
theorem riseK_eq (l : List Pr) (hl : l.length ≤ 100000000) : riseK l = some (risB l) := by
  unfold riseK
  refine ris_loop l hl (fun i p q h1 hp hq => ?_) (fun i hi => by rw [if_neg (by omega)])
  have hlt := (List.getElem?_eq_some_iff.1 hq).1
  rw [if_pos (by omega), sub1 h1 (by omega), idxO_nat hp, idxO_nat hq]
  unfold m_node_right_2 cmpB
  simp only [Option.bind_some]
  rw [i64_id (by omega) (by omega)]
  by_cases h : Lib.compareBytes p.1 q.1 < 0
  · rw [if_neg (by omega), if_pos h]; rfl
  · rw [if_pos (by omega), if_neg h]
/-- Is a node right? -/
def rightN (n : Nd) : Bool :=
  if n.1 < 0 then false else if 15 < n.1 then false else if n.1 = 0 then decide (n.2.2.length = 0) && decide (n.2.1.length < 256) && risB n.2.1
  else decide (n.2.1.length = 0) && decide (1 ≤ n.2.2.length) && decide (n.2.2.length ≤ 4) && risB n.2.2
theorem pRight_eq (n : Nd) (h1 : n.2.1.length ≤ 100000000) (h2 : n.2.2.length ≤ 100000000) : m_node_right n = some (rightN n) := by
  unfold m_node_right rightN
  by_cases a : n.1 < 0
  · rw [if_pos a, if_pos a]
  rw [if_neg a, if_neg a]
  by_cases b : 15 < n.1
  · rw [if_pos (by omega), if_pos b]
  rw [if_neg (by omega), if_neg b]
  by_cases c : n.1 = 0
  · rw [if_pos c, if_pos c, riseP_eq _ h1]
    by_cases d : n.2.2.length = 0
    · rw [if_pos (by omega)]
      by_cases e : n.2.1.length < 256
      · rw [if_pos (by omega)]; simp [d, e]
      · rw [if_neg (by omega)]; simp [e]
    · rw [if_neg (by omega)]; simp [d]
  · rw [if_neg c, if_neg c, riseK_eq _ h2]
    by_cases d : n.2.1.length = 0
    · rw [if_pos (by omega)]
      by_cases e : 1 ≤ n.2.2.length
      · rw [if_pos (by omega)]
        by_cases f : n.2.2.length ≤ 4
        · rw [if_pos (by omega)]; simp [d, e, f]
        · rw [if_neg (by omega)]; simp [f]
      · rw [if_neg (by omega)]; simp [e]
    · rw [if_neg (by omega)]; simp [d]
theorem rRight_eq (n : Nd) (h1 : n.2.1.length ≤ 100000000) (h2 : n.2.2.length ≤ 100000000) : m_triremeref07_Right n = some (rightN n) := by
  unfold m_triremeref07_Right rightN
  by_cases a : n.1 < 0
  · rw [if_pos a, if_pos a]
  rw [if_neg a, if_neg a]
  by_cases b : 15 < n.1
  · rw [if_pos (by omega), if_pos b]
  rw [if_neg (by omega), if_neg b]
  by_cases c : n.1 = 0
  · rw [if_pos c, if_pos c, rRising_eq _ h1]
    by_cases d : n.2.2.length = 0
    · rw [if_pos (by omega)]
      by_cases e : n.2.1.length < 256
      · rw [if_pos (by omega)]; simp [d, e]
      · rw [if_neg (by omega)]; simp [e]
    · rw [if_neg (by omega)]; simp [d]
  · rw [if_neg c, if_neg c]
    by_cases d : n.2.1.length = 0
    · rw [if_neg (by omega)]
      by_cases e : 1 ≤ n.2.2.length
      · rw [if_neg (by omega)]
        by_cases f : n.2.2.length ≤ 4
        · rw [if_neg (by omega)]
          have := ris_loop n.2.2 h2 (f := fun s83 => if s83 < ((n.2.2).length : Int) then ((idxO n.2.2 (IntKind.i64.wrap (s83 - 1))).bind fun x85 => (idxO n.2.2 s83).bind fun x91 => if (geqB x85.1 x91.1) = true then (some (.inr (.inr false))) else (some (.inl (IntKind.i64.wrap (s83 + 1))))) else (some (.inr (.inl ())))) (fun i p q h1 hp hq => ?_) (fun i hi => by rw [if_neg (by omega)])
          · rw [this]; simp [d, e, f]
          · have hlt := (List.getElem?_eq_some_iff.1 hq).1
            rw [if_pos (by omega), sub1 h1 (by omega), idxO_nat hp, idxO_nat hq]
            simp only [Option.bind_some, geq_cmp, decide_eq_true_eq]
            rw [i64_id (by omega) (by omega)]
            by_cases h : Lib.compareBytes p.1 q.1 < 0
            · rw [if_neg (by omega), if_pos h]; rfl
            · rw [if_pos (by omega), if_neg h]
        · rw [if_pos (by omega)]; simp [f]
      · rw [if_pos (by omega)]; simp [e]
    · rw [if_pos (by omega)]; simp [d]
/-! ### Nodes as bytes -/
def encP (p : Pr) : List UInt8 := tx p.1 ++ tx p.2
def encK (k : Pr) : List UInt8 := tx k.1 ++ k.2
def okP (p : Pr) : Bool := decide (p.1.length < 65536) && decide (p.2.length < 65536)
def okK (k : Pr) : Bool := decide (k.1.length < 65536)
def hd3 (n : Nd) : List UInt8 := [84, u8 (IntKind.u8.wrap n.1), u8 (IntKind.u8.wrap (IntKind.i64.wrap ((n.2.1.length : Int) + (n.2.2.length : Int))))]
def enc (n : Nd) : List UInt8 := hd3 n ++ n.2.1.flatMap encP ++ n.2.2.flatMap encK
/-- A node's block, and the error's number. -/
def wrN (n : Nd) : List UInt8 × Int :=
  if rightN n = false then ([], 1) else if n.2.1.all okP && n.2.2.all okK then (if 470 < (enc n).length then ([], 23) else (enc n, 0)) else ([], 23)
/-- Texts that aren't too long to be handled. -/
def SmallP (l : List Pr) : Prop := l.length ≤ 100000 ∧ ∀ p ∈ l, p.1.length ≤ 100000 ∧ p.2.length ≤ 100000
def stP (s : List UInt8) (p : Pr) : List UInt8 ⊕ (List UInt8 ⊕ (List UInt8 × Int)) := if okP p then .inl (s ++ encP p) else .inr (.inr ([], 23))
def stK (s : List UInt8) (p : Pr) : List UInt8 ⊕ (List UInt8 ⊕ (List UInt8 × Int)) := if okK p then .inl (s ++ encK p) else .inr (.inr ([], 23))
theorem runP_eq : ∀ (l : List Pr) (s : List UInt8), runE stP (fun s => .inl s) l s = if l.all okP then .inl (s ++ l.flatMap encP) else .inr ([], 23)
  | [], s => by simp [runE]
  | p :: l, s => by
    simp only [runE, stP]
    by_cases h : okP p = true
    · simp only [h, if_true, runP_eq l, List.all_cons, Bool.true_and, List.flatMap_cons, List.append_assoc]
    · simp [h]
theorem runK_eq : ∀ (l : List Pr) (s : List UInt8), runE stK (fun s => .inl s) l s = if l.all okK then .inl (s ++ l.flatMap encK) else .inr ([], 23)
  | [], s => by simp [runE]
  | p :: l, s => by
    simp only [runE, stK]
    by_cases h : okK p = true
    · simp only [h, if_true, runK_eq l, List.all_cons, Bool.true_and, List.flatMap_cons, List.append_assoc]
    · simp [h]
theorem encP_len (p : Pr) : (encP p).length = p.1.length + p.2.length + 4 := by simp [encP, tx_len]; omega
theorem encK_len (p : Pr) : (encK p).length = p.1.length + p.2.length + 2 := by simp [encK, tx_len]; omega
theorem SmallP.at {l : List Pr} (h : SmallP l) {i : Nat} {p : Pr} (hi : l[i]? = some p) : i < l.length ∧ i < 100000 ∧ p.1.length ≤ 100000 ∧ p.2.length ≤ 100000 := by
  have := (List.getElem?_eq_some_iff.1 hi).1
  exact ⟨this, Nat.lt_of_lt_of_le this h.1, h.2 p (List.mem_of_getElem? hi)⟩
theorem u8w (x : Int) : u8O (IntKind.u8.wrap x) = some (u8 (IntKind.u8.wrap x)) := by rw [wrap_u8']; exact u8O_of (by omega) (by omega)
theorem ndWrite_eq (n : Nd) (h1 : SmallP n.2.1) (h2 : SmallP n.2.2) : ndWrite n = some (wrN n) := by
  unfold ndWrite wrN
  rw [pRight_eq n (by have := h1.1; omega) (by have := h2.1; omega)]
  simp only [Option.bind_some]
  by_cases hr : rightN n = true
  · simp only [hr, Bool.not_true, Bool.false_eq_true, if_false, Bool.true_eq_false]
    rw [show u8O 84 = some 84 from rfl, u8w, u8w]
    simp only [Option.bind_some]
    rw [penRaw_eq _ _ (by simp)]
    simp only [Option.bind_some, List.nil_append]
    rw [loop_xs0 n.2.1 (fun s i => (s, i)) stP (fun s => .inl s) (fun i s => s.length ≤ 3 + 210000 * i) (by simp) (fun i s p hp hI => ?_) (fun s hI => by rw [if_neg (by omega)])]
    · rw [runP_eq]
      simp only [Option.bind_some]
      by_cases hp : n.2.1.all okP = true
      · rw [if_pos hp]
        simp only [Sum.elim_inl, hp, Bool.true_and]
        rw [loop_xs0 n.2.2 (fun s i => (s, i)) stK (fun s => .inl s) (fun i s => s.length ≤ 3 + 210000 * 100000 + 210000 * i) (by
          have : (n.2.1.flatMap encP).length ≤ 210000 * n.2.1.length := by
            have hh := h1.2
            generalize n.2.1 = l at hh
            clear h1 hp hr
            induction l with
            | nil => simp
            | cons p l ih =>
              have h3 := hh p List.mem_cons_self
              have h4 := ih (fun q hq => hh q (List.mem_cons_of_mem _ hq))
              rw [List.flatMap_cons, List.length_append, encP_len, List.length_cons]; omega
          have := h1.1
          simp only [List.length_append, List.length_cons, List.length_nil]; omega) (fun i s p hp hI => ?_) (fun s hI => by rw [if_neg (by omega)])]
        · rw [runK_eq]
          simp only [Option.bind_some]
          by_cases hk : n.2.2.all okK = true
          · rw [if_pos hk]
            simp only [Sum.elim_inl, hk, if_true]
            unfold penData
            have hlen : (enc n).length ≤ 274877906944 := by
              have f1 : ∀ l : List Pr, (∀ p ∈ l, p.1.length ≤ 100000 ∧ p.2.length ≤ 100000) → (l.flatMap encP).length ≤ 210000 * l.length ∧ (l.flatMap encK).length ≤ 210000 * l.length := by
                intro l
                induction l with
                | nil => simp
                | cons p l ih =>
                  intro hh
                  have h3 := hh p List.mem_cons_self
                  have h4 := ih (fun q hq => hh q (List.mem_cons_of_mem _ hq))
                  rw [List.flatMap_cons, List.flatMap_cons, List.length_append, List.length_append, encP_len, encK_len, List.length_cons]; omega
              have := (f1 _ h1.2).1
              have := (f1 _ h2.2).2
              have := h1.1
              have := h2.1
              simp only [enc, hd3, List.length_append, List.length_cons, List.length_nil]; omega
            have e : [84, u8 (IntKind.u8.wrap n.1), u8 (IntKind.u8.wrap (IntKind.i64.wrap ((n.2.1.length : Int) + (n.2.2.length : Int))))] ++ n.2.1.flatMap encP ++ n.2.2.flatMap encK = enc n := rfl
            rw [e, cloneB_eq _ hlen]
            simp only [Option.bind_some]
            by_cases h : 470 < (enc n).length
            · rw [if_pos (by omega), if_pos h]
            · rw [if_neg (by omega), if_neg h]
          · rw [if_neg hk]
            simp [hk]
        · obtain ⟨g1, g2, g3, g4⟩ := h2.at hp
          simp only
          rw [if_pos (by omega), idxO_nat hp]
          simp only [Option.bind_some]
          rw [penText_eq _ _ (by omega) (by omega)]
          simp only [Option.bind_some]
          unfold stK okK
          by_cases h : p.1.length < 65536
          · simp only [h, if_true, decide_true, Sum.elim_inl]
            rw [penRaw_eq _ _ (by simp [tx_len]; omega)]
            simp only [Option.bind_some]
            rw [i64_id (by omega) (by omega)]
            refine ⟨by simp [encK], fun s' hs' => ?_⟩
            cases hs'
            rw [List.length_append, encK_len]; omega
          · simp [h]
      · rw [if_neg hp]
        simp [hp]
    · obtain ⟨g1, g2, g3, g4⟩ := h1.at hp
      simp only
      rw [if_pos (by omega), idxO_nat hp]
      simp only [Option.bind_some]
      rw [penText_eq _ _ (by omega) (by omega)]
      simp only [Option.bind_some]
      unfold stP okP
      by_cases h : p.1.length < 65536
      · simp only [h, if_true, decide_true, Bool.true_and]
        rw [penText_eq _ _ (by omega) (by simp [tx_len]; omega)]
        simp only [Option.bind_some]
        by_cases h' : p.2.length < 65536
        · simp only [h', if_true, decide_true, Sum.elim_inl]
          rw [i64_id (by omega) (by omega)]
          refine ⟨by simp [encP], fun s' hs' => ?_⟩
          cases hs'
          rw [List.length_append, encP_len]; omega
        · simp [h']
      · simp [h]
  · simp only [Bool.not_eq_true] at hr
    simp [hr]
end Go.Proofs.YtnjemlkcamdbfaaGreatDoor
