/- Plain: texts and nodes as bytes; the order of texts. -/
import Derived.Test.YtnjemlkcamdbfaaGreatDoorSha
set_option linter.unusedSimpArgs false
set_option linter.unusedVariables false
namespace Go.Tri
/-- A loop over a list, with a way out. -/
def runE {α σ ρ : Type} (step : σ → α → σ ⊕ ρ) (fin : σ → ρ) : List α → σ → ρ
  | [], s => fin s
  | x :: xs, s => match step s x with | .inl s' => runE step fin xs s' | .inr r => r
theorem loop_xs {α σ ρ τ : Type} {f : τ → Option (τ ⊕ ρ)} (xs : List α) (mk : σ → Int → τ) (step : σ → α → σ ⊕ ρ) (fin : σ → ρ) (I : Nat → σ → Prop)
    (hs : ∀ (i : Nat) s x, xs[i]? = some x → I i s → f (mk s (i : Int)) = some ((step s x).elim (fun s' => .inl (mk s' ((i + 1 : Nat) : Int))) .inr) ∧ ∀ s', step s x = .inl s' → I (i + 1) s')
    (he : ∀ s, I xs.length s → f (mk s (xs.length : Int)) = some (.inr (fin s))) : ∀ (m i : Nat) (s : σ), i + m = xs.length → I i s → loopO f (mk s (i : Int)) = some (runE step fin (xs.drop i) s)
  | 0, i, s, h, hi => by
    obtain rfl : i = xs.length := by omega
    rw [loopO_eq, he s hi, List.drop_length]; rfl
  | m + 1, i, s, h, hi => by
    have hlt : i < xs.length := by omega
    obtain ⟨h1, h2⟩ := hs i s xs[i] (List.getElem?_eq_getElem hlt) hi
    rw [loopO_eq, h1, List.drop_eq_getElem_cons hlt]
    simp only [runE]
    cases e : step s xs[i] with
    | inl s' => exact loop_xs xs mk step fin I hs he m (i + 1) s' (by omega) (h2 s' e)
    | inr r => rfl
theorem loop_xs0 {α σ ρ τ : Type} {f : τ → Option (τ ⊕ ρ)} (xs : List α) (mk : σ → Int → τ) (step : σ → α → σ ⊕ ρ) (fin : σ → ρ) (I : Nat → σ → Prop) {s0 : σ} (h0 : I 0 s0)
    (hs : ∀ (i : Nat) s x, xs[i]? = some x → I i s → f (mk s (i : Int)) = some ((step s x).elim (fun s' => .inl (mk s' ((i + 1 : Nat) : Int))) .inr) ∧ ∀ s', step s x = .inl s' → I (i + 1) s')
    (he : ∀ s, I xs.length s → f (mk s (xs.length : Int)) = some (.inr (fin s))) : loopO f (mk s0 0) = some (runE step fin xs s0) := by
  have := loop_xs xs mk step fin I hs he xs.length 0 s0 (by omega) h0
  simpa using this
end Go.Tri
namespace Go.Proofs.YtnjemlkcamdbfaaGreatDoor
open Go.RowKit Go.Tri
abbrev Pr := List UInt8 × List UInt8
abbrev Nd := Int × List Pr × List Pr
/-! ### Numbers and texts -/
def len2 (n : Nat) : List UInt8 := [u8 ((n / 256 ^ 1 % 256 : Nat) : Int), u8 ((n / 256 ^ 0 % 256 : Nat) : Int)]
def tx (b : List UInt8) : List UInt8 := len2 b.length ++ b
theorem tx_len (b : List UInt8) : (tx b).length = b.length + 2 := by simp [tx, len2]
theorem foldl_app2 {α β : Type} (g : β → α) : ∀ (l : List β) (s : List α), l.foldl (fun s i => s ++ [g i]) s = s ++ l.map g
  | [], s => by simp
  | x :: l, s => by simp [foldl_app2 g l]
theorem cloneB_eq (s : List UInt8) (h : s.length ≤ 274877906944) : cloneB s = some s := by
  unfold cloneB; rw [appO_of (by simp; omega)]; rfl
theorem penRaw_eq (p b : List UInt8) (h : p.length + b.length ≤ 274877906944) : penRaw p b = some (p ++ b) := by
  unfold penRaw; rw [appO_of h]; rfl
theorem penUint2 (p : List UInt8) (n : Nat) (hn : n < 65536) (hp : p.length ≤ 100000000000) : penUint p (n : Int) 2 = some (0, p ++ len2 n) := by
  unfold penUint
  rw [if_neg (by omega), if_neg (by omega), if_pos (by omega)]
  rw [show IntKind.i64.wrap (8 * 2) = ((16 : Nat) : Int) from rfl, show IntKind.i64.wrap (2 - 1) = ((2 : Nat) : Int) - 1 from rfl]
  have hsh : shrO .u64 (n : Int) ((16 : Nat) : Int) = some (shrI .u64 (n : Int) ((16 : Nat) : Int)) := by unfold shrO; rw [if_pos (by omega)]
  rw [hsh]
  simp only [Option.bind_some]
  rw [shrI_nat .u64 _ _ (by show 16 ≤ 64; omega), if_neg (by have : n / 2 ^ 16 = 0 := Nat.div_eq_of_lt (by omega); omega)]
  rw [loop_down (fun (k : Nat) (s : List UInt8) => s ++ [u8 ((n / 256 ^ k % 256 : Nat) : Int)]) (fun s => s) (fun (k : Nat) (s : List UInt8) => k ≤ 8 ∧ s.length ≤ 100000001000 - k) ?hs2 ?he2 2 _ ⟨by omega, by omega⟩]
  case he2 => intro s _; rw [if_neg (by omega)]
  case hs2 =>
    intro k s ⟨hk, hl⟩
    refine ⟨?_, by omega, by simp; omega⟩
    rw [if_pos (by omega)]
    have h8 : IntKind.i64.wrap (8 * (k : Int)) = ((8 * k : Nat) : Int) := by rw [i64_id (by omega) (by omega)]; omega
    rw [h8]
    have hsh : shrO .u64 (n : Int) ((8 * k : Nat) : Int) = some (shrI .u64 (n : Int) ((8 * k : Nat) : Int)) := by unfold shrO; rw [if_pos (by omega)]
    rw [hsh]
    simp only [Option.bind_some]
    have hw : IntKind.u8.wrap (shrI .u64 (n : Int) ((8 * k : Nat) : Int)) = ((n / 256 ^ k % 256 : Nat) : Int) := by
      rw [shrI_nat .u64 _ _ (by show 8 * k ≤ 64; omega), wrap_u8', Nat.pow_mul]; rfl
    rw [hw, u8O_of (by omega) (by omega)]
    simp only [Option.bind_some]
    rw [appO_of (by simp; omega)]
    simp only [Option.bind_some]
    rw [i64_id (by omega) (by omega)]
  simp only [Option.bind_some]
  rw [foldl_app2 (fun k => u8 ((n / 256 ^ k % 256 : Nat) : Int))]
  rfl
theorem penUint2_big (p : List UInt8) (n : Nat) (hn : 65536 ≤ n) (hn2 : n ≤ 1000000000000) : penUint p (n : Int) 2 = some (1, p) := by
  unfold penUint
  rw [if_neg (by omega), if_neg (by omega), if_pos (by omega)]
  rw [show IntKind.i64.wrap (8 * 2) = ((16 : Nat) : Int) from rfl]
  have hsh : shrO .u64 (n : Int) ((16 : Nat) : Int) = some (shrI .u64 (n : Int) ((16 : Nat) : Int)) := by unfold shrO; rw [if_pos (by omega)]
  rw [hsh]
  simp only [Option.bind_some]
  rw [shrI_nat .u64 _ _ (by show 16 ≤ 64; omega), if_pos (by have : 1 ≤ n / 2 ^ 16 := by omega
                                                             omega)]
theorem penText_eq (p b : List UInt8) (hb : b.length ≤ 100000000) (hp : p.length ≤ 100000000000) : penText p b = some (if b.length < 65536 then (0, p ++ tx b) else (23, p)) := by
  unfold penText
  rw [u64_id (by omega) (by omega)]
  by_cases h : b.length < 65536
  · rw [penUint2 p _ h hp, if_pos h]
    simp only [Option.bind_some, if_true]
    rw [penRaw_eq _ _ (by simp [len2]; omega)]
    simp [tx]
  · rw [penUint2_big p _ (by omega) (by omega), if_neg h]
    simp
theorem rUint2 (n : Nat) (hn : n ≤ 1000000000000) : rUint (n : Int) 2 = some (if n < 65536 then (len2 n, 0) else ([], 1)) := by
  unfold rUint
  rw [if_neg (by omega), if_neg (by omega)]
  have h1 : mkO 2 (0 : UInt8) = some [0, 0] := rfl
  rw [h1]
  simp only [Option.bind_some]
  have hr : ∀ m : Nat, remO (m : Int) 256 = some ((m % 256 : Nat) : Int) := fun m => remO_nat m 256 (by omega)
  have hq : ∀ m : Nat, m ≤ 1000000000000 → quoO .u64 (m : Int) 256 = some ((m / 256 : Nat) : Int) := fun m hm => by
    unfold quoO
    rw [if_neg (by omega), show (m : Int).tdiv 256 = ((m / 256 : Nat) : Int) from (Int.ofNat_tdiv m 256).symm, u64_id (by omega) (by omega)]
  have hw : ∀ m : Nat, IntKind.u8.wrap (((m % 256 : Nat) : Int)) = ((m % 256 : Nat) : Int) := fun m => by rw [wrap_u8']; omega
  have hu : ∀ m : Nat, u8O (((m % 256 : Nat) : Int)) = some (u8 ((m % 256 : Nat) : Int)) := fun m => u8O_of (by omega) (by omega)
  rw [loopO_eq]
  simp only
  rw [if_pos (by omega), hr, show IntKind.i64.wrap (IntKind.i64.wrap (2 - 1) - 0) = ((1 : Nat) : Int) from rfl]
  simp only [Option.bind_some]
  rw [show idxO ([0, 0] : List UInt8) ((1 : Nat) : Int) = some 0 from rfl, hw, hu, hq n hn]
  simp only [Option.bind_some]
  rw [loopO_eq]
  simp only
  rw [show IntKind.i64.wrap (0 + 1) = 1 from rfl, if_pos (by omega), hr, show IntKind.i64.wrap (IntKind.i64.wrap (2 - 1) - 1) = ((0 : Nat) : Int) from rfl]
  simp only [Option.bind_some]
  rw [show idxO (([0, 0] : List UInt8).set ((1 : Nat) : Int).toNat (u8 ((n % 256 : Nat) : Int))) ((0 : Nat) : Int) = some 0 from rfl, hw, hu, hq (n / 256) (by omega)]
  simp only [Option.bind_some]
  rw [loopO_eq]
  simp only
  rw [show IntKind.i64.wrap (1 + 1) = 2 from rfl, if_neg (by omega)]
  simp only [Option.bind_some]
  by_cases h : n < 65536
  · rw [if_neg (by omega), if_pos h]
    simp [len2]
  · rw [if_pos (by omega), if_neg h]
theorem rText_eq (b : List UInt8) (hb : b.length ≤ 100000000) : rText b = some (if b.length < 65536 then (tx b, 0) else ([], 23)) := by
  unfold rText
  rw [u64_id (by omega) (by omega), rUint2 _ (by omega)]
  simp only [Option.bind_some]
  by_cases h : b.length < 65536
  · rw [if_pos h, if_pos h, if_pos rfl, appO_of (by simp [len2]; omega)]
    rfl
  · rw [if_neg h, if_neg h, if_neg (by decide)]
/-! ### The order of texts -/
theorem lss_cmp : ∀ a b : List UInt8, lssB a b = decide (Lib.compareBytes a b < 0)
  | [], [] => rfl
  | [], _ :: _ => rfl
  | _ :: _, [] => rfl
  | a :: as', b :: bs => by
    have ih := lss_cmp as' bs
    unfold lssB at ih ⊢
    simp only [Op.bytesLess, Lib.compareBytes]
    by_cases h1 : a < b
    · simp [h1]
    · by_cases h2 : b < a
      · have h3 : a ≠ b := fun e => by subst e; exact h1 h2
        simp [h1, h2, h3]
      · have h3 : a = b := UInt8.le_antisymm (UInt8.not_lt.1 h2) (UInt8.not_lt.1 h1)
        subst h3
        simp [h1, ih]
theorem geq_cmp (a b : List UInt8) : geqB a b = decide (0 ≤ Lib.compareBytes a b) := by
  unfold geqB; rw [lss_cmp]
  by_cases h : Lib.compareBytes a b < 0
  · simp [h]
  · simp [h, show 0 ≤ Lib.compareBytes a b by omega]
theorem leq_cmp (a b : List UInt8) : leqB a b = decide (Lib.compareBytes a b ≤ 0) := by
  unfold leqB; rw [lss_cmp]
  by_cases h : Lib.compareBytes a b < 0
  · simp [h, show Lib.compareBytes a b ≤ 0 by omega]
  · by_cases e : a = b
    · subst e; simp [cmp_self]
    · have : Lib.compareBytes a b ≠ 0 := fun h => e (cmp_zero a b h)
      simp [h, e, show ¬ Lib.compareBytes a b ≤ 0 by omega]
/-- Keys rise. -/
def Rises (l : List Pr) : Prop := l.Pairwise (fun p q => ltK p.1 q.1)
/-- Do neighbours rise? -/
def risB : List Pr → Bool
  | [] => true
  | [_] => true
  | p :: q :: l => decide (Lib.compareBytes p.1 q.1 < 0) && risB (q :: l)
theorem risB_iff : ∀ l : List Pr, risB l = true ↔ Rises l
  | [] => by simp [risB, Rises]
  | [_] => by simp [risB, Rises]
  | p :: q :: l => by
    have ih := risB_iff (q :: l)
    unfold Rises at ih ⊢
    rw [List.pairwise_cons]
    simp only [risB, Bool.and_eq_true, decide_eq_true_eq, ih]
    constructor
    · rintro ⟨h1, h2⟩
      refine ⟨fun r hr => ?_, h2⟩
      rcases List.mem_cons.1 hr with rfl | hr
      · exact h1
      · exact cmp_trans _ _ _ h1 (List.rel_of_pairwise_cons h2 hr)
    · rintro ⟨h1, h2⟩
      exact ⟨h1 q List.mem_cons_self, h2⟩
/-- All loops that look whether keys rise. -/
theorem ris_loop (l : List Pr) (hl : l.length ≤ 100000000) {f : Int → Option (Int ⊕ (Unit ⊕ Bool))} (hf : ∀ (i : Nat) (p q : Pr), 1 ≤ i → l[i - 1]? = some p → l[i]? = some q → f (i : Int) = some (if Lib.compareBytes p.1 q.1 < 0 then .inl ((i + 1 : Nat) : Int) else .inr (.inr false)))
    (he : ∀ i : Nat, l.length ≤ i → f (i : Int) = some (.inr (.inl ()))) : (Option.bind (α := Unit ⊕ Bool) (loopO f 1) fun o => Sum.elim (fun _ => some true) (fun rv => some rv) o) = some (risB l) := by
  have key : ∀ (m i : Nat), i + m = l.length → 1 ≤ i → (Option.bind (α := Unit ⊕ Bool) (loopO f (i : Int)) fun o => Sum.elim (fun _ => some true) (fun rv => some rv) o) = some (risB (l.drop (i - 1))) := by
    intro m
    induction m with
    | zero =>
      intro i h1 h2
      rw [loopO_eq, he i (by omega)]
      have : (l.drop (i - 1)).length = 1 := by rw [List.length_drop]; omega
      obtain ⟨p, hp⟩ := List.length_eq_one_iff.1 this
      rw [hp]; rfl
    | succ m ih =>
      intro i h1 h2
      have e1 : l[i - 1]? = some (l[i - 1]'(by omega)) := List.getElem?_eq_getElem (by omega)
      have e2 : l[i]? = some (l[i]'(by omega)) := List.getElem?_eq_getElem (by omega)
      rw [loopO_eq, hf i _ _ h2 e1 e2]
      have d1 : l.drop (i - 1) = l[i - 1]'(by omega) :: l[i]'(by omega) :: l.drop (i + 1) := by
        rw [List.drop_eq_getElem_cons (show i - 1 < l.length by omega), show i - 1 + 1 = i by omega, List.drop_eq_getElem_cons (show i < l.length by omega)]
      have d2 : l.drop i = l[i]'(by omega) :: l.drop (i + 1) := List.drop_eq_getElem_cons (by omega)
      rw [d1]
      simp only [risB]
      by_cases h : Lib.compareBytes (l[i - 1]'(by omega)).1 (l[i]'(by omega)).1 < 0
      · rw [if_pos h]
        have := ih (i + 1) (by omega) (by omega)
        rw [show i + 1 - 1 = i by omega, d2] at this
        simp only [Option.bind_some, h, decide_true, Bool.true_and]
        exact this
      · rw [if_neg h]
        simp [h]
  by_cases h0 : l.length = 0
  · rw [loopO_eq, show (1 : Int) = ((1 : Nat) : Int) from rfl, he 1 (by omega), List.length_eq_zero_iff.1 h0]; rfl
  · have := key (l.length - 1) 1 (by omega) (by omega)
    simpa using this
end Go.Proofs.YtnjemlkcamdbfaaGreatDoor
