/- Plain: disk and store. -/
import Derived.Test.YtfepdfjhejkemaaDoorSha
set_option linter.unusedSimpArgs false
set_option linter.unusedVariables false
namespace Go.Proofs.YtfepdfjhejkemaaDoor
open Go.RowKit Go.Tri
/-! ### Sectors -/
def len2 (n : Nat) : List UInt8 := [u8 ((n / 256 ^ 1 % 256 : Nat) : Int), u8 ((n / 256 ^ 0 % 256 : Nat) : Int)]
/-- The sector of a block. -/
def Wr (b : List UInt8) : List UInt8 := [66] ++ len2 b.length ++ b ++ List.replicate (509 - b.length) 0
theorem Wr_len (b : List UInt8) (h : b.length ≤ 470) : (Wr b).length = 512 := by simp [Wr, len2]; omega
theorem cloneB_eq (s : List UInt8) (h : s.length ≤ 274877906944) : cloneB s = some s := by
  unfold cloneB; rw [appO_of (by simp; omega)]; rfl
theorem penRaw_eq (p b : List UInt8) (h : p.length + b.length ≤ 274877906944) : penRaw p b = some (p ++ b) := by
  unfold penRaw; rw [appO_of h]; rfl
theorem penUint2 (p : List UInt8) (n : Nat) (hn : n ≤ 470) (hp : p.length ≤ 600) : penUint p (n : Int) 2 = some (0, p ++ len2 n) := by
  unfold penUint
  rw [if_neg (by omega), if_neg (by omega), if_pos (by omega)]
  rw [show IntKind.i64.wrap (8 * 2) = ((16 : Nat) : Int) from rfl, show IntKind.i64.wrap (2 - 1) = ((2 : Nat) : Int) - 1 from rfl]
  have hsh : shrO .u64 (n : Int) ((16 : Nat) : Int) = some (shrI .u64 (n : Int) ((16 : Nat) : Int)) := by unfold shrO; rw [if_pos (by omega)]
  rw [hsh]
  simp only [Option.bind_some]
  rw [shrI_nat .u64 _ _ (by show 16 ≤ 64; omega), if_neg (by have : n / 2 ^ 16 = 0 := Nat.div_eq_of_lt (by omega); omega)]
  rw [loop_down (fun (k : Nat) (s : List UInt8) => s ++ [u8 ((n / 256 ^ k % 256 : Nat) : Int)]) (fun s => s) (fun (k : Nat) (s : List UInt8) => k ≤ 8 ∧ s.length ≤ 10000 - k) ?hs2 ?he2 2 _ ⟨by omega, by omega⟩]
  case he2 => intro s _; rw [if_neg (by omega)]
  case hs2 =>
    intro k s ⟨hk, hl⟩
    refine ⟨?_, by omega, by simp; omega⟩
    rw [if_pos (by omega)]
    have h8 : IntKind.i64.wrap (8 * (k : Int)) = ((8 * k : Nat) : Int) := by rw [i64_id (by omega) (by omega)]; omega
    rw [h8]
    have hsh : shrO .u64 (n : Int) ((8 * k : Nat) : Int) = some (shrI .u64 (n : Int) ((8 * k : Nat) : Int)) := by unfold shrO; rw [if_pos (by omega)]
    rw [hsh]
    simp only [Option.bind_some]
    have hw : IntKind.u8.wrap (shrI .u64 (n : Int) ((8 * k : Nat) : Int)) = ((n / 256 ^ k % 256 : Nat) : Int) := by
      rw [shrI_nat .u64 _ _ (by show 8 * k ≤ 64; omega), wrap_u8', Nat.pow_mul]; rfl
    rw [hw, u8O_of (by omega) (by omega)]
    simp only [Option.bind_some]
    rw [appO_of (by simp; omega)]
    simp only [Option.bind_some]
    rw [i64_id (by omega) (by omega)]
  simp only [Option.bind_some]
  rw [foldl_app (fun k => u8 ((n / 256 ^ k % 256 : Nat) : Int))]
  rfl
theorem wrap_big (b : List UInt8) (h : 470 < b.length) : wrap b = some ([], 23) := by
  unfold wrap; rw [if_pos (by omega)]
theorem wrap_ok (b : List UInt8) (h : b.length ≤ 470) : wrap b = some (Wr b, 0) := by
  unfold wrap
  rw [if_neg (by omega), show u8O 66 = some 66 from rfl]
  simp only [Option.bind_some]
  rw [penRaw_eq _ _ (by simp), u64_id (by omega) (by omega)]
  simp only [Option.bind_some, List.nil_append]
  rw [penUint2 [66] b.length h (by simp)]
  simp only [Option.bind_some]
  rw [penRaw_eq _ _ (by simp [len2]; omega)]
  simp only [Option.bind_some]
  unfold secFull penData
  rw [cloneB_eq _ (by simp [len2]; omega)]
  simp only [Option.bind_some]
  have hl : ([66] ++ len2 b.length ++ b).length = b.length + 3 := by simp [len2]
  rw [hl, show IntKind.i64.wrap (512 - ((b.length + 3 : Nat) : Int)) = ((509 - b.length : Nat) : Int) by rw [i64_id (by omega) (by omega)]; omega]
  unfold appMkO
  rw [if_pos ⟨by rw [hl]; omega, by omega, by unfold room; rw [hl]; omega⟩]
  rfl
theorem eyeRaw_eq (e : List UInt8) (n : Nat) (h : n ≤ e.length) (hl : e.length ≤ 274877906944) : eyeRaw e (n : Int) = some (e.take n, 0, e.drop n) := by
  unfold eyeRaw
  rw [if_neg (by omega), if_neg (by omega), show slcO e 0 (n : Int) = some ((e.take n).drop 0) from slcO_of (i := 0) (by omega) h]
  simp only [Option.bind_some, List.drop_zero]
  rw [cloneB_eq _ (by simp; omega), slcO_of h (Nat.le_refl _), List.take_length]
  rfl
theorem eyeRaw_total (e : List UInt8) (n : Int) (hl : e.length ≤ 274877906944) : ∃ b r z, eyeRaw e n = some (b, r, z) ∧ b.length ≤ e.length := by
  by_cases h0 : n < 0
  · exact ⟨[], 1, e, by unfold eyeRaw; rw [if_pos h0], by simp⟩
  · by_cases h1 : (e.length : Int) < n
    · exact ⟨[], 20, e, by unfold eyeRaw; rw [if_neg h0, if_pos h1], by simp⟩
    · refine ⟨e.take n.toNat, 0, e.drop n.toNat, ?_, by simp; omega⟩
      have := eyeRaw_eq e n.toNat (by omega) hl
      rwa [show ((n.toNat : Nat) : Int) = n by omega] at this
def uintOf (b : List UInt8) : Int := iterF (fun i s => orI .u64 (shlI .u64 s 8) (IntKind.u64.wrap ((b.getD i 0).toNat : Int))) b.length 0 0
theorem eyeUint_eq (e : List UInt8) (n : Nat) (h1 : 1 ≤ n) (h8 : n ≤ 8) (h : n ≤ e.length) (hl : e.length ≤ 274877906944) : eyeUint e (n : Int) = some (uintOf (e.take n), 0, e.drop n) := by
  unfold eyeUint
  rw [if_neg (by omega), if_neg (by omega), eyeRaw_eq e n h hl]
  simp only [Option.bind_some]
  rw [(loop_for0 (fun i s => orI .u64 (shlI .u64 s 8) (IntKind.u64.wrap (((e.take n).getD i 0).toNat : Int))) (fun s => s) (e.take n).length (fun _ _ => True) ?hs ?he trivial).1]
  case he => intro s _; rw [if_neg (by omega)]
  case hs =>
    intro i s hi _
    have hi' := hi
    simp only [List.length_take] at hi'
    refine ⟨?_, trivial⟩
    rw [if_pos (by omega), idxO_getD 0 rfl hi]
    simp only [Option.bind_some]
    rw [i64_id (by omega) (by omega)]
    rfl
  rfl
theorem uint_two : ∀ (a : Fin 2) (b : Fin 256), orI .u64 (shlI .u64 (orI .u64 (shlI .u64 0 8) (IntKind.u64.wrap ((a : Nat) : Int))) 8) (IntKind.u64.wrap ((b : Nat) : Int)) = ((256 * (a : Nat) + (b : Nat) : Nat) : Int) := by decide +kernel
theorem uintOf_len2 (n : Nat) (hn : n ≤ 470) : uintOf (len2 n) = (n : Int) := by
  have ha : n / 256 < 2 := by omega
  have := uint_two ⟨n / 256, ha⟩ ⟨n % 256, Nat.mod_lt _ (by omega)⟩
  have e1 : (u8 ((n / 256 ^ 1 % 256 : Nat) : Int)).toNat = n / 256 := by simp [u8]; omega
  have e2 : (u8 ((n / 256 ^ 0 % 256 : Nat) : Int)).toNat = n % 256 := by simp [u8]; omega
  show orI .u64 (shlI .u64 (orI .u64 (shlI .u64 0 8) (IntKind.u64.wrap ((u8 ((n / 256 ^ 1 % 256 : Nat) : Int)).toNat : Int))) 8) (IntKind.u64.wrap ((u8 ((n / 256 ^ 0 % 256 : Nat) : Int)).toNat : Int)) = _
  rw [e1, e2, this]
  show ((256 * (n / 256) + n % 256 : Nat) : Int) = _
  rw [Nat.div_add_mod]
theorem equalB_eq (x y : List UInt8) (hx : x.length ≤ 274877906944) : equalB x y = some (decide (x = y)) := by
  unfold equalB
  by_cases hl : x.length = y.length
  · rw [if_pos (by omega)]
    have key : ∀ (m i : Nat), i + m = x.length → loopO (fun (s46 : Int) => if s46 < ((x).length : Int) then ((idxO x s46).bind fun x48 =>
      (idxO y s46).bind fun x51 =>
      if ((x48).toNat : Int) = ((x51).toNat : Int) then (some (.inl (IntKind.i64.wrap (s46 + 1))))
      else (some (.inr (.inr false))))
      else (some (.inr (.inl ())))) (i : Int) = some (if x.drop i = y.drop i then (.inl () : Unit ⊕ Bool) else .inr false) := by
      intro m
      induction m with
      | zero =>
        intro i hi
        rw [loopO_eq, if_neg (by omega)]
        simp [List.drop_eq_nil_of_le (show x.length ≤ i by omega), List.drop_eq_nil_of_le (show y.length ≤ i by omega)]
      | succ m ih =>
        intro i hi
        have h1 : i < x.length := by omega
        have h2 : i < y.length := by omega
        rw [loopO_eq, if_pos (by omega), idxO_getD 0 rfl h1, idxO_getD 0 rfl h2]
        simp only [Option.bind_some]
        have g1 : x.getD i 0 = x[i] := by simp [List.getD_eq_getElem?_getD, h1]
        have g2 : y.getD i 0 = y[i] := by simp [List.getD_eq_getElem?_getD, h2]
        rw [g1, g2, show x.drop i = x[i] :: x.drop (i + 1) from List.drop_eq_getElem_cons h1, show y.drop i = y[i] :: y.drop (i + 1) from List.drop_eq_getElem_cons h2]
        by_cases hc : x[i] = y[i]
        · rw [if_pos (by rw [hc]), i64_id (by omega) (by omega)]
          simp only [Option.bind_some]
          rw [show ((i : Int) + 1) = ((i + 1 : Nat) : Int) by omega, ih (i + 1) (by omega)]
          simp only [List.cons.injEq, hc, true_and]
        · rw [if_neg (fun h => hc (UInt8.toNat_inj.1 (by omega)))]
          simp only [List.cons.injEq, hc, false_and, if_false, Option.bind_some]
    have := key x.length 0 (by omega)
    rw [show (0 : Int) = ((0 : Nat) : Int) from rfl, this]
    simp only [Option.bind_some, List.drop_zero]
    by_cases h : x = y <;> simp [h]
  · rw [if_neg (by omega)]
    simp [show ¬ x = y from fun h => hl (by rw [h])]
/-- Any sector is read. -/
theorem unwrap_total (s : List UInt8) (hs : s.length = 512) : ∃ b r, unwrap s = some (b, r) ∧ (r = 0 → b.length ≤ 470 ∧ s = Wr b) := by
  unfold unwrap newEye
  rw [cloneB_eq _ (by omega)]
  simp only [Option.bind_some]
  rw [show (1 : Int) = ((1 : Nat) : Int) from rfl, eyeUint_eq s 1 (by omega) (by omega) (by omega) (by omega)]
  simp only [Option.bind_some]
  rw [show (2 : Int) = ((2 : Nat) : Int) from rfl, eyeUint_eq (s.drop 1) 2 (by omega) (by omega) (by simp; omega) (by simp; omega)]
  simp only [Option.bind_some]
  obtain ⟨b, r, z, e, hb⟩ := eyeRaw_total ((s.drop 1).drop 2) (IntKind.i64.wrap (uintOf ((s.drop 1).take 2))) (by simp; omega)
  rw [e]
  simp only [Option.bind_some]
  by_cases hr : r = 0
  · rw [if_pos hr]
    by_cases hbl : b.length ≤ 470
    · rw [wrap_ok b hbl]
      simp only [Option.bind_some, if_true]
      rw [equalB_eq _ _ (by rw [Wr_len b hbl]; omega)]
      simp only [Option.bind_some]
      by_cases hq : Wr b = s
      · exact ⟨b, 0, by simp [hq], fun _ => ⟨hbl, hq.symm⟩⟩
      · exact ⟨[], 22, by simp [hq], fun h => by omega⟩
    · rw [wrap_big b (by omega)]
      exact ⟨[], 22, rfl, fun h => by omega⟩
  · rw [if_neg hr]
    exact ⟨[], 22, rfl, fun h => by omega⟩
theorem unwrap_Wr (b : List UInt8) (h : b.length ≤ 470) : unwrap (Wr b) = some (b, 0) := by
  have hl := Wr_len b h
  unfold unwrap newEye
  rw [cloneB_eq _ (by omega)]
  simp only [Option.bind_some]
  rw [show (1 : Int) = ((1 : Nat) : Int) from rfl, eyeUint_eq _ 1 (by omega) (by omega) (by omega) (by omega)]
  simp only [Option.bind_some]
  have hd : (Wr b).drop 1 = len2 b.length ++ (b ++ List.replicate (509 - b.length) 0) := by simp [Wr]
  rw [hd]
  have h2 : (len2 b.length).length = 2 := rfl
  rw [show (2 : Int) = ((2 : Nat) : Int) from rfl, eyeUint_eq _ 2 (by omega) (by omega) (by simp [h2]) (by simp [h2]; omega)]
  simp only [Option.bind_some]
  rw [List.take_left' h2, List.drop_left' h2, uintOf_len2 _ h, i64_id (by omega) (by omega), eyeRaw_eq _ _ (by simp) (by simp; omega)]
  simp only [Option.bind_some, if_true, List.take_left', wrap_ok b h]
  rw [equalB_eq _ _ (by rw [hl]; omega)]
  simp
/-! ### Loops -/
theorem loop_run {σ ρ : Type} {f : σ → Option (σ ⊕ ρ)} (I : Nat → σ → Prop) (Q : ρ → Prop) (n : Nat)
    (hs : ∀ i s, i < n → I i s → (∃ s', f s = some (.inl s') ∧ I (i + 1) s') ∨ (∃ r, f s = some (.inr r) ∧ Q r))
    (he : ∀ s, I n s → ∃ r, f s = some (.inr r) ∧ Q r) : ∀ (m i : Nat) (s : σ), i + m = n → I i s → ∃ r, loopO f s = some r ∧ Q r
  | 0, i, s, h, hi => by
    obtain rfl : i = n := by omega
    obtain ⟨r, h1, h2⟩ := he s hi
    exact ⟨r, by rw [loopO_eq, h1]; rfl, h2⟩
  | m + 1, i, s, h, hi => by
    rcases hs i s (by omega) hi with ⟨s', h1, h2⟩ | ⟨r, h1, h2⟩
    · obtain ⟨r, h3, h4⟩ := loop_run I Q n hs he m (i + 1) s' (by omega) h2
      exact ⟨r, by rw [loopO_eq, h1]; exact h3, h4⟩
    · exact ⟨r, by rw [loopO_eq, h1]; rfl, h2⟩
theorem bind_runP {σ ρ τ : Type} {f : σ → Option (σ ⊕ ρ)} {k : ρ → Option τ} {C : Option τ → Prop} (I : Nat → σ → Prop) (Q : ρ → Prop) (n : Nat) {s0 : σ} (h0 : I 0 s0)
    (hs : ∀ i s, i < n → I i s → (∃ s', f s = some (.inl s') ∧ I (i + 1) s') ∨ (∃ r, f s = some (.inr r) ∧ Q r))
    (he : ∀ s, I n s → ∃ r, f s = some (.inr r) ∧ Q r) (hk : ∀ r, Q r → C (k r)) : C (Option.bind (loopO f s0) k) := by
  obtain ⟨r, h1, h2⟩ := loop_run I Q n hs he n 0 s0 (by omega) h0
  rw [h1]; exact hk r h2
theorem bind_run {σ ρ τ : Type} {f : σ → Option (σ ⊕ ρ)} {k : ρ → Option τ} {t : τ} (I : Nat → σ → Prop) (Q : ρ → Prop) (n : Nat) {s0 : σ} (h0 : I 0 s0)
    (hs : ∀ i s, i < n → I i s → (∃ s', f s = some (.inl s') ∧ I (i + 1) s') ∨ (∃ r, f s = some (.inr r) ∧ Q r))
    (he : ∀ s, I n s → ∃ r, f s = some (.inr r) ∧ Q r) (hk : ∀ r, Q r → k r = some t) : Option.bind (loopO f s0) k = some t :=
  bind_runP (C := fun o => o = some t) I Q n h0 hs he hk
theorem loop_find {ρ : Type} {f : Int → Option (Int ⊕ ρ)} {n : Nat} (free : Nat → Bool) (g : Nat → ρ) (e : ρ) (h1 : ∀ i : Nat, i < n → free i = false → f (i : Int) = some (.inl ((i + 1 : Nat) : Int))) (h2 : ∀ i : Nat, i < n → 2 ≤ i → free i = true → f (i : Int) = some (.inr (g i))) (h3 : f (n : Int) = some (.inr e)) :
    ∀ (m i : Nat), i + m = n → 2 ≤ i → (∃ k, i ≤ k ∧ k < n ∧ free k = true ∧ (∀ j, i ≤ j → j < k → free j = false) ∧ loopO f (i : Int) = some (g k)) ∨ ((∀ j, i ≤ j → j < n → free j = false) ∧ loopO f (i : Int) = some e)
  | 0, i, h, _ => by
    obtain rfl : i = n := by omega
    exact .inr ⟨fun j _ _ => by omega, by rw [loopO_eq, h3]; rfl⟩
  | m + 1, i, h, hi2 => by
    by_cases hf : free i = true
    · exact .inl ⟨i, Nat.le_refl _, by omega, hf, fun j _ _ => by omega, by rw [loopO_eq, h2 i (by omega) hi2 hf]; rfl⟩
    · have hf : free i = false := by simpa using hf
      have hl : loopO f (i : Int) = loopO f ((i + 1 : Nat) : Int) := by
        rw [loopO_eq, h1 i (by omega) hf]; rfl
      rcases loop_find free g e h1 h2 h3 m (i + 1) (by omega) (by omega) with ⟨k, a, b, c, d, e'⟩ | ⟨a, b⟩
      · exact .inl ⟨k, by omega, b, c, fun j hj hk => by
          by_cases h : j = i
          · rw [h]; exact hf
          · exact d j (by omega) hk, by rw [hl]; exact e'⟩
      · exact .inr ⟨fun j hj hk => by
          by_cases h : j = i
          · rw [h]; exact hf
          · exact a j (by omega) hk, by rw [hl]; exact b⟩
theorem bind_findP {ρ τ : Type} {f : Int → Option (Int ⊕ ρ)} {k : ρ → Option τ} {C : Option τ → Prop} {n : Nat} (free : Nat → Bool) (g : Nat → ρ) (e : ρ) (hn : 2 ≤ n) (h1 : ∀ i : Nat, i < n → free i = false → f (i : Int) = some (.inl ((i + 1 : Nat) : Int))) (h2 : ∀ i : Nat, i < n → 2 ≤ i → free i = true → f (i : Int) = some (.inr (g i))) (h3 : f (n : Int) = some (.inr e))
    (c1 : ∀ j, 2 ≤ j → j < n → free j = true → (∀ i, 2 ≤ i → i < j → free i = false) → C (k (g j))) (c2 : (∀ j, 2 ≤ j → j < n → free j = false) → C (k e)) : C (Option.bind (loopO f 2) k) := by
  rcases loop_find free g e h1 h2 h3 (n - 2) 2 (by omega) (by omega) with ⟨j, a1, a2, a3, a4, a5⟩ | ⟨a1, a2⟩
  · rw [show (2 : Int) = ((2 : Nat) : Int) from rfl, a5]; exact c1 j a1 a2 a3 a4
  · rw [show (2 : Int) = ((2 : Nat) : Int) from rfl, a2]; exact c2 a1
/-! ### The disk -/
def All512 (pl : List (List UInt8)) : Prop := ∀ i, i < pl.length → (pl.getD i []).length = 512
theorem diskNew_eq (n : Nat) (h1 : 1 ≤ n) (h2 : n ≤ 4096) : diskNew (n : Int) = some ((List.replicate n (List.replicate 512 0), [], -1, false), 0) := by
  unfold diskNew
  rw [if_neg (by omega), if_neg (by omega)]
  refine bind_run (fun i s => s = ((List.replicate i (List.replicate 512 0), [], -1, false), (i : Int))) (fun r => r = (List.replicate n (List.replicate 512 0), [], -1, false)) n rfl ?_ ?_ ?_
  · rintro i _ hi rfl
    refine .inl ⟨_, ?_, rfl⟩
    simp only
    rw [if_pos (by omega), show mkO 512 (0 : UInt8) = some (List.replicate 512 0) from rfl]
    simp only [Option.bind_some]
    rw [appO_of (by simp only [List.length_replicate, List.length_cons, List.length_nil]; omega), i64_id (by omega) (by omega), ← List.replicate_succ']
    rfl
  · rintro _ rfl
    refine ⟨_, ?_, rfl⟩
    simp only
    rw [if_neg (by omega)]
  · rintro _ rfl
    rfl
theorem diskRead_eq (pl : List (List UInt8)) (lim : Int) (i : Nat) (h : i < pl.length) (hl : (pl.getD i []).length ≤ 274877906944) : diskRead (pl, [], lim, false) (i : Int) = some (pl.getD i [], 0) := by
  unfold diskRead
  simp only
  rw [if_neg (by simp), if_neg (by omega), if_neg (by omega)]
  simp only [backL, List.zipIdx_nil, List.map_nil, List.reverse_nil, foldO, Option.bind_some, Sum.elim_inl]
  rw [idxO_getD [] rfl h]
  simp only [Option.bind_some]
  rw [cloneB_eq _ hl]
  rfl
theorem diskWrite_eq (pl : List (List UInt8)) (pen : List (Int × List UInt8)) (i : Nat) (data : List UInt8) (h : i < pl.length) (hd : data.length = 512) (hp : pen.length ≤ 1000000) :
    diskWrite (pl, pen, -1, false) (i : Int) data = some (0, (pl, pen ++ [((i : Int), data)], -1, false)) := by
  unfold diskWrite
  simp only
  rw [if_neg (by simp), if_neg (by omega), if_neg (by omega), if_pos (by omega)]
  have hc : diskCall (pl, pen, -1, false) = some (true, (pl, pen, -1, false)) := rfl
  rw [hc]
  simp only [Option.bind_some]
  rw [cloneB_eq _ (by omega)]
  simp only [Option.bind_some]
  rw [appO_of (by simp; omega)]
  rfl
def eff (pl : List (List UInt8)) (pen : List (Int × List UInt8)) : List (List UInt8) := pen.foldl (fun s p => s.set p.1.toNat p.2) pl
theorem eff_snoc (pl : List (List UInt8)) (pen : List (Int × List UInt8)) (p : Int × List UInt8) : eff pl (pen ++ [p]) = (eff pl pen).set p.1.toNat p.2 := by simp [eff]
theorem eff_len (pl : List (List UInt8)) : ∀ (pen : List (Int × List UInt8)), (eff pl pen).length = pl.length := by
  intro pen
  induction pen generalizing pl with
  | nil => rfl
  | cons p pen ih => show (eff (pl.set p.1.toNat p.2) pen).length = _; rw [ih]; simp
/-- What waits is in order. -/
def PenOk (n : Nat) (pen : List (Int × List UInt8)) : Prop := ∀ p ∈ pen, 0 ≤ p.1 ∧ p.1.toNat < n ∧ p.2.length = 512
theorem eff_512 : ∀ (pen : List (Int × List UInt8)) (pl : List (List UInt8)), All512 pl → PenOk pl.length pen → All512 (eff pl pen)
  | [], _, h, _ => h
  | p :: pen, pl, h, hp => by
    show All512 (eff (pl.set p.1.toNat p.2) pen)
    refine eff_512 pen _ ?_ (by rw [List.length_set]; exact fun q hq => hp q (List.mem_cons_of_mem _ hq))
    intro i hi
    rw [List.length_set] at hi
    rw [List.getD_eq_getElem?_getD, List.getElem?_set]
    split
    · rename_i h1
      rw [if_pos (by omega)]
      exact (hp p List.mem_cons_self).2.2
    · rw [← List.getD_eq_getElem?_getD]; exact h i hi
theorem set_get {α : Type} (l : List α) (i j : Nat) (x d : α) : (l.set i x).getD j d = if j = i ∧ i < l.length then x else l.getD j d := by
  rw [List.getD_eq_getElem?_getD, List.getElem?_set]
  by_cases h : i = j
  · subst h
    by_cases h2 : i < l.length
    · simp [h2]
    · simp [h2, List.getD_eq_getElem?_getD, List.getElem?_eq_none (show l.length ≤ i by omega)]
  · rw [if_neg h, if_neg (fun h' => h h'.1.symm), ← List.getD_eq_getElem?_getD]
/-! ### The store -/
abbrev Maps := (List UInt8 → Option Int) × (Int → Option (List UInt8)) × (List UInt8 → Option Int)
/-- What opening makes known of the sectors below k. -/
def Known (pl : List (List UInt8)) (k : Nat) (wh : List UInt8 → Option Int) (hs : Int → Option (List UInt8)) : Prop :=
  (∀ h j, wh h = some j → hs j = some h) ∧
  (∀ j h, hs j = some h → ∃ i : Nat, j = (i : Int) ∧ 2 ≤ i ∧ i < k ∧ i < pl.length ∧ ∃ b, b.length ≤ 470 ∧ pl.getD i [] = Wr b ∧ Hs b = h) ∧
  (∀ i b, 2 ≤ i → i < k → b.length ≤ 470 → pl.getD i [] = Wr b → (wh (Hs b)).isSome)
theorem known0 (pl : List (List UInt8)) : Known pl 0 fnil fnil := ⟨fun h j e => by simp [fnil] at e, fun j h e => by simp [fnil] at e, fun i b h1 h2 => by omega⟩
theorem stOpen_eq (pl : List (List UInt8)) (lim : Int) (h5 : All512 pl) (hn : pl.length ≤ 4096) :
    ∃ wh hs, stOpen (pl, [], lim, false) = some ((wh, hs, fnil), 0) ∧ Known pl pl.length wh hs := by
  unfold stOpen diskSectors
  simp only [Option.bind_some]
  refine bind_runP (C := fun o => ∃ wh hs, o = some ((wh, hs, fnil), 0) ∧ Known pl pl.length wh hs) (fun i s => s.2 = (i : Int) ∧ Known pl i s.1.1 s.1.2.1 ∧ s.1.2.2 = fnil) (fun r => ∃ wh hs, r = .inl (wh, hs, fnil) ∧ Known pl pl.length wh hs) pl.length ⟨rfl, known0 pl, rfl⟩ ?hs ?he ?hk
  case hk =>
    rintro _ ⟨wh, hs, rfl, hK⟩
    exact ⟨wh, hs, rfl, hK⟩
  case he =>
    rintro ⟨⟨wh, hs, mk⟩, k⟩ ⟨h1, h2, h3⟩
    simp only at h1 h2 h3
    subst h1; subst h3
    exact ⟨_, by simp only; rw [if_neg (by omega)], wh, hs, rfl, h2⟩
  case hs =>
    rintro i ⟨⟨wh, hs, mk⟩, k⟩ hi ⟨h1, hK, h3⟩
    simp only at h1 hK h3
    subst h1; subst h3
    obtain ⟨k1, k2, k3⟩ := hK
    left
    simp only
    have hl := h5 i hi
    rw [if_pos (by omega), diskRead_eq pl lim i hi (by omega)]
    simp only [Option.bind_some, if_true]
    obtain ⟨b, r, hu, hb⟩ := unwrap_total _ hl
    rw [hu, i64_id (by omega) (by omega)]
    simp only [Option.bind_some]
    have up : ∀ j h, hs j = some h → ∃ i' : Nat, j = (i' : Int) ∧ 2 ≤ i' ∧ i' < i + 1 ∧ i' < pl.length ∧ ∃ b, b.length ≤ 470 ∧ pl.getD i' [] = Wr b ∧ Hs b = h := fun j h e => by
      obtain ⟨i', a1, a2, a3, a4⟩ := k2 j h e
      exact ⟨i', a1, a2, by omega, a4⟩
    by_cases h2 : i < 2
    · rw [if_pos (by omega)]
      refine ⟨((wh, hs, fnil), ((i + 1 : Nat) : Int)), rfl, rfl, ⟨k1, up, fun i' b' c1 c2 c3 c4 => by omega⟩, rfl⟩
    · rw [if_neg (by omega)]
      by_cases hr : r = 0
      · obtain ⟨hbl, hbw⟩ := hb hr
        rw [if_pos hr, shaSum_eq b (by omega)]
        simp only [Option.bind_some]
        have same : ∀ b', b'.length ≤ 470 → pl.getD i [] = Wr b' → b' = b := fun b' c3 c4 => by
          have := unwrap_Wr b' c3
          rw [← c4, hu] at this
          injection this with this
          injection this with e1 e2
          exact e1.symm
        by_cases hw : (wh (Hs b)).isSome = true
        · rw [if_neg (by simp [hw])]
          refine ⟨((wh, hs, fnil), ((i + 1 : Nat) : Int)), rfl, rfl, ⟨k1, up, fun i' b' c1 c2 c3 c4 => ?_⟩, rfl⟩
          by_cases e : i' = i
          · subst e; rw [same b' c3 c4]; exact hw
          · exact k3 i' b' c1 (by omega) c3 c4
        · rw [if_pos (by simpa using hw)]
          have hno : ∀ h, wh h ≠ some (i : Int) := fun h e => by
            obtain ⟨i', a1, _, a3, _⟩ := k2 _ _ (k1 h _ e)
            omega
          refine ⟨((fset (Hs b) (i : Int) wh, fset (i : Int) (Hs b) hs, fnil), ((i + 1 : Nat) : Int)), rfl, rfl, ⟨?_, ?_, ?_⟩, rfl⟩
          · intro h j e
            simp only [fset] at e ⊢
            split at e
            · rename_i eh
              injection e with e
              rw [if_pos e.symm, eh]
            · rw [if_neg (fun ej => hno h (by rw [e, ej]))]
              exact k1 h j e
          · intro j h e
            simp only [fset] at e
            split at e
            · rename_i ej
              injection e with e
              exact ⟨i, ej, by omega, by omega, hi, b, hbl, hbw, e⟩
            · exact up j h e
          · intro i' b' c1 c2 c3 c4
            simp only [fset]
            split
            · rfl
            · rename_i hne
              by_cases e : i' = i
              · subst e; exact absurd (by rw [same b' c3 c4]) hne
              · exact k3 i' b' c1 (by omega) c3 c4
      · rw [if_neg hr]
        refine ⟨((wh, hs, fnil), ((i + 1 : Nat) : Int)), rfl, rfl, ⟨k1, up, fun i' b' c1 c2 c3 c4 => ?_⟩, rfl⟩
        by_cases e : i' = i
        · subst e
          have := unwrap_Wr b' c3
          rw [← c4, hu] at this
          injection this with this
          injection this with e1 e2
          exact absurd e2 hr
        · exact k3 i' b' c1 (by omega) c3 c4
/-- A free sector. -/
def freeB (hs : Int → Option (List UInt8)) (mk : List UInt8 → Option Int) (i : Int) : Bool := match hs i with
  | none => true
  | some h => decide ((mk h).getD 0 = 0)
theorem stfree_eq (d : (List (List UInt8)) × (List (Int × (List UInt8))) × Int × Bool) (wh : List UInt8 → Option Int) (hs : Int → Option (List UInt8)) (mk : List UInt8 → Option Int) (i : Int) : stfree (d, wh, hs, mk) i = some (freeB hs mk i) := by
  unfold stfree freeB
  simp only
  rcases Option.eq_none_or_eq_some (hs i) with h | ⟨x, h⟩
  · simp [h]
  · simp [h]
def z32 : List UInt8 := List.replicate 32 0
/-- The map of places when a sector is taken. -/
def unwh (hs : Int → Option (List UInt8)) (i : Int) (wh : List UInt8 → Option Int) : List UInt8 → Option Int := match hs i with
  | none => wh
  | some o => fdel o wh
theorem stPut_new (pl : List (List UInt8)) (pen : List (Int × List UInt8)) (wh : List UInt8 → Option Int) (hs : Int → Option (List UInt8)) (mk : List UInt8 → Option Int) (b : List UInt8) (hb : b.length ≤ 470) (hw : wh (Hs b) = none) (h2 : 2 ≤ pl.length) (hn : pl.length ≤ 4096) (hl : pen.length ≤ 1000000) :
    (∃ i : Nat, 2 ≤ i ∧ i < pl.length ∧ freeB hs mk i = true ∧ (∀ j : Nat, 2 ≤ j → j < i → freeB hs mk j = false) ∧
      stPut ((pl, pen, -1, false), wh, hs, mk) b = some (Hs b, 0, ((pl, pen ++ [((i : Int), Wr b)], -1, false), fset (Hs b) (i : Int) (unwh hs i wh), fset (i : Int) (Hs b) hs, fset (Hs b) 1 mk))) ∨
    ((∀ j : Nat, 2 ≤ j → j < pl.length → freeB hs mk j = false) ∧ stPut ((pl, pen, -1, false), wh, hs, mk) b = some (z32, 50, ((pl, pen, -1, false), wh, hs, mk))) := by
  unfold stPut
  rw [wrap_ok b hb]
  simp only [Option.bind_some, if_true]
  rw [shaSum_eq b (by omega)]
  simp only [Option.bind_some, stHas, hw, Option.isSome_none]
  rw [if_neg (by simp)]
  let g : Nat → Unit ⊕ ((List UInt8) × Int × (((List (List UInt8)) × (List (Int × (List UInt8))) × Int × Bool) × ((List UInt8) → Option Int) × (Int → Option (List UInt8)) × ((List UInt8) → Option Int))) := fun i => .inr (Hs b, 0, ((pl, pen ++ [((i : Int), Wr b)], -1, false), fset (Hs b) (i : Int) (unwh hs i wh), fset (i : Int) (Hs b) hs, fset (Hs b) 1 mk))
  refine bind_findP (C := fun o => (∃ i : Nat, 2 ≤ i ∧ i < pl.length ∧ freeB hs mk i = true ∧ (∀ j : Nat, 2 ≤ j → j < i → freeB hs mk j = false) ∧ o = some (Hs b, 0, ((pl, pen ++ [((i : Int), Wr b)], -1, false), fset (Hs b) (i : Int) (unwh hs i wh), fset (i : Int) (Hs b) hs, fset (Hs b) 1 mk))) ∨
    ((∀ j : Nat, 2 ≤ j → j < pl.length → freeB hs mk j = false) ∧ o = some (z32, 50, ((pl, pen, -1, false), wh, hs, mk)))) (n := pl.length) (fun i => freeB hs mk i) g (.inl ()) h2 ?h1 ?h2 ?h3 (fun j a1 a2 a3 a4 => .inl ⟨j, a1, a2, a3, a4, rfl⟩) (fun a1 => .inr ⟨a1, rfl⟩)
  case h1 =>
    intro i hi hf
    simp only [diskSectors, Option.bind_some]
    rw [if_pos (by omega), stfree_eq, hf]
    simp only [Option.bind_some]
    rw [i64_id (by omega) (by omega)]
    rfl
  case h2 =>
    intro i hi _ hf
    simp only [diskSectors, Option.bind_some]
    rw [if_pos (by omega), stfree_eq, hf]
    simp only [Option.bind_some]
    rw [if_neg (by simp), diskWrite_eq pl pen i (Wr b) hi (Wr_len b hb) hl]
    simp only [Option.bind_some, if_true, g, unwh]
    rcases hs (i : Int) with _ | o
    · rfl
    · rfl
  case h3 =>
    simp only [diskSectors, Option.bind_some]
    rw [if_neg (by omega)]
theorem stHold_eq (d : (List (List UInt8)) × (List (Int × (List UInt8))) × Int × Bool) (wh : List UInt8 → Option Int) (hs : Int → Option (List UInt8)) (mk : List UInt8 → Option Int) (l : List (List UInt8)) (hl : l.length ≤ 1000000) :
    stHold (d, wh, hs, mk) l = some (d, wh, hs, l.foldl (fun m h => fset h 1 m) fnil) := by
  unfold stHold
  simp only
  refine bind_run (fun i s => s = ((wh, hs, (l.take i).foldl (fun m h => fset h 1 m) fnil), (i : Int))) (fun r => r = (wh, hs, l.foldl (fun m h => fset h 1 m) fnil)) l.length rfl ?_ ?_ ?_
  · rintro i _ hi rfl
    refine .inl ⟨_, ?_, rfl⟩
    simp only
    rw [if_pos (by omega), idxO_getD [] rfl hi]
    simp only [Option.bind_some]
    rw [i64_id (by omega) (by omega), List.take_add_one, List.foldl_append, show l[i]?.toList = [l.getD i []] by simp [List.getD_eq_getElem?_getD, hi]]
    rfl
  · rintro _ rfl
    refine ⟨_, ?_, rfl⟩
    simp only
    rw [if_neg (by omega), List.take_length]
  · rintro _ rfl
    rfl
theorem hold_marks : ∀ (l : List (List UInt8)) (m : List UInt8 → Option Int) (h : List UInt8), h ∈ l ∨ m h = some 1 → l.foldl (fun m h => fset h 1 m) m h = some 1
  | [], m, h, hh => by
    rcases hh with hh | hh
    · cases hh
    · exact hh
  | x :: l, m, h, hh => by
    refine hold_marks l (fset x 1 m) h ?_
    by_cases e : h = x
    · right; simp [fset, e]
    · rcases hh with hh | hh
      · left; rcases List.mem_cons.1 hh with h' | h'
        · exact absurd h' e
        · exact h'
      · right; simp [fset, e, hh]
end Go.Proofs.YtfepdfjhejkemaaDoor
