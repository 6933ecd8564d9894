/- Plain: loops with a counter; words of 32 bits. -/
import Derived.Test.YtnjemlkcamdbfaaGreatDoorA5
set_option linter.unusedSimpArgs false
set_option linter.unusedVariables false
namespace Go.Tri
open Go.RowKit
/-- So many steps from i on. -/
def iterF {σ : Type} (step : Nat → σ → σ) : Nat → Nat → σ → σ
  | 0, _, s => s
  | m + 1, i, s => iterF step m (i + 1) (step i s)
theorem loop_for {σ ρ : Type} {f : σ × Int → Option ((σ × Int) ⊕ ρ)} (step : Nat → σ → σ) (fin : σ → ρ) (n : Nat) (I : Nat → σ → Prop)
    (hs : ∀ i s, i < n → I i s → f (s, (i : Int)) = some (.inl (step i s, ((i + 1 : Nat) : Int))) ∧ I (i + 1) (step i s)) (he : ∀ s, I n s → f (s, (n : Int)) = some (.inr (fin s))) :
    ∀ (m i : Nat) (s : σ), i + m = n → I i s → loopO f (s, (i : Int)) = some (fin (iterF step m i s)) ∧ I n (iterF step m i s)
  | 0, i, s, h, hi => by
    have : i = n := by omega
    subst this
    rw [loopO_eq, he s hi]
    exact ⟨rfl, hi⟩
  | m + 1, i, s, h, hi => by
    obtain ⟨h1, h2⟩ := hs i s (by omega) hi
    rw [loopO_eq, h1]
    exact loop_for step fin n I hs he m (i + 1) (step i s) (by omega) h2
theorem loop_for0 {σ ρ : Type} {f : σ × Int → Option ((σ × Int) ⊕ ρ)} (step : Nat → σ → σ) (fin : σ → ρ) (n : Nat) (I : Nat → σ → Prop)
    (hs : ∀ i s, i < n → I i s → f (s, (i : Int)) = some (.inl (step i s, ((i + 1 : Nat) : Int))) ∧ I (i + 1) (step i s)) (he : ∀ s, I n s → f (s, (n : Int)) = some (.inr (fin s))) {s0 : σ} (h0 : I 0 s0) :
    loopO f (s0, 0) = some (fin (iterF step n 0 s0)) ∧ I n (iterF step n 0 s0) := loop_for step fin n I hs he n 0 s0 (by omega) h0
theorem idxO_nat {α : Type} {xs : List α} {i : Nat} {x : α} (h : xs[i]? = some x) : idxO xs (i : Int) = some x := by
  unfold idxO; rw [if_pos (by omega)]; simpa using h
theorem idxO_get {α : Type} {xs : List α} {i : Nat} (h : i < xs.length) : idxO xs (i : Int) = some xs[i] := idxO_nat (List.getElem?_eq_getElem h)
theorem idxO_getD {α : Type} {xs : List α} {i : Int} {n : Nat} (d : α) (hi : i = (n : Int)) (h : n < xs.length) : idxO xs i = some (xs.getD n d) := by
  subst hi
  rw [idxO_get h]; simp [List.getD, List.getElem?_eq_getElem h]
theorem slcO_of {α : Type} {xs : List α} {i j : Nat} (h1 : i ≤ j) (h2 : j ≤ xs.length) : slcO xs (i : Int) (j : Int) = some ((xs.take j).drop i) := by
  unfold slcO; rw [if_pos ⟨by omega, by omega, by omega⟩]; simp
theorem appO_of {α : Type} [Cap α] {xs ys : List α} (h : xs.length + ys.length ≤ 274877906944) : appO xs ys = some (xs ++ ys) := by
  unfold appO; rw [if_pos (Nat.le_trans h Cap.le)]
theorem appO_byte {xs ys : List UInt8} (h : xs.length + ys.length ≤ 140737488355328) : appO xs ys = some (xs ++ ys) := by
  unfold appO; rw [if_pos (show xs.length + ys.length ≤ Cap.cap UInt8 from h)]
theorem wrap_u32' (n : Int) : IntKind.u32.wrap n = n % 4294967296 := by
  unfold IntKind.wrap; simp [IntKind.signed, IntKind.bits]
theorem wrap_u8' (n : Int) : IntKind.u8.wrap n = n % 256 := by
  unfold IntKind.wrap; simp [IntKind.signed, IntKind.bits]
theorem wrap_u64' (n : Int) : IntKind.u64.wrap n = n % 18446744073709551616 := by
  unfold IntKind.wrap; simp [IntKind.signed, IntKind.bits]
theorem i64_id {n : Int} (h1 : -9223372036854775808 ≤ n) (h2 : n ≤ 9223372036854775807) : IntKind.i64.wrap n = n := wrap_i64 rfl h1 h2
theorem i64_nat {n : Nat} (h2 : n ≤ 9223372036854775807) : IntKind.i64.wrap (n : Int) = n := wrap_i64 rfl (by omega) (by omega)
theorem u64_id {n : Int} (h1 : 0 ≤ n) (h2 : n < 18446744073709551616) : IntKind.u64.wrap n = n := wrap_u64 rfl h1 (by omega)
theorem u8_ok (c : UInt8) : u8O (c.toNat : Int) = some c := by
  unfold u8O
  have := c.toNat_lt
  rw [if_pos ⟨by omega, by omega⟩]
  simp [u8]
theorem u8O_of {n : Int} (h1 : 0 ≤ n) (h2 : n < 256) : u8O n = some (u8 n) := by unfold u8O; rw [if_pos ⟨h1, h2⟩]
theorem orI_comm (k : IntKind) (x y : Int) : orI k x y = orI k y x := by unfold orI; rw [BitVec.or_comm]
/-- A word turned to the right. -/
def rot (x : Int) (c : Nat) : Int := orI .u32 (shrI .u32 x c) (shlI .u32 x ((32 - c : Nat) : Int))
theorem shl_or {x b : Int} (hx : 0 ≤ x) (hx2 : x < 16777216) (hb : 0 ≤ b) (hb2 : b < 256) : orI .u32 (shlI .u32 x 8) b = x * 256 + b := by
  obtain ⟨n, rfl⟩ := Int.eq_ofNat_of_zero_le hx
  obtain ⟨m, rfl⟩ := Int.eq_ofNat_of_zero_le hb
  have e1 : shlI .u32 (n : Int) 8 = ((n * 256 : Nat) : Int) := by
    unfold shlI
    rw [wrap_u32']
    have : (2 : Int) ^ min (8 : Int).toNat IntKind.u32.bits = 256 := by decide
    rw [this]
    omega
  rw [e1]
  unfold orI
  have e2 : (BitVec.ofInt IntKind.u32.bits ((n * 256 : Nat) : Int) ||| BitVec.ofInt IntKind.u32.bits (m : Int)).toNat = n * 256 + m := by
    rw [BitVec.toNat_or, BitVec.toNat_ofInt, BitVec.toNat_ofInt]
    have h1 : (((n * 256 : Nat) : Int) % ((2 ^ IntKind.u32.bits : Nat) : Int)).toNat = n * 256 := by
      have : ((2 ^ IntKind.u32.bits : Nat) : Int) = 4294967296 := by decide
      rw [this]; omega
    have h2 : ((m : Int) % ((2 ^ IntKind.u32.bits : Nat) : Int)).toNat = m := by
      have : ((2 ^ IntKind.u32.bits : Nat) : Int) = 4294967296 := by decide
      rw [this]; omega
    rw [h1, h2]
    have h3 : m < 2 ^ 8 := by omega
    have := Nat.shiftLeft_add_eq_or_of_lt h3 n
    rw [Nat.shiftLeft_eq] at this
    exact this.symm
  rw [e2, wrap_u32']
  omega
theorem shl_nat {n c : Nat} (hc : c ≤ 32) (h : n * 2 ^ c < 4294967296) : shlI .u32 (n : Int) (c : Int) = ((n * 2 ^ c : Nat) : Int) := by
  unfold shlI
  rw [wrap_u32']
  have h1 : min (c : Int).toNat IntKind.u32.bits = c := by
    have : IntKind.u32.bits = 32 := rfl
    rw [this]; omega
  rw [h1]
  have h2 : (n : Int) * 2 ^ c = ((n * 2 ^ c : Nat) : Int) := by push_cast; rfl
  rw [h2]; omega
theorem or_nat {a m k : Nat} (h : m < 2 ^ k) (ha : a * 2 ^ k + m < 4294967296) : orI .u32 ((a * 2 ^ k : Nat) : Int) (m : Int) = ((a * 2 ^ k + m : Nat) : Int) := by
  unfold orI
  have e2 : (BitVec.ofInt IntKind.u32.bits ((a * 2 ^ k : Nat) : Int) ||| BitVec.ofInt IntKind.u32.bits (m : Int)).toNat = a * 2 ^ k + m := by
    rw [BitVec.toNat_or, BitVec.toNat_ofInt, BitVec.toNat_ofInt]
    have hb : ((2 ^ IntKind.u32.bits : Nat) : Int) = 4294967296 := by decide
    rw [hb]
    have h1 : (((a * 2 ^ k : Nat) : Int) % 4294967296).toNat = a * 2 ^ k := by omega
    have h2 : ((m : Int) % 4294967296).toNat = m := by omega
    rw [h1, h2]
    have := Nat.shiftLeft_add_eq_or_of_lt h a
    rw [Nat.shiftLeft_eq] at this
    exact this.symm
  rw [e2, wrap_u32']
  omega
/-- A loop that counts down. -/
theorem loop_down {σ ρ : Type} {f : σ × Int → Option ((σ × Int) ⊕ ρ)} (step : Nat → σ → σ) (fin : σ → ρ) (I : Nat → σ → Prop)
    (hs : ∀ i s, I (i + 1) s → f (s, (i : Int)) = some (.inl (step i s, (i : Int) - 1)) ∧ I i (step i s)) (he : ∀ s, I 0 s → f (s, -1) = some (.inr (fin s))) :
    ∀ (n : Nat) (s : σ), I n s → loopO f (s, (n : Int) - 1) = some (fin ((List.range n).reverse.foldl (fun s i => step i s) s))
  | 0, s, h => by
    rw [loopO_eq]
    have : f (s, ((0 : Nat) : Int) - 1) = some (.inr (fin s)) := he s h
    rw [this]; rfl
  | n + 1, s, h => by
    obtain ⟨h1, h2⟩ := hs n s h
    rw [loopO_eq]
    have e : ((n + 1 : Nat) : Int) - 1 = n := by omega
    rw [e, h1]
    show loopO f (step n s, (n : Int) - 1) = _
    rw [loop_down step fin I hs he n (step n s) h2, List.range_succ, List.reverse_append]
    rfl
theorem remO_nat (n m : Nat) (h : m ≠ 0) : remO (n : Int) (m : Int) = some ((n % m : Nat) : Int) := by
  unfold remO
  rw [if_neg (by omega), Int.tmod_eq_emod_of_nonneg (by omega)]; rfl
theorem quoO_nat (n m : Nat) (h : m ≠ 0) (hn : n ≤ 9223372036854775807) : quoO .i64 (n : Int) (m : Int) = some ((n / m : Nat) : Int) := by
  unfold quoO
  rw [if_neg (by omega), Int.tdiv_eq_ediv_of_nonneg (by omega)]
  have : ((n : Int) / (m : Int)) = ((n / m : Nat) : Int) := rfl
  rw [this, i64_nat (Nat.le_trans (Nat.div_le_self _ _) hn)]
theorem shrI_nat (k : IntKind) (n c : Nat) (hc : c ≤ k.bits) : shrI k (n : Int) (c : Int) = ((n / 2 ^ c : Nat) : Int) := by
  unfold shrI
  rw [show min (c : Int).toNat k.bits = c by omega, Int.fdiv_eq_ediv_of_nonneg _ (by exact_mod_cast Nat.zero_le (2 ^ c))]
  push_cast; rfl
theorem rotr_eq {rotr : Int → Int → Option Int} (h : ∀ x n, rotr x n = (shrO .u32 x (IntKind.u64.wrap n)).bind fun a => (shlO .u32 x (IntKind.u64.wrap (IntKind.i64.wrap (32 - n)))).bind fun b => some (orI .u32 a b)) (x : Int) (c : Nat) (hc : c ≤ 32) : rotr x (c : Int) = some (rot x c) := by
  rw [h, u64_id (by omega) (by omega), i64_id (by omega) (by omega), u64_id (by omega) (by omega)]
  unfold shrO shlO
  rw [if_pos (by omega), if_pos (by omega)]
  simp only [Option.bind_some]
  unfold rot
  rw [show (32 : Int) - (c : Int) = ((32 - c : Nat) : Int) by omega]
theorem and31 : ∀ c : Fin 32, c ≠ 0 → andI .u64 (IntKind.u64.wrap (IntKind.i64.wrap (0 - ((c : Nat) : Int)))) 31 = ((32 - (c : Nat) : Nat) : Int) := by decide +kernel
theorem rotL_eq {rl : Int → Int → Option Int} (h : ∀ x k, rl x k = (shlO .u32 x (andI .u64 (IntKind.u64.wrap k) 31)).bind fun a => (shrO .u32 x (IntKind.u64.wrap (32 - (andI .u64 (IntKind.u64.wrap k) 31)))).bind fun b => some (orI .u32 a b)) (x : Int) (c : Nat) (h0 : c ≠ 0) (hc : c < 32) : rl x (IntKind.i64.wrap (0 - (c : Int))) = some (rot x c) := by
  have h1 := and31 ⟨c, hc⟩ (fun e => h0 (congrArg Fin.val e))
  rw [h, h1, show (32 : Int) - ((32 - c : Nat) : Int) = c by omega, u64_id (by omega) (by omega)]
  unfold shrO shlO
  rw [if_pos (by omega), if_pos (by omega)]
  simp only [Option.bind_some]
  unfold rot
  rw [orI_comm]
theorem iter_set {α : Type} (g : Nat → α) : ∀ (m i : Nat) (s : List α) (k : Nat), (iterF (fun i s => s.set i (g i)) m i s)[k]? = if i ≤ k ∧ k < i + m ∧ k < s.length then some (g k) else s[k]?
  | 0, i, s, k => by rw [if_neg (by omega)]; rfl
  | m + 1, i, s, k => by
    show (iterF _ m (i + 1) (s.set i (g i)))[k]? = _
    rw [iter_set g m]
    simp only [List.length_set, List.getElem?_set]
    by_cases h1 : i + 1 ≤ k ∧ k < i + 1 + m ∧ k < s.length
    · rw [if_pos h1, if_pos (by omega)]
    · rw [if_neg h1]
      by_cases h2 : i = k
      · subst h2
        by_cases h3 : i < s.length
        · rw [if_pos rfl, if_pos h3, if_pos (by omega)]
        · rw [if_pos rfl, if_neg h3, if_neg (by omega), List.getElem?_eq_none (by omega)]
      · rw [if_neg h2, if_neg (by omega)]
theorem iter_set_all {α : Type} (g : Nat → α) (n : Nat) (s : List α) (h : s.length = n) : iterF (fun i s => s.set i (g i)) n 0 s = (List.range n).map g := by
  apply List.ext_getElem?
  intro k
  rw [iter_set]
  by_cases hk : k < n
  · rw [if_pos (by omega)]; simp [hk]
  · rw [if_neg (by omega), List.getElem?_eq_none (by omega), List.getElem?_eq_none (by simp; omega)]
theorem word_or (a b c d : UInt8) : orI .u32 (orI .u32 (orI .u32 (shlI .u32 (IntKind.u32.wrap (a.toNat : Int)) 24) (shlI .u32 (IntKind.u32.wrap (b.toNat : Int)) 16)) (shlI .u32 (IntKind.u32.wrap (c.toNat : Int)) 8)) (IntKind.u32.wrap (d.toNat : Int)) = ((((a.toNat * 256 + b.toNat) * 256 + c.toNat) * 256 + d.toNat : Nat) : Int) := by
  have ha := a.toNat_lt
  have hb := b.toNat_lt
  have hc := c.toNat_lt
  have hd := d.toNat_lt
  have w : ∀ n : Nat, n < 256 → IntKind.u32.wrap (n : Int) = n := fun n h => by rw [wrap_u32']; omega
  rw [w _ ha, w _ hb, w _ hc, w _ hd]
  have s1 : shlI .u32 (a.toNat : Int) 24 = ((a.toNat * 2 ^ 24 : Nat) : Int) := shl_nat (n := a.toNat) (c := 24) (by omega) (by omega)
  have s2 : shlI .u32 (b.toNat : Int) 16 = ((b.toNat * 2 ^ 16 : Nat) : Int) := shl_nat (n := b.toNat) (c := 16) (by omega) (by omega)
  have s3 : shlI .u32 (c.toNat : Int) 8 = ((c.toNat * 2 ^ 8 : Nat) : Int) := shl_nat (n := c.toNat) (c := 8) (by omega) (by omega)
  rw [s1, s2, s3, or_nat (a := a.toNat) (m := b.toNat * 2 ^ 16) (k := 24) (by omega) (by omega)]
  rw [show a.toNat * 2 ^ 24 + b.toNat * 2 ^ 16 = (a.toNat * 256 + b.toNat) * 2 ^ 16 by omega, or_nat (a := a.toNat * 256 + b.toNat) (m := c.toNat * 2 ^ 8) (k := 16) (by omega) (by omega)]
  rw [show (a.toNat * 256 + b.toNat) * 2 ^ 16 + c.toNat * 2 ^ 8 = ((a.toNat * 256 + b.toNat) * 256 + c.toNat) * 2 ^ 8 by omega, or_nat (a := (a.toNat * 256 + b.toNat) * 256 + c.toNat) (m := d.toNat) (k := 8) (by omega) (by omega)]
theorem set_getD {α : Type} (xs : List α) (i : Nat) (x d : α) (j : Nat) : (xs.set i x).getD j d = if i = j ∧ j < xs.length then x else xs.getD j d := by
  simp only [List.getD_eq_getElem?_getD, List.getElem?_set]
  by_cases h : i = j
  · subst h
    by_cases h2 : i < xs.length
    · simp [h2]
    · simp [h2]
  · simp [h]
/-! ### Loops -/
theorem loop_run {σ ρ : Type} {f : σ → Option (σ ⊕ ρ)} (I : Nat → σ → Prop) (Q : ρ → Prop) (n : Nat)
    (hs : ∀ i s, i < n → I i s → (∃ s', f s = some (.inl s') ∧ I (i + 1) s') ∨ (∃ r, f s = some (.inr r) ∧ Q r))
    (he : ∀ s, I n s → ∃ r, f s = some (.inr r) ∧ Q r) : ∀ (m i : Nat) (s : σ), i + m = n → I i s → ∃ r, loopO f s = some r ∧ Q r
  | 0, i, s, h, hi => by
    obtain rfl : i = n := by omega
    obtain ⟨r, h1, h2⟩ := he s hi
    exact ⟨r, by rw [loopO_eq, h1]; rfl, h2⟩
  | m + 1, i, s, h, hi => by
    rcases hs i s (by omega) hi with ⟨s', h1, h2⟩ | ⟨r, h1, h2⟩
    · obtain ⟨r, h3, h4⟩ := loop_run I Q n hs he m (i + 1) s' (by omega) h2
      exact ⟨r, by rw [loopO_eq, h1]; exact h3, h4⟩
    · exact ⟨r, by rw [loopO_eq, h1]; rfl, h2⟩
theorem bind_runP {σ ρ τ : Type} {f : σ → Option (σ ⊕ ρ)} {k : ρ → Option τ} {C : Option τ → Prop} (I : Nat → σ → Prop) (Q : ρ → Prop) (n : Nat) {s0 : σ} (h0 : I 0 s0)
    (hs : ∀ i s, i < n → I i s → (∃ s', f s = some (.inl s') ∧ I (i + 1) s') ∨ (∃ r, f s = some (.inr r) ∧ Q r))
    (he : ∀ s, I n s → ∃ r, f s = some (.inr r) ∧ Q r) (hk : ∀ r, Q r → C (k r)) : C (Option.bind (loopO f s0) k) := by
  obtain ⟨r, h1, h2⟩ := loop_run I Q n hs he n 0 s0 (by omega) h0
  rw [h1]; exact hk r h2
theorem bind_run {σ ρ τ : Type} {f : σ → Option (σ ⊕ ρ)} {k : ρ → Option τ} {t : τ} (I : Nat → σ → Prop) (Q : ρ → Prop) (n : Nat) {s0 : σ} (h0 : I 0 s0)
    (hs : ∀ i s, i < n → I i s → (∃ s', f s = some (.inl s') ∧ I (i + 1) s') ∨ (∃ r, f s = some (.inr r) ∧ Q r))
    (he : ∀ s, I n s → ∃ r, f s = some (.inr r) ∧ Q r) (hk : ∀ r, Q r → k r = some t) : Option.bind (loopO f s0) k = some t :=
  bind_runP (C := fun o => o = some t) I Q n h0 hs he hk
end Go.Tri
