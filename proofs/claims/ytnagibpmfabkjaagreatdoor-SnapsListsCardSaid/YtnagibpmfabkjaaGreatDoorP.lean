/- Plain: loops with a counter; words of 32 bits. -/
import Derived.Test.YtnagibpmfabkjaaGreatDoorA5
set_option linter.unusedSimpArgs false
set_option linter.unusedVariables false
namespace Go.Tri
open Go.RowKit
/-- So many steps from i on. -/
def iterF {σ : Type} (step : Nat → σ → σ) : Nat → Nat → σ → σ
  | 0, _, s => s
  | m + 1, i, s => iterF step m (i + 1) (step i s)
theorem loop_for {σ ρ : Type} {f : σ × Int → Option ((σ × Int) ⊕ ρ)} (step : Nat → σ → σ) (fin : σ → ρ) (n : Nat) (I : Nat → σ → Prop)
    (hs : ∀ i s, i < n → I i s → f (s, (i : Int)) = some (.inl (step i s, ((i + 1 : Nat) : Int))) ∧ I (i + 1) (step i s)) (he : ∀ s, I n s → f (s, (n : Int)) = some (.inr (fin s))) :
    ∀ (m i : Nat) (s : σ), i + m = n → I i s → loopO f (s, (i : Int)) = some (fin (iterF step m i s)) ∧ I n (iterF step m i s)
  | 0, i, s, h, hi => by
    have : i = n := by omega
    subst this
    rw [loopO_eq, he s hi]
    exact ⟨rfl, hi⟩
  | m + 1, i, s, h, hi => by
    obtain ⟨h1, h2⟩ := hs i s (by omega) hi
    rw [loopO_eq, h1]
    exact loop_for step fin n I hs he m (i + 1) (step i s) (by omega) h2
theorem loop_for0 {σ ρ : Type} {f : σ × Int → Option ((σ × Int) ⊕ ρ)} (step : Nat → σ → σ) (fin : σ → ρ) (n : Nat) (I : Nat → σ → Prop)
    (hs : ∀ i s, i < n → I i s → f (s, (i : Int)) = some (.inl (step i s, ((i + 1 : Nat) : Int))) ∧ I (i + 1) (step i s)) (he : ∀ s, I n s → f (s, (n : Int)) = some (.inr (fin s))) {s0 : σ} (h0 : I 0 s0) :
    loopO f (s0, 0) = some (fin (iterF step n 0 s0)) ∧ I n (iterF step n 0 s0) := loop_for step fin n I hs he n 0 s0 (by omega) h0
theorem idxO_nat {α : Type} {xs : List α} {i : Nat} {x : α} (h : xs[i]? = some x) : idxO xs (i : Int) = some x := by
  unfold idxO; rw [if_pos (by omega)]; simpa using h
theorem idxO_get {α : Type} {xs : List α} {i : Nat} (h : i < xs.length) : idxO xs (i : Int) = some xs[i] := idxO_nat (List.getElem?_eq_getElem h)
theorem idxO_getD {α : Type} {xs : List α} {i : Int} {n : Nat} (d : α) (hi : i = (n : Int)) (h : n < xs.length) : idxO xs i = some (xs.getD n d) := by
  subst hi
  rw [idxO_get h]; simp [List.getD, List.getElem?_eq_getElem h]
theorem slcO_of {α : Type} {xs : List α} {i j : Nat} (h1 : i ≤ j) (h2 : j ≤ xs.length) : slcO xs (i : Int) (j : Int) = some ((xs.take j).drop i) := by
  unfold slcO; rw [if_pos ⟨by omega, by omega, by omega⟩]; simp
theorem appO_of {α : Type} [Cap α] {xs ys : List α} (h : xs.length + ys.length ≤ 274877906944) : appO xs ys = some (xs ++ ys) := by
  unfold appO; rw [if_pos (Nat.le_trans h Cap.le)]
theorem appO_byte {xs ys : List UInt8} (h : xs.length + ys.length ≤ 140737488355328) : appO xs ys = some (xs ++ ys) := by
  unfold appO; rw [if_pos (show xs.length + ys.length ≤ Cap.cap UInt8 from h)]
theorem wrap_u8' (n : Int) : IntKind.u8.wrap n = n % 256 := by
  unfold IntKind.wrap; simp [IntKind.signed, IntKind.bits]
theorem i64_id {n : Int} (h1 : -9223372036854775808 ≤ n) (h2 : n ≤ 9223372036854775807) : IntKind.i64.wrap n = n := wrap_i64 rfl h1 h2
theorem u64_id {n : Int} (h1 : 0 ≤ n) (h2 : n < 18446744073709551616) : IntKind.u64.wrap n = n := wrap_u64 rfl h1 (by omega)
theorem u8O_of {n : Int} (h1 : 0 ≤ n) (h2 : n < 256) : u8O n = some (u8 n) := by unfold u8O; rw [if_pos ⟨h1, h2⟩]
/-- A loop that counts down. -/
theorem loop_down {σ ρ : Type} {f : σ × Int → Option ((σ × Int) ⊕ ρ)} (step : Nat → σ → σ) (fin : σ → ρ) (I : Nat → σ → Prop)
    (hs : ∀ i s, I (i + 1) s → f (s, (i : Int)) = some (.inl (step i s, (i : Int) - 1)) ∧ I i (step i s)) (he : ∀ s, I 0 s → f (s, -1) = some (.inr (fin s))) :
    ∀ (n : Nat) (s : σ), I n s → loopO f (s, (n : Int) - 1) = some (fin ((List.range n).reverse.foldl (fun s i => step i s) s))
  | 0, s, h => by
    rw [loopO_eq]
    have : f (s, ((0 : Nat) : Int) - 1) = some (.inr (fin s)) := he s h
    rw [this]; rfl
  | n + 1, s, h => by
    obtain ⟨h1, h2⟩ := hs n s h
    rw [loopO_eq]
    have e : ((n + 1 : Nat) : Int) - 1 = n := by omega
    rw [e, h1]
    show loopO f (step n s, (n : Int) - 1) = _
    rw [loop_down step fin I hs he n (step n s) h2, List.range_succ, List.reverse_append]
    rfl
theorem shrI_nat (k : IntKind) (n c : Nat) (hc : c ≤ k.bits) : shrI k (n : Int) (c : Int) = ((n / 2 ^ c : Nat) : Int) := by
  unfold shrI
  rw [show min (c : Int).toNat k.bits = c by omega, Int.fdiv_eq_ediv_of_nonneg _ (by exact_mod_cast Nat.zero_le (2 ^ c))]
  push_cast; rfl
/-! ### Loops -/
theorem loop_run {σ ρ : Type} {f : σ → Option (σ ⊕ ρ)} (I : Nat → σ → Prop) (Q : ρ → Prop) (n : Nat)
    (hs : ∀ i s, i < n → I i s → (∃ s', f s = some (.inl s') ∧ I (i + 1) s') ∨ (∃ r, f s = some (.inr r) ∧ Q r))
    (he : ∀ s, I n s → ∃ r, f s = some (.inr r) ∧ Q r) : ∀ (m i : Nat) (s : σ), i + m = n → I i s → ∃ r, loopO f s = some r ∧ Q r
  | 0, i, s, h, hi => by
    obtain rfl : i = n := by omega
    obtain ⟨r, h1, h2⟩ := he s hi
    exact ⟨r, by rw [loopO_eq, h1]; rfl, h2⟩
  | m + 1, i, s, h, hi => by
    rcases hs i s (by omega) hi with ⟨s', h1, h2⟩ | ⟨r, h1, h2⟩
    · obtain ⟨r, h3, h4⟩ := loop_run I Q n hs he m (i + 1) s' (by omega) h2
      exact ⟨r, by rw [loopO_eq, h1]; exact h3, h4⟩
    · exact ⟨r, by rw [loopO_eq, h1]; rfl, h2⟩
theorem bind_runP {σ ρ τ : Type} {f : σ → Option (σ ⊕ ρ)} {k : ρ → Option τ} {C : Option τ → Prop} (I : Nat → σ → Prop) (Q : ρ → Prop) (n : Nat) {s0 : σ} (h0 : I 0 s0)
    (hs : ∀ i s, i < n → I i s → (∃ s', f s = some (.inl s') ∧ I (i + 1) s') ∨ (∃ r, f s = some (.inr r) ∧ Q r))
    (he : ∀ s, I n s → ∃ r, f s = some (.inr r) ∧ Q r) (hk : ∀ r, Q r → C (k r)) : C (Option.bind (loopO f s0) k) := by
  obtain ⟨r, h1, h2⟩ := loop_run I Q n hs he n 0 s0 (by omega) h0
  rw [h1]; exact hk r h2
theorem bind_run {σ ρ τ : Type} {f : σ → Option (σ ⊕ ρ)} {k : ρ → Option τ} {t : τ} (I : Nat → σ → Prop) (Q : ρ → Prop) (n : Nat) {s0 : σ} (h0 : I 0 s0)
    (hs : ∀ i s, i < n → I i s → (∃ s', f s = some (.inl s') ∧ I (i + 1) s') ∨ (∃ r, f s = some (.inr r) ∧ Q r))
    (he : ∀ s, I n s → ∃ r, f s = some (.inr r) ∧ Q r) (hk : ∀ r, Q r → k r = some t) : Option.bind (loopO f s0) k = some t :=
  bind_runP (C := fun o => o = some t) I Q n h0 hs he hk
end Go.Tri
