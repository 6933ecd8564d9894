/- Data: what values read as, slices as lists, and models with faults. -/
import Derived.Test.YtfepdfjhejkemaaDoorO
import Derived.Test.YtfepdfjhejkemaaDoorU
set_option linter.unusedSimpArgs false
set_option linter.unusedVariables false
namespace Go.Tri
open Go.RowKit
/-! ### Models: a fault is none -/
theorem ob {α β : Type} {o : Option α} {f : α → Option β} {r : β} (h : o.bind f = some r) : ∃ a, o = some a ∧ f a = some r := by
  cases o with
  | none => cases h
  | some a => exact ⟨a, rfl, h⟩
theorem ifT {p : Prop} [Decidable p] {α : Type} {a b r : α} (h : p) (hm : (if p then a else b) = r) : a = r := by rw [if_pos h] at hm; exact hm
theorem ifF {p : Prop} [Decidable p] {α : Type} {a b r : α} (h : ¬ p) (hm : (if p then a else b) = r) : b = r := by rw [if_neg h] at hm; exact hm
theorem nT {b : Bool} (h : b = false) : ¬ b = true := by rw [h]; decide
/-- So many rounds at most. -/
def loopN {σ ρ : Type} (f : σ → Option (σ ⊕ ρ)) : Nat → σ → Option ρ
  | 0, _ => none
  | n + 1, s => (f s).bind fun o => match o with | .inl s' => loopN f n s' | .inr r => some r
open Classical in
/-- A loop: none if it does not end, or meets a fault. -/
noncomputable def loopO {σ ρ : Type} (f : σ → Option (σ ⊕ ρ)) (s : σ) : Option ρ :=
  if h : ∃ n r, loopN f n s = some r then loopN f (Classical.choose h) s else none
theorem loopN_mono {σ ρ : Type} {f : σ → Option (σ ⊕ ρ)} : ∀ {n : Nat} {s : σ} {r : ρ}, loopN f n s = some r → ∀ m, n ≤ m → loopN f m s = some r
  | 0, _, _, h, _, _ => by cases h
  | n + 1, s, r, h, m, hm => by
    cases m with
    | zero => omega
    | succ m =>
      simp only [loopN] at h ⊢
      obtain ⟨o, ho, h⟩ := ob h
      rw [ho]
      cases o with
      | inl s' => exact loopN_mono (n := n) h m (by omega)
      | inr r' => exact h
theorem loopO_of {σ ρ : Type} {f : σ → Option (σ ⊕ ρ)} {n : Nat} {s : σ} {r : ρ} (h : loopN f n s = some r) : loopO f s = some r := by
  have hx : ∃ n r, loopN f n s = some r := ⟨n, r, h⟩
  unfold loopO
  rw [dif_pos hx]
  obtain ⟨r', hr'⟩ := Classical.choose_spec hx
  have h1 := loopN_mono h (max n (Classical.choose hx)) (by omega)
  have h2 := loopN_mono hr' (max n (Classical.choose hx)) (by omega)
  rw [hr', ← h2, h1]
theorem loopO_spec {σ ρ : Type} {f : σ → Option (σ ⊕ ρ)} {s : σ} {r : ρ} (h : loopO f s = some r) : ∃ n, loopN f n s = some r := by
  unfold loopO at h
  split at h
  · exact ⟨_, h⟩
  · cases h
theorem loopO_eq {σ ρ : Type} (f : σ → Option (σ ⊕ ρ)) (s : σ) : loopO f s = (f s).bind fun o => match o with | .inl s' => loopO f s' | .inr r => some r := by
  apply Option.ext
  intro r
  constructor
  · intro h
    obtain ⟨n, hn⟩ := loopO_spec h
    cases n with
    | zero => cases hn
    | succ n =>
      simp only [loopN] at hn
      obtain ⟨o, ho, hn⟩ := ob hn
      rw [ho]
      cases o with
      | inl s' => exact loopO_of hn
      | inr r' => exact hn
  · intro h
    obtain ⟨o, ho, h⟩ := ob h
    cases o with
    | inl s' =>
      obtain ⟨n, hn⟩ := loopO_spec h
      exact loopO_of (n := n + 1) (by simp only [loopN, ho]; exact hn)
    | inr r' => exact loopO_of (n := 1) (by simp only [loopN, ho]; exact h)
theorem x_loopO {P : Program} {Q : Exit → Act → World → Prop} {a : Act} {w : World} {σ ρ : Type} {c : Code} (f : σ → Option (σ ⊕ ρ)) (I : σ → Act → World → Prop) {s0 : σ} {r : ρ} (hr : loopO f s0 = some r) (h0 : I s0 a w)
    (round : ∀ s a w o, I s a w → f s = some o → c.wp P (Exit.then (fun a' w' => ∃ s', o = .inl s' ∧ I s' a' w') (fun e a' w' => ∃ r', o = .inr r' ∧ (r' = r → Q e a' w'))) a w) : (Code.loop c).wp P Q a w := by
  refine x_loop (fun (g : σ × Nat) a w => I g.1 a w ∧ loopN f g.2 g.1 = some r) (fun g => g.2) (s0, Classical.choose (loopO_spec hr)) ⟨h0, Classical.choose_spec (loopO_spec hr)⟩ ?_
  rintro ⟨s, n⟩ a w ⟨hI, hn⟩
  cases n with
  | zero => cases hn
  | succ n =>
    simp only [loopN] at hn
    obtain ⟨o, ho, hn⟩ := ob hn
    refine wp_mono (round s a w o hI ho) fun e a' w' h => ?_
    cases e with
    | normal =>
      obtain ⟨s', rfl, hI'⟩ := h
      exact ⟨(s', n), ⟨hI', hn⟩, Nat.lt_succ_self n⟩
    | _ =>
      obtain ⟨r', rfl, h⟩ := h
      exact h (Option.some.inj hn)
end Go.Tri
