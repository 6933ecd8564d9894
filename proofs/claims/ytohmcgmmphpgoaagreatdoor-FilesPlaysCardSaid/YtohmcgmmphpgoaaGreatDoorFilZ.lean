/- Plain: what a directory lists. -/
import Derived.Test.YtohmcgmmphpgoaaGreatDoorFilY
set_option linter.unusedSimpArgs false
set_option linter.unusedVariables false
namespace Go.Proofs.YtohmcgmmphpgoaaGreatDoor
open Go.RowKit Go.Tri
theorem lss_iff : ∀ l m : List UInt8, lssB l m = true ↔ l < m
  | [], [] => by simp [lssB, Op.bytesLess]
  | [], b :: m => by simp [lssB, Op.bytesLess]
  | a :: l, [] => by simp [lssB, Op.bytesLess]
  | a :: l, b :: m => by
    have ih := lss_iff l m
    unfold lssB at ih ⊢
    rw [List.cons_lt_cons_iff, ← ih]
    simp [Op.bytesLess]
theorem loop_runE {σ ρ : Type} {f : σ → Option (σ ⊕ ρ)} (I : Nat → σ → Prop) (r0 : ρ) (n : Nat) {s0 : σ} (h0 : I 0 s0)
    (hs : ∀ i s, i < n → I i s → (∃ s', f s = some (.inl s') ∧ I (i + 1) s') ∨ (∃ r, f s = some (.inr r) ∧ r = r0))
    (he : ∀ s, I n s → ∃ r, f s = some (.inr r) ∧ r = r0) : loopO f s0 = some r0 := by
  obtain ⟨r, h1, h2⟩ := loop_run I (fun r => r = r0) n hs he n 0 s0 (by omega) h0
  rw [h1, h2]
section
variable {s : FS} {n : Nat} {p : List UInt8} {B : List (List UInt8)}
end
end Go.Proofs.YtohmcgmmphpgoaaGreatDoor
