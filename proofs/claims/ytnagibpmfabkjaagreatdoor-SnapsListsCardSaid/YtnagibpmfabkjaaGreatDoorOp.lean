/- Values that stand in memory when the call begins. -/
import Derived.Test.YtnagibpmfabkjaaGreatDoorA5
import Derived.Test.YtnagibpmfabkjaaGreatDoorA1
set_option linter.unusedSimpArgs false
set_option linter.unusedVariables false
namespace Go.Tri
open Go.RowKit Go.ChangeShapes Go.WideShapes Go.ChangeAt Go.Deep
/-- The memory of a world, as what stays. -/
def baseOf (w : World) : Base := fun b => w.heap[b]?
theorem sub_row {w w' : World} {b off : Nat} {cs : List Value} (hs : Sub (baseOf w) w') (h : Row w b off cs) : Row w' b off cs := by
  intro j v hj
  have h1 := h j v hj
  unfold World.cell? at h1 ⊢
  simp only at h1 ⊢
  cases hb : w.heap[b]? with
  | none => rw [hb] at h1; cases h1
  | some o => rw [hs b o hb]; rw [hb] at h1; exact h1
theorem sub_sl {w w' : World} {v : Value} {n : Nat} {cs : List Value} (hs : Sub (baseOf w) w') (h : Sl w v n cs) : Sl w' v n cs := by
  rcases h with h | h | ⟨b, off, cap, h1, h2, h3⟩
  · exact .inl h
  · exact .inr (.inl h)
  · exact .inr (.inr ⟨b, off, cap, h1, h2, sub_row hs h3⟩)
section
variable {α H : Type} (enc : TypeId × Value → H) (P : Program) (w : World) (base : Nat) (spare : Nat → Bool) (held : Bool)
/-- What is read at type e reads as R. -/
def Opn (R : Rp α) (e : TypeId) : Prop := ∀ (fuel : Nat) (cs : List Value) (x : DataW H × List MemPlace), DataW.trod enc P w base spare held fuel e cs = some x → ∃ y, R.rd (baseOf w) cs y
end
section
variable {α H : Type} {enc : TypeId × Value → H} {P : Program} {w : World} {base : Nat} {spare : Nat → Bool} {held : Bool} {R : Rp α} {e t : TypeId}
theorem opn_int {k : IntKind} (ht : P.underlying t = some (.int k)) : Opn enc P w base spare held (rInt k) t := fun fuel cs x h => by
  obtain ⟨n0, g0, _, w0⟩ := DataW.trod_int ht h
  exact ⟨n0, g0⟩
theorem opn_byte (ht : P.underlying t = some (.int .u8)) : Opn enc P w base spare held rByte t := fun fuel cs x h => by
  obtain ⟨n0, g0, _, w0⟩ := DataW.trod_int ht h
  have hb : 0 ≤ n0 ∧ n0 ≤ 255 := by
    simp [Lit.wf, IntKind.min, IntKind.max, IntKind.signed, IntKind.bits] at w0; omega
  refine ⟨UInt8.ofNat n0.toNat, ?_⟩
  show cs = [.int .u8 ((UInt8.ofNat n0.toNat).toNat : Int)]
  rw [g0]
  have : ((UInt8.ofNat n0.toNat).toNat : Int) = n0 := by simp; omega
  rw [this]
end
/-- All that stood at the beginning stands. -/
def HP.all (w0 : World) : HP := HP.pe (fun B => ∀ b o, w0.heap[b]? = some o → B b = some o)
    (fun h hl b o hb => hl b o (h b o hb))
theorem St.start0 (w0 : World) (l : List HP) (h : ∀ A ∈ l, A.pr (baseOf w0) w0 (fun _ => False)) : St w0 w0 l :=
  ⟨⟨rfl, rfl, rfl, Nat.le_refl _⟩, baseOf w0, fun _ _ => False, fun b o h => h, fun i A hi => h A (List.mem_of_getElem? hi), fun _ _ _ _ _ hf => hf.elim, fun _ _ _ hf => hf.elim⟩
theorem all_start (w0 w : World) (S : Nat → Prop) : (HP.all w0).pr (baseOf w0) w S := fun b o h => h
theorem St.finish {w0 w : World} (H : St w0 w [HP.all w0]) : Below w0.heap.size w0 w := by
  obtain ⟨⟨h1, h2, h3, h4⟩, B, f, hs, ha, _⟩ := H
  refine ⟨h1, h2, h3, h4, fun k hk => ?_⟩
  have := hs k _ (ha 0 _ rfl k _ (Array.getElem?_eq_getElem hk))
  rw [this, Array.getElem?_eq_getElem hk]
end Go.Tri
