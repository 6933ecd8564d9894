/- Values that stand in memory when the call begins. -/
import Derived.Test.YtnjemlkcamdbfaaGreatDoorA5
import Derived.Test.YtnjemlkcamdbfaaGreatDoorA1
set_option linter.unusedSimpArgs false
set_option linter.unusedVariables false
namespace Go.Tri
open Go.RowKit Go.ChangeShapes Go.WideShapes Go.ChangeAt Go.Deep
/-- The memory of a world, as what stays. -/
def baseOf (w : World) : Base := fun b => w.heap[b]?
theorem sub_row {w w' : World} {b off : Nat} {cs : List Value} (hs : Sub (baseOf w) w') (h : Row w b off cs) : Row w' b off cs := by
  intro j v hj
  have h1 := h j v hj
  unfold World.cell? at h1 ⊢
  simp only at h1 ⊢
  cases hb : w.heap[b]? with
  | none => rw [hb] at h1; cases h1
  | some o => rw [hs b o hb]; rw [hb] at h1; exact h1
theorem sub_sl {w w' : World} {v : Value} {n : Nat} {cs : List Value} (hs : Sub (baseOf w) w') (h : Sl w v n cs) : Sl w' v n cs := by
  rcases h with h | h | ⟨b, off, cap, h1, h2, h3⟩
  · exact .inl h
  · exact .inr (.inl h)
  · exact .inr (.inr ⟨b, off, cap, h1, h2, sub_row hs h3⟩)
section
variable {α H : Type} (enc : TypeId × Value → H) (P : Program) (w : World) (base : Nat) (spare : Nat → Bool) (held : Bool)
/-- What is read at type e reads as R. -/
def Opn (R : Rp α) (e : TypeId) : Prop := ∀ (fuel : Nat) (cs : List Value) (x : DataW H × List MemPlace), DataW.trod enc P w base spare held fuel e cs = some x → ∃ y, R.rd (baseOf w) cs y
end
section
variable {α H : Type} {enc : TypeId × Value → H} {P : Program} {w : World} {base : Nat} {spare : Nat → Bool} {held : Bool} {R : Rp α} {e t : TypeId}
theorem rdl_all {B : Base} : ∀ {css : List (List Value)}, (∀ c ∈ css, ∃ y, R.rd B c y) → ∃ xs, RdL R B css xs
  | [], _ => ⟨[], trivial⟩
  | c :: css, h => by
    obtain ⟨y, hy⟩ := h c List.mem_cons_self
    obtain ⟨xs, hx⟩ := rdl_all (css := css) fun c hc => h c (List.mem_cons_of_mem _ hc)
    exact ⟨y :: xs, hy, hx⟩
theorem opn_slice (hO : Opn enc P w base spare held R e) (ht : P.underlying t = some (.slice e)) (hC : P.cellsOf e = R.n) (hs : 0 < R.n) {fuel : Nat} {cs : List Value} {x : DataW H × List MemPlace} (h : DataW.trod enc P w base spare held fuel t cs = some x) :
    ∃ p xs cap, cs = [.slice p xs.length cap] ∧ ∀ (w' : World) (S : Nat → Prop), (HP.sl R p cap xs).pr (baseOf w) w' S := by
  have hv : ∃ p n c, cs = [.slice p n c] := by
    rcases open_slice ht h with ⟨hcs, _⟩ | ⟨a, len, cap, m, n, D, Pl, hcs, _⟩
    · exact ⟨_, _, _, hcs⟩
    · exact ⟨_, _, _, hcs⟩
  obtain ⟨p, n, c, rfl⟩ := hv
  obtain ⟨css, hok, hsl, _⟩ := open_sl (fun cs => cs) (fun cs => ∃ y, R.rd (baseOf w) cs y) ht hC (fun f cs x h => by
    obtain ⟨y, hy⟩ := hO f cs x h
    exact ⟨cs, ⟨y, hy⟩, rfl⟩) (fun cs ⟨y, hy⟩ => R.len hy) hs (v := .slice p n c) ⟨_, _, _, rfl⟩ (by simpa [Value.cells] using h)
  obtain ⟨xs, hx⟩ := rdl_all hok
  have hn : n = xs.length := by
    rw [← hx.len]
    rcases hsl with ⟨h1, h2, _⟩ | ⟨a, cap, h1, h2, _⟩ | ⟨b, off, cap, h1, _⟩
    · injection h1 with _ h1 _; omega
    · injection h1 with _ h1 _; omega
    · injection h1 with _ h1 _
  subst hn
  have hf : css.flatMap (fun cs => cs) = css.flatten := by rw [List.flatMap_id']
  rw [hf, hx.len] at hsl
  exact ⟨p, xs, c, rfl, fun _ _ => ⟨css, hx, fun w' hw => sub_sl hw hsl⟩⟩
theorem opn_rSl (hO : Opn enc P w base spare held R e) (ht : P.underlying t = some (.slice e)) (hC : P.cellsOf e = R.n) (hs : 0 < R.n) : Opn enc P w base spare held (rSl R) t := fun fuel cs x h => by
  obtain ⟨p, xs, cap, e1, e2⟩ := opn_slice hO ht hC hs h
  exact ⟨xs, p, cap, e1, e2 _ _⟩
theorem opn_int {k : IntKind} (ht : P.underlying t = some (.int k)) : Opn enc P w base spare held (rInt k) t := fun fuel cs x h => by
  obtain ⟨n0, g0, _, w0⟩ := DataW.trod_int ht h
  exact ⟨n0, g0⟩
theorem opn_byte (ht : P.underlying t = some (.int .u8)) : Opn enc P w base spare held rByte t := fun fuel cs x h => by
  obtain ⟨n0, g0, _, w0⟩ := DataW.trod_int ht h
  have hb : 0 ≤ n0 ∧ n0 ≤ 255 := by
    simp [Lit.wf, IntKind.min, IntKind.max, IntKind.signed, IntKind.bits] at w0; omega
  refine ⟨UInt8.ofNat n0.toNat, ?_⟩
  show cs = [.int .u8 ((UInt8.ofNat n0.toNat).toNat : Int)]
  rw [g0]
  have : ((UInt8.ofNat n0.toNat).toNat : Int) = n0 := by simp; omega
  rw [this]
end
/-- All that stood at the beginning stands. -/
def HP.all (w0 : World) : HP := HP.pe (fun B => ∀ b o, w0.heap[b]? = some o → B b = some o)
    (fun h hl b o hb => hl b o (h b o hb))
theorem St.start0 (w0 : World) (l : List HP) (h : ∀ A ∈ l, A.pr (baseOf w0) w0 (fun _ => False)) : St w0 w0 l :=
  ⟨⟨rfl, rfl, rfl, Nat.le_refl _⟩, baseOf w0, fun _ _ => False, fun b o h => h, fun i A hi => h A (List.mem_of_getElem? hi), fun _ _ _ _ _ hf => hf.elim, fun _ _ _ hf => hf.elim⟩
theorem all_start (w0 w : World) (S : Nat → Prop) : (HP.all w0).pr (baseOf w0) w S := fun b o h => h
theorem row_start {w0 : World} {b off : Nat} {cs : List Value} (h : Row w0 b off cs) (w : World) (S : Nat → Prop) : (HP.row b off cs).pr (baseOf w0) w S := fun w' hw => sub_row hw h
theorem St.finish {w0 w : World} (H : St w0 w [HP.all w0]) : Below w0.heap.size w0 w := by
  obtain ⟨⟨h1, h2, h3, h4⟩, B, f, hs, ha, _⟩ := H
  refine ⟨h1, h2, h3, h4, fun k hk => ?_⟩
  have := hs k _ (ha 0 _ rfl k _ (Array.getElem?_eq_getElem hk))
  rw [this, Array.getElem?_eq_getElem hk]
/-- A table of numbers, as it was laid. -/
theorem laid_row {P : Program} {W : World} {g t e n : Nat} {k : IntKind} {fuel : Nat} {cs : Array Value} {p : List MemPlace} {xs : List Int} {name : String} (ht : P.underlying t = some (.array n e)) (he : P.underlying e = some (.int k)) (hc : P.cellsOf e = 1) (hg : P.globalNamed name = some g) (hv : W.var? P name = some cs)
    (hd : DataW.trod (fun _ => ()) P W 0 (fun _ => true) false fuel t cs.toList = some ((DataW.agg (xs.map fun n => .lit (.int k n)) : DataW Unit), p)) : Row W g 0 (icells k xs) := by
  obtain ⟨ys, m, _, ex, _, hl, hel⟩ := DataW.trod_array ht hd
  have e3 : ys.map (·.1) = xs.map fun n => (DataW.lit (.int k n) : DataW Unit) := (DataW.agg.inj (Prod.mk.inj ex).1).symm
  have hlen : xs.length = n := by have := congrArg List.length e3; simp at this; omega
  intro r v hr
  have hr2 : r < xs.length := by have := (List.getElem?_eq_some_iff.1 hr).1; simpa [icells] using this
  have hE := hel r (by omega)
  rw [hc, Nat.mul_one, List.getElem?_eq_getElem (by omega)] at hE
  obtain ⟨z, e1, e2, _⟩ := DataW.trod_int he hE
  have e4 : (ys.map (·.1))[r]? = (xs.map fun n => (DataW.lit (.int k n) : DataW Unit))[r]? := by rw [e3]
  rw [List.getElem?_map, List.getElem?_map, List.getElem?_eq_getElem (by omega : r < ys.length), List.getElem?_eq_getElem hr2, e2] at e4
  have hz : z = xs[r] := by
    simp only [Option.map_some, Option.some.injEq, DataW.lit.injEq, Lit.int.injEq, true_and] at e4
    exact e4
  have hv2 : v = .int k xs[r] := by
    simp [icells, hr2] at hr; exact hr.symm
  rw [hv2, ← hz, Nat.zero_add, World.var?_cell hg hv r]
  have : cs.toList[r]? = some (.int k z) := by
    have h0 : ((cs.toList.drop r).take 1)[0]? = some (.int k z) := by rw [e1]; rfl
    simpa using h0
  simpa using this
end Go.Tri
