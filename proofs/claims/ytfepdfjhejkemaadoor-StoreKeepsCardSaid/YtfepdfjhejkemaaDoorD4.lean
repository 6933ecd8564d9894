/- Data: indexing, slicing, fields. -/
import Derived.Test.YtfepdfjhejkemaaDoorD3
set_option linter.unusedSimpArgs false
set_option linter.unusedVariables false
namespace Go.Tri
open Go.RowKit
def idxO {α : Type} (xs : List α) (i : Int) : Option α := if 0 ≤ i then xs[i.toNat]? else none
theorem idxO_some {α : Type} {xs : List α} {i : Int} {x : α} (h : idxO xs i = some x) : 0 ≤ i ∧ xs[i.toNat]? = some x := by
  unfold idxO at h
  split at h
  · rename_i h0; exact ⟨h0, h⟩
  · cases h
def slcO {α : Type} (xs : List α) (i j : Int) : Option (List α) := if 0 ≤ i ∧ i ≤ j ∧ j ≤ xs.length then some ((xs.take j.toNat).drop i.toNat) else none
theorem slcO_some {α : Type} {xs ys : List α} {i j : Int} (h : slcO xs i j = some ys) : (0 ≤ i ∧ i ≤ j ∧ j ≤ xs.length) ∧ ys = (xs.take j.toNat).drop i.toNat ∧ ys.length = j.toNat - i.toNat := by
  unfold slcO at h
  split at h
  · rename_i h0; have := (Option.some.inj h).symm; subst this; exact ⟨h0, rfl, by simp; omega⟩
  · cases h
def mkO {α : Type} (n : Int) (z : α) : Option (List α) := if 0 ≤ n ∧ n ≤ 274877906944 then some (List.replicate n.toNat z) else none
/-- An array type. -/
structure ArrT (P : Program) (t e : TypeId) (n size : Nat) : Prop where
  ht : P.underlying t = some (.array n e)
  hi : (P.info? e).map (fun i => i.size) = some size
theorem ArrT.run_size {P : Program} {t e : TypeId} {n size : Nat} (h : ArrT P t e n size) (w : World) : (sizeOf e).run P w = .ok size w := by
  have := h.hi
  cases hi : P.info? e with
  | none => rw [hi] at this; cases this
  | some d =>
    rw [hi] at this
    simp at this
    simp [sizeOf, typeInfo, hi, this]
def shp (p : Option Addr) (cap i size : Nat) : Option Addr := if cap = i then p else p.map (·.add (i * size))
section
variable {α : Type} {R : Rp α} {P : Program} {o : Oper} {a : Act} {w0 w : World} {N : Fs} {sl : List (Nat × Value)} {x y : Operand} {t e : TypeId} {l : List HP} {p : Option Addr} {cap : Nat} {xs : List α} {size bytes : Nat} {z0 : Value} {k k' : IntKind}
theorem y_idxS (F : Fr N a sl) (hE : ElemT P t e size bytes z0) (ho : o.op = .indexAddr t x y) {b off : Nat} {i : Int} {u : α} (hx : ev sl x = some (.slice p xs.length cap)) (hy : ev sl y = some (.int k i)) (hp : p = some ⟨b, off, none⟩) (h : idxO xs i = some u) :
    (execOp a.eval o).run P w = .ok (.value (.pointer (some ⟨b, off + i.toNat * size, none⟩))) w := by
  subst hp
  obtain ⟨h0, h1⟩ := idxO_some h
  have h2 := (List.getElem?_eq_some_iff.1 h1).1
  have : (Instr.indexAt t (.slice (some ⟨b, off, none⟩) xs.length cap) (.int k i)).run P w = .ok (.pointer (some ⟨b, off + i.toNat * size, none⟩)) w := by
    unfold Instr.indexAt
    simp [asIntOf, Go.run_underlying hE.ht, hE.run_size, add_none]
    intro hh; exact absurd (hh h0) (by omega)
  unfold execOp
  simp [ho, F.eval hx, F.eval hy, this]
theorem y_idxA (F : Fr N a sl) {n : Nat} (hA : ArrT P t e n size) (ho : o.op = .indexAddr t x y) {b off : Nat} {i : Int} {u : α} (hx : ev sl x = some (.pointer (some ⟨b, off, none⟩))) (hy : ev sl y = some (.int k i)) (h : idxO xs i = some u) (hn : xs.length = n) :
    (execOp a.eval o).run P w = .ok (.value (.pointer (some ⟨b, off + i.toNat * size, none⟩))) w := by
  obtain ⟨h0, h1⟩ := idxO_some h
  have h2 := (List.getElem?_eq_some_iff.1 h1).1
  have : (Instr.indexAt t (.pointer (some ⟨b, off, none⟩)) (.int k i)).run P w = .ok (.pointer (some ⟨b, off + i.toNat * size, none⟩)) w := by
    unfold Instr.indexAt
    simp [asIntOf, Go.run_underlying hA.ht, Instr.sureAddr]
    rw [if_pos (by omega)]
    simp [Sem.run_bind, hA.run_size, add_none]
  unfold execOp
  simp [ho, F.eval hx, F.eval hy, this]
/-- An element of an array value, of one cell. -/
theorem y_idxV (F : Fr N a sl) {n : Nat} (hA : ArrT P t e n 1) (hP : Plain P e) (ho : o.op = .index t x y) {cs : List Value} {i : Int} {v : Value} (hx : ev sl x = some (.agg cs.toArray)) (hy : ev sl y = some (.int k i)) (h : idxO cs i = some v) (hn : cs.length = n) :
    (execOp a.eval o).run P w = .ok (.value v) w := by
  obtain ⟨h0, h1⟩ := idxO_some h
  have h2 := (List.getElem?_eq_some_iff.1 h1).1
  have : (Instr.index t (.agg cs.toArray) (.int k i)).run P w = .ok v w := by
    unfold Instr.index
    simp [asIntOf, Go.run_underlying hA.ht]
    rw [if_pos (by omega)]
    simp [Sem.run_bind, hA.run_size, part, hP.run_isAgg, h1]
  unfold execOp
  simp [ho, F.eval hx, F.eval hy, this]
theorem bound_okI {i : Int} {n : Nat} {c : BoundsCode} (h0 : 0 ≤ i) (h : i ≤ n) : (Instr.sliceBound (.int k i) n c).run P w = .ok i.toNat w := by
  unfold Instr.sliceBound; simp [asIntOf, h0, h]
theorem run_slc {lo hi : Option Value} {i j : Nat} (hE : ElemT P t e size bytes z0) {n : Nat} (hb : (Instr.sliceBounds true n cap lo hi none).run P w = .ok (i, j, cap) w) :
    (Instr.sliceAt t (.slice p n cap) lo hi none).run P w = .ok (.slice (shp p cap i size) (j - i) (cap - i)) w := by
  unfold Instr.sliceAt
  rw [Sem.run_bind, Go.run_underlying hE.ht]
  simp only [Result.andThen_ok]
  unfold Instr.slice
  rw [Sem.run_bind, Go.run_underlying hE.ht]
  simp only [Result.andThen_ok]
  rw [Sem.run_bind, hb]
  simp only [Result.andThen_ok]
  rw [Sem.run_bind, hE.run_size]
  simp [shp]
theorem y_slL (F : Fr N a sl) (hE : ElemT P t e size bytes z0) {lo : Operand} (ho : o.op = .slice t x (some lo) none none) {i : Int} {zs : List α} (hx : ev sl x = some (.slice p xs.length cap)) (hl : ev sl lo = some (.int k i)) (hz : slcO xs i xs.length = some zs) (hc : xs.length ≤ cap) :
    (execOp a.eval o).run P w = .ok (.value (.slice (shp p cap i.toNat size) zs.length (cap - i.toNat))) w := by
  obtain ⟨h1, _, h2⟩ := slcO_some hz
  have hb : (Instr.sliceBounds true xs.length cap (some (.int k i)) none none).run P w = .ok (i.toNat, xs.length, cap) w := by
    unfold Instr.sliceBounds
    simp [bound_okI (show 0 ≤ i by omega) (show i ≤ ((xs.length : Nat) : Int) by omega)]
  unfold execOp
  rw [h2]
  simp [ho, F.eval hx, F.eval hl, run_slc (p := p) hE hb]
theorem y_slH (F : Fr N a sl) (hE : ElemT P t e size bytes z0) {hi : Operand} (ho : o.op = .slice t x none (some hi) none) {j : Int} {zs : List α} (hx : ev sl x = some (.slice p xs.length cap)) (hh : ev sl hi = some (.int k j)) (hz : slcO xs 0 j = some zs) (hc : xs.length ≤ cap) :
    (execOp a.eval o).run P w = .ok (.value (.slice (shp p cap 0 size) zs.length (cap - 0))) w := by
  obtain ⟨h1, _, h2⟩ := slcO_some hz
  have hb : (Instr.sliceBounds true xs.length cap none (some (.int k j)) none).run P w = .ok (0, j.toNat, cap) w := by
    unfold Instr.sliceBounds
    simp [bound_okI (show 0 ≤ j by omega) (show j ≤ cap by omega)]
  unfold execOp
  rw [h2]
  simp [ho, F.eval hx, F.eval hh, run_slc (p := p) hE hb]
theorem Sl.sub {v : Value} {cs : List Value} {n i j : Nat} (h : Sl w (.slice p n cap) n cs) (hij : i ≤ j) (hj : j ≤ n) (hl : cs.length = n * size) : Sl w (.slice (shp p cap i size) (j - i) (cap - i)) (j - i) ((cs.take (j * size)).drop (i * size)) := by
  rcases h with ⟨h, hn, hc⟩ | ⟨ad, c, h, hn, hc⟩ | ⟨b, off, c, h, hc, hr⟩
  · cases h
    have : j - i = 0 := by omega
    rw [this]
    refine .inl ⟨?_, rfl, by rw [hc]; simp⟩
    unfold shp; simp
  · cases h
    have : j - i = 0 := by omega
    rw [this]
    refine .inr (.inl ?_)
    unfold shp
    split
    · exact ⟨ad, _, rfl, rfl, by rw [hc]; simp⟩
    · exact ⟨_, _, rfl, rfl, by rw [hc]; simp⟩
  · cases h
    by_cases e0 : j - i = 0
    · rw [e0]
      refine .inr (.inl ?_)
      have ed : (cs.take (j * size)).drop (i * size) = [] := by
        have : j = i := by omega
        subst this
        apply List.eq_nil_of_length_eq_zero; simp
      unfold shp
      split
      · exact ⟨_, _, rfl, rfl, ed⟩
      · exact ⟨_, _, rfl, rfl, ed⟩
    · refine .inr (.inr ⟨b, off + i * size, cap - i, ?_, by omega, ?_⟩)
      · unfold shp; rw [if_neg (by omega)]; simp [add_none]
      · have := hr.sub (i * size) (j * size - i * size)
        rw [List.drop_take]; exact this
/-- A part of a slice. -/
theorem St.slSub (H : St w0 w l) (n : Nat) (hn : l[n]? = some (HP.sl R p cap xs)) {i j : Int} {zs : List α} (hz : slcO xs i j = some zs) : St w0 w (HP.sl R (shp p cap i.toNat R.n) (cap - i.toNat) zs :: l) := by
  obtain ⟨B, H⟩ := H.out
  obtain ⟨S, css, c1, c2⟩ := H.at hn
  obtain ⟨h1, rfl, h2⟩ := slcO_some hz
  refine (H.more (A := HP.sl R _ _ _) ⟨(css.take j.toNat).drop i.toNat, (c1.take _).drop _, fun w hw => ?_⟩).st
  rw [flat_drop _ (c1.take _), flat_take _ c1, h2]
  exact (c2 w hw).sub (v := .nilFunc) (by omega) (by omega) c1.flen
/-- A slice of one cell's elements that is an array in its own block. -/
theorem y_slA (F : Fr N a sl) {n : Nat} (hA : ArrT P t e n size) {lo hi : Option Operand} (ho : o.op = .slice t x lo hi none) {b off : Nat} (hx : ev sl x = some (.pointer (some ⟨b, off, none⟩))) {i j : Nat} (hb : (Instr.sliceBounds false n n (lo.map a.eval) (hi.map a.eval) none).run P w = .ok (i, j, n) w) :
    (execOp a.eval o).run P w = .ok (.value (.slice (some (if n = i then ⟨b, off, none⟩ else ⟨b, off + i * size, none⟩)) (j - i) (n - i))) w := by
  have : (Instr.sliceAt t (.pointer (some ⟨b, off, none⟩)) (lo.map a.eval) (hi.map a.eval) none).run P w = .ok (.slice (some (if n = i then ⟨b, off, none⟩ else ⟨b, off + i * size, none⟩)) (j - i) (n - i)) w := by
    unfold Instr.sliceAt
    rw [Sem.run_bind, Go.run_underlying hA.ht]
    simp only [Result.andThen_ok, Instr.sureAddr, Sem.run_bind, Sem.run_pure, hb, hA.run_size, add_none]
  unfold execOp
  simp [ho, F.eval hx, this]
end
end Go.Tri
