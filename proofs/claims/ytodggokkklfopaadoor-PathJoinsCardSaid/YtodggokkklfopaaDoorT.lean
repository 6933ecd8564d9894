/- Texts: strings as lists of bytes. -/
import Derived.Test.YtodggokkklfopaaDoorB
import Derived.Lib.Bytealg
set_option linter.unusedSimpArgs false
set_option linter.unusedVariables false
namespace Go.Tri
open Go.RowKit
/-- The text of these bytes. -/
def txb (l : List UInt8) : ByteArray := ⟨l.toArray⟩
theorem txb_data (s : ByteArray) : txb s.data.toList = s := by cases s; simp [txb]
theorem txb_size (l : List UInt8) : (txb l).size = l.length := by simp [txb, ByteArray.size]
theorem txb_list (l : List UInt8) : (txb l).data.toList = l := by simp [txb]
theorem txb_toList (l : List UInt8) : (txb l).toList = l := by rw [Lib.toList_data]; simp [txb]
theorem txb_inj {l m : List UInt8} (h : txb l = txb m) : l = m := by rw [← txb_list l, h, txb_list]
theorem txb_append (l m : List UInt8) : txb l ++ txb m = txb (l ++ m) := by
  apply ByteArray.ext
  simp [txb]
theorem txb_extract (l : List UInt8) (i j : Nat) : (txb l).extract i j = txb ((l.take j).drop i) := by
  apply ByteArray.ext
  simp [txb, List.drop_take]
section
variable {P : Program} {o : Oper} {a : Act} {w : World} {N : Fs} {sl : List (Nat × Value)} {x y : Operand} {t t' : TypeId} {l m : List UInt8}
theorem y_lenT (F : Fr N a sl) (ho : o.op = .call { callee := .builtin .len, args := #[x], argTypes := #[t] }) (ht : P.underlying t = some .string) (hx : ev sl x = some (.string (txb l))) : (execOp a.eval o).run P w = .ok (.value (.int .i64 (l.length : Nat))) w := by
  rw [← txb_size l]; exact y_lenStr F ho ht hx
theorem y_indexT (F : Fr N a sl) {k : IntKind} {i : Nat} {c : UInt8} (ho : o.op = .index t x y) (ht : P.underlying t = some .string) (hx : ev sl x = some (.string (txb l))) (hy : ev sl y = some (.int k (i : Int))) (hc : l[i]? = some c) : (execOp a.eval o).run P w = .ok (.value (.int .u8 ((c.toNat : Nat) : Int))) w := by
  have h1 : (txb l)[i]? = some c := by
    obtain ⟨h, rfl⟩ := List.getElem?_eq_some_iff.1 hc
    rw [getElem?_pos (txb l) i (by rw [txb_size]; exact h)]
    rfl
  unfold execOp
  simp [ho, F.eval hx, F.eval hy, Instr.index, asIntOf, Go.run_underlying ht, h1]
theorem y_addT (F : Fr N a sl) (ho : o.op = .binOp .add t x y t') (hx : ev sl x = some (.string (txb l))) (hy : ev sl y = some (.string (txb m))) (h : l.length + m.length ≤ 9223372036854775807) : (execOp a.eval o).run P w = .ok (.value (.string (txb (l ++ m)))) w := by
  have h1 : ¬ (((txb l).size + (txb m).size : Nat) : Int) > IntKind.i64.max := by
    rw [txb_size, txb_size]; simp [IntKind.max, IntKind.signed, IntKind.bits]; omega
  have h2 : (Op.stringOp .add (txb l) (txb m)).run P w = .ok (.string (txb (l ++ m))) w := by
    unfold Op.stringOp
    simp only [h1, if_false, txb_append]
    rfl
  unfold execOp
  simp [ho, F.eval hx, F.eval hy, eqGuard, binOp, h2]
theorem y_eqT (F : Fr N a sl) (ho : o.op = .binOp .eql t x y t') (hx : ev sl x = some (.string (txb l))) (hy : ev sl y = some (.string (txb m))) : (execOp a.eval o).run P w = .ok (.value (.bool (decide (l = m)))) w := by
  have h1 : (l == m) = decide (l = m) := by by_cases h : l = m <;> simp [h]
  unfold execOp
  simp [ho, F.eval hx, F.eval hy, eqGuard, binOp, Op.stringOp, txb_toList, h1]
theorem y_neT (F : Fr N a sl) (ho : o.op = .binOp .neq t x y t') (hx : ev sl x = some (.string (txb l))) (hy : ev sl y = some (.string (txb m))) : (execOp a.eval o).run P w = .ok (.value (.bool (!decide (l = m)))) w := by
  have h1 : (l == m) = decide (l = m) := by by_cases h : l = m <;> simp [h]
  unfold execOp
  simp [ho, F.eval hx, F.eval hy, eqGuard, binOp, Op.stringOp, txb_toList, h1]
theorem run_sliceT (ht : P.underlying t = some .string) {lo hi : Option Value} {i j : Nat} (h : (Instr.sliceBounds false l.length l.length lo hi none).run P w = .ok (i, j, l.length) w) :
    (Instr.sliceAt t (.string (txb l)) lo hi none).run P w = .ok (.string (txb ((l.take j).drop i))) w := by
  unfold Instr.sliceAt
  rw [Sem.run_bind, Go.run_underlying ht]
  simp only [Result.andThen_ok]
  unfold Instr.slice
  rw [Sem.run_bind, Go.run_underlying ht]
  simp only [Result.andThen_ok, txb_size, Sem.run_bind]
  simp [h, txb_extract]
theorem bound_ok {k : IntKind} {i n : Nat} {c : BoundsCode} (h : i ≤ n) : (Instr.sliceBound (.int k (i : Int)) n c).run P w = .ok i w := by
  unfold Instr.sliceBound
  simp [asIntOf, h]
theorem y_sliceT (F : Fr N a sl) {lo hi : Operand} {k k' : IntKind} {i j : Nat} (ho : o.op = .slice t x (some lo) (some hi) none) (ht : P.underlying t = some .string) (hx : ev sl x = some (.string (txb l))) (hl : ev sl lo = some (.int k (i : Int))) (hh : ev sl hi = some (.int k' (j : Int))) (hij : i ≤ j) (hj : j ≤ l.length) :
    (execOp a.eval o).run P w = .ok (.value (.string (txb ((l.take j).drop i)))) w := by
  have hb : (Instr.sliceBounds false l.length l.length (some (.int k (i : Int))) (some (.int k' (j : Int))) none).run P w = .ok (i, j, l.length) w := by
    unfold Instr.sliceBounds
    simp [bound_ok hj, bound_ok hij]
  unfold execOp
  simp [ho, F.eval hx, F.eval hl, F.eval hh, run_sliceT ht hb]
theorem y_sliceTlo (F : Fr N a sl) {lo : Operand} {k : IntKind} {i : Nat} (ho : o.op = .slice t x (some lo) none none) (ht : P.underlying t = some .string) (hx : ev sl x = some (.string (txb l))) (hl : ev sl lo = some (.int k (i : Int))) (hi : i ≤ l.length) :
    (execOp a.eval o).run P w = .ok (.value (.string (txb (l.drop i)))) w := by
  have hb : (Instr.sliceBounds false l.length l.length (some (.int k (i : Int))) none none).run P w = .ok (i, l.length, l.length) w := by
    unfold Instr.sliceBounds
    simp [bound_ok hi]
  unfold execOp
  simp [ho, F.eval hx, F.eval hl, run_sliceT ht hb]
theorem y_sliceThi (F : Fr N a sl) {hi : Operand} {k : IntKind} {j : Nat} (ho : o.op = .slice t x none (some hi) none) (ht : P.underlying t = some .string) (hx : ev sl x = some (.string (txb l))) (hh : ev sl hi = some (.int k (j : Int))) (hj : j ≤ l.length) :
    (execOp a.eval o).run P w = .ok (.value (.string (txb (l.take j)))) w := by
  have hb : (Instr.sliceBounds false l.length l.length none (some (.int k (j : Int))) none).run P w = .ok (0, j, l.length) w := by
    unfold Instr.sliceBounds
    simp [bound_ok hj]
  unfold execOp
  simp [ho, F.eval hx, F.eval hh, run_sliceT ht hb]
theorem ElemT.run_size {e : TypeId} {size bytes : Nat} {z0 : Value} (hE : ElemT P t e size bytes z0) (w : World) : (sizeOf e).run P w = .ok size w := by
  have h := hE.hi
  cases hi : P.info? e with
  | none => rw [hi] at h; cases h
  | some d =>
    rw [hi] at h
    simp at h
    simp [sizeOf, typeInfo, hi, h]
theorem addr_add0 (p : Option Addr) : p.map (·.add 0) = p := by
  cases p with
  | none => rfl
  | some a => cases a; simp [Addr.add]
/-- A slice up to a place. -/
theorem y_sliceHi (F : Fr N a sl) {e : TypeId} {size bytes : Nat} {z0 : Value} (hE : ElemT P t e size bytes z0) {hi : Operand} {k : IntKind} {j n cap : Nat} {p : Option Addr} (ho : o.op = .slice t x none (some hi) none) (hx : ev sl x = some (.slice p n cap)) (hh : ev sl hi = some (.int k (j : Int))) (hj : j ≤ cap) :
    (execOp a.eval o).run P w = .ok (.value (.slice p j cap)) w := by
  have hb : (Instr.sliceBounds true n cap none (some (.int k (j : Int))) none).run P w = .ok (0, j, cap) w := by
    unfold Instr.sliceBounds
    simp [bound_ok hj]
  have hz : (sizeOf e).run P w = .ok size w := hE.run_size w
  have h1 : (Instr.sliceAt t (.slice p n cap) none (some (.int k (j : Int))) none).run P w = .ok (.slice p j cap) w := by
    unfold Instr.sliceAt
    rw [Sem.run_bind, Go.run_underlying hE.ht]
    simp only [Result.andThen_ok]
    unfold Instr.slice
    rw [Sem.run_bind, Go.run_underlying hE.ht]
    simp only [Result.andThen_ok]
    rw [Sem.run_bind, hb]
    simp only [Result.andThen_ok]
    rw [Sem.run_bind, hz]
    simp [addr_add0]
  unfold execOp
  simp [ho, F.eval hx, F.eval hh, h1]
end
theorem St.ownAlloc {w0 w : World} {ls : List HP} (H : St w0 w ls) (e : TypeId) (size n : Nat) (cs : List Value) (hl : cs.length = n * size) (hm : n ≤ maxLen) : St w0 (w.alloc (.cells cs.toArray e)) (HP.own e size (.slice (some ⟨w.heap.size, 0, none⟩) n n) n cs :: ls) :=
  H.add _ _ fun S hS => ⟨⟨hl, .inr ⟨_, n, cs.toArray, rfl, Nat.zero_le _, heapNew w _, Nat.le_refl _, hm, by simp [hl], by rw [← hl]; simp⟩⟩, fun b hb => by simp [Value.ownBlock] at hb; exact hb ▸ hS⟩
end Go.Tri
