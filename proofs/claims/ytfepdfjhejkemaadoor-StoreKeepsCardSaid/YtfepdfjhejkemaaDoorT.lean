/- Texts: strings as lists of bytes. -/
import Derived.Test.YtfepdfjhejkemaaDoorB
import Derived.Lib.Bytealg
set_option linter.unusedSimpArgs false
set_option linter.unusedVariables false
namespace Go.Tri
open Go.RowKit
/-- The text of these bytes. -/
def txb (l : List UInt8) : ByteArray := ⟨l.toArray⟩
theorem txb_toList (l : List UInt8) : (txb l).toList = l := by rw [Lib.toList_data]; simp [txb]
section
variable {P : Program} {o : Oper} {a : Act} {w : World} {N : Fs} {sl : List (Nat × Value)} {x y : Operand} {t t' : TypeId} {l m : List UInt8}
theorem y_neT (F : Fr N a sl) (ho : o.op = .binOp .neq t x y t') (hx : ev sl x = some (.string (txb l))) (hy : ev sl y = some (.string (txb m))) : (execOp a.eval o).run P w = .ok (.value (.bool (!decide (l = m)))) w := by
  have h1 : (l == m) = decide (l = m) := by by_cases h : l = m <;> simp [h]
  unfold execOp
  simp [ho, F.eval hx, F.eval hy, eqGuard, binOp, Op.stringOp, txb_toList, h1]
theorem ElemT.run_size {e : TypeId} {size bytes : Nat} {z0 : Value} (hE : ElemT P t e size bytes z0) (w : World) : (sizeOf e).run P w = .ok size w := by
  have h := hE.hi
  cases hi : P.info? e with
  | none => rw [hi] at h; cases h
  | some d =>
    rw [hi] at h
    simp at h
    simp [sizeOf, typeInfo, hi, h]
end
end Go.Tri
