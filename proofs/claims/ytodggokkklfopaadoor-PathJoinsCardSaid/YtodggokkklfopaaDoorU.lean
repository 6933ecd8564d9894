/- Equality of truth values. -/
import Derived.Test.YtodggokkklfopaaDoorT
import Derived.ChangeKeysEq
set_option linter.unusedSimpArgs false
set_option linter.unusedVariables false
namespace Go.Tri
open Go.RowKit
section
variable {P : Program} {o : Oper} {a : Act} {w : World} {N : Fs} {sl : List (Nat × Value)} {x y : Operand} {t t' : TypeId}
theorem y_eqlBool (F : Fr N a sl) {p q : Bool} (ho : o.op = .binOp .eql t x y t') (ht : P.underlying t = some .bool) (hx : ev sl x = some (.bool p)) (hy : ev sl y = some (.bool q)) : (execOp a.eval o).run P w = .ok (.value (.bool (decide (p = q)))) w := by
  unfold execOp
  have h1 : (Op.equal t (.bool p) (.bool q)).run P w = .ok (p == q) w := run_equalIn_bool w _ t p q ht
  cases p <;> cases q <;> simp [ho, F.eval hx, F.eval hy, eqGuard, binOp, h1]
theorem y_neqBool (F : Fr N a sl) {p q : Bool} (ho : o.op = .binOp .neq t x y t') (ht : P.underlying t = some .bool) (hx : ev sl x = some (.bool p)) (hy : ev sl y = some (.bool q)) : (execOp a.eval o).run P w = .ok (.value (.bool (!decide (p = q)))) w := by
  unfold execOp
  have h1 : (Op.equal t (.bool p) (.bool q)).run P w = .ok (p == q) w := run_equalIn_bool w _ t p q ht
  cases p <;> cases q <;> simp [ho, F.eval hx, F.eval hy, eqGuard, binOp, h1]
end
end Go.Tri
