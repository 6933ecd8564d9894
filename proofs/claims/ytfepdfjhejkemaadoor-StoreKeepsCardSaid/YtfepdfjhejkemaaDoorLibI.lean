/- The address of a slice's element. -/
import Derived.Test.YtfepdfjhejkemaaDoorLibB
set_option linter.unusedSimpArgs false
set_option linter.unusedVariables false
namespace Go.Tri
theorem enters {P : Program} {f : FuncId} {fn : Func} {c : Code} (hf : P.funcs[f]? = some fn) (hname : (fn.name == "runtime.NumGoroutine") = false) (hb : fn.body = some c) : ∀ args w, (callFunc f args).run P w = .ok (.enter f args) w := by
  intro args w
  have h1 : fn.name ≠ "runtime.NumGoroutine" := by simpa using hname
  simp [callFunc, hf, h1, hb, mark]
section
variable {P : Program} {ρ : Operand → Value} {o : Oper} {t t' : TypeId} {x y : Operand} {w : World}
end
end Go.Tri
