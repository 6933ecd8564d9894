/- A region that draws its order, whose first n operations only read and call quietly, and whose other operations stand in one forced order behind them: the quiet ones are walked once, in the order of the text, then the others one by one. -/
import Derived.Test.YtfepdfjhejkemaaDoorLib
import Derived.StillTailTactics
import Derived.Deep.QuietTactic
set_option linter.unusedSimpArgs false
set_option linter.unusedVariables false
namespace Go.Tri
section
variable {P : Program} {md : Region.Mode} {ops : Array Oper} {C : World → Prop}

end
theorem Row.drewN {w : World} {b off : Nat} {cs : List Value} (h : Row w b off cs) (n : Nat) : Row (w.drewN n) b off cs := h
/-! ### A region whose operations are quiet in a class C of worlds that calls may not leave -/
section
variable {P : Program} {ops : Array Oper} {rest : List Oper} {o : Oper} {a : Act} {Q : Act → Prop} {C : World → Prop}
end
end Go.Tri
