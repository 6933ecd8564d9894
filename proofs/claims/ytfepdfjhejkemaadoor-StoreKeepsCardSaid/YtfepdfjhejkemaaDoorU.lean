/- Equality of truth values. -/
import Derived.Test.YtfepdfjhejkemaaDoorT
import Derived.ChangeKeysEq
set_option linter.unusedSimpArgs false
set_option linter.unusedVariables false
namespace Go.Tri
open Go.RowKit
section
variable {P : Program} {o : Oper} {a : Act} {w : World} {N : Fs} {sl : List (Nat × Value)} {x y : Operand} {t t' : TypeId}
end
end Go.Tri
