/- copy into a block that is known whole; append(s, make([]T, k)...) where there is no room. -/
import Derived.Test.YtfepdfjhejkemaaDoorLibB
import Derived.Test.YtfepdfjhejkemaaDoorLibM
import Derived.Lib.Overlaps
set_option linter.unusedSimpArgs false
set_option linter.unusedVariables false
namespace Go.Tri
open Go.RowKit

section
variable {P : Program} {t e : TypeId} {size bytes : Nat} {z : Value}
theorem ElemT.parts (hE : ElemT P t e size bytes z) : ∃ i, P.info? e = some i ∧ i.zero = some z ∧ i.size = size ∧ i.bytes = bytes := info_parts hE.hi

variable {ops : Array Oper} {rest : List Oper} {o : Oper} {a : Act} {w : World} {Q : Exit → Act → World → Prop}
end
end Go.Tri
