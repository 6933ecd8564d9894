/- the statement -/
import Derived.Test.YtfepdfjhejkemaaDoorLawC
set_option linter.unusedSimpArgs false
set_option linter.unusedVariables false
namespace Go.Proofs.YtfepdfjhejkemaaDoor
open Go.RowKit Go.Tri
end Go.Proofs.YtfepdfjhejkemaaDoor
