/- the statement -/
import Derived.Test.YtfepdfjhejkemaaDoorLawB
set_option linter.unusedSimpArgs false
set_option linter.unusedVariables false
namespace Go.Proofs.YtfepdfjhejkemaaDoor
open Go.RowKit Go.Tri
theorem ent18 : ∀ args w, (callFunc 18 args).run Tryd.prog w = .ok (.enter 18 args) w := enters Tryd.func18 (by kernel_rfl) rfl
end Go.Proofs.YtfepdfjhejkemaaDoor
