/- the statement -/
import Derived.Test.YtfepdfjhejkemaaDoorLawA
set_option linter.unusedSimpArgs false
set_option linter.unusedVariables false
namespace Go.Proofs.YtfepdfjhejkemaaDoor
open Go.RowKit Go.Tri
theorem ent8 : ∀ args w, (callFunc 8 args).run Tryd.prog w = .ok (.enter 8 args) w := enters Tryd.func8 (by kernel_rfl) rfl
theorem ent13 : ∀ args w, (callFunc 13 args).run Tryd.prog w = .ok (.enter 13 args) w := enters Tryd.func13 (by kernel_rfl) rfl
theorem ent15 : ∀ args w, (callFunc 15 args).run Tryd.prog w = .ok (.enter 15 args) w := enters Tryd.func15 (by kernel_rfl) rfl
theorem ent16 : ∀ args w, (callFunc 16 args).run Tryd.prog w = .ok (.enter 16 args) w := enters Tryd.func16 (by kernel_rfl) rfl
end Go.Proofs.YtfepdfjhejkemaaDoor
