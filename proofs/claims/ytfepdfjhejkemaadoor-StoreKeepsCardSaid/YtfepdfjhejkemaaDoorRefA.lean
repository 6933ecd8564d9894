/- the document -/
import Derived.Test.YtfepdfjhejkemaaDoorDiskA
set_option linter.unusedSimpArgs false
set_option linter.unusedVariables false
namespace Go.Proofs.YtfepdfjhejkemaaDoor
open Go.RowKit Go.Tri
theorem elem32 : ElemT Tryd.prog 32 35 32 32 (.agg [.int .u8 0, .int .u8 0, .int .u8 0, .int .u8 0, .int .u8 0, .int .u8 0, .int .u8 0, .int .u8 0, .int .u8 0, .int .u8 0, .int .u8 0, .int .u8 0, .int .u8 0, .int .u8 0, .int .u8 0, .int .u8 0, .int .u8 0, .int .u8 0, .int .u8 0, .int .u8 0, .int .u8 0, .int .u8 0, .int .u8 0, .int .u8 0, .int .u8 0, .int .u8 0, .int .u8 0, .int .u8 0, .int .u8 0, .int .u8 0, .int .u8 0, .int .u8 0].toArray) := ⟨Tryd.underlying32, by kernel_rfl, by kernel_rfl, by decide⟩
theorem key35 : KeyA Tryd.prog 35 32 := KeyA.make (by kernel_rfl) (by kernel_rfl) Tryd.underlying35 Tryd.underlying5 (by kernel_rfl) (by kernel_rfl) (by kernel_rfl)
theorem ent12 : ∀ args w, (callFunc 12 args).run Tryd.prog w = .ok (.enter 12 args) w := enters Tryd.func12 (by kernel_rfl) rfl
end Go.Proofs.YtfepdfjhejkemaaDoor
