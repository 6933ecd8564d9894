/- What the statements share. -/
import Derived.Test.YtfepdfjhejkemaaDoorMod
import Derived.Test.YtfepdfjhejkemaaDoorOp
import Derived.Test.YtfepdfjhejkemaaDoorCards
import Derived.Test.YtfepdfjhejkemaaDoorTie
import Derived.ShutString
import Derived.ChangeMaps5
import Derived.ProofKit
import Derived.OpenShut
import Derived.Lay
import Derived.LaidMore
import Derived.SevenTiedAt
import Derived.Stop.Joined
set_option linter.unusedSimpArgs false
set_option linter.unusedVariables false
namespace Go.Proofs.YtfepdfjhejkemaaDoor
open Go.ChangeShapes Go.WideShapes Go.ChangeAt Go.RowKit Go.Tri
theorem own : ownKnob Tryd.prog.godebug = none := by kernel_rfl
theorem laidOut : laidOutB Tryd.prog = true := by kernel_rfl
theorem rounds_eq : (Rows.laid_trireme_sha_rounds : DataW Unit) = .agg (shaRounds.map fun n => .lit (.int .u32 n)) := by kernel_rfl
theorem start_eq : (Rows.laid_trireme_sha_start : DataW Unit) = .agg (shaStart.map fun n => .lit (.int .u32 n)) := by kernel_rfl
theorem laid_rows {W : World} (h : laidMet Tryd.prog [("trireme/sha.rounds", Rows.laid_trireme_sha_rounds), ("trireme/sha.start", Rows.laid_trireme_sha_start)] W) : Row W 0 0 (icells .u32 shaStart) ∧ Row W 2 0 (icells .u32 shaRounds) := by
  obtain ⟨ps, ⟨g, t, cs, fuel, p, q, hg, ht, hv, hd, ⟨g2, t2, cs2, fuel2, p2, q2, hg2, ht2, hv2, hd2, _, _⟩, _⟩, _, _⟩ := h
  obtain rfl := Option.some.inj ((show Tryd.prog.globalNamed "trireme/sha.rounds" = some 2 by kernel_rfl).symm.trans hg)
  obtain rfl := Option.some.inj ((show (Tryd.prog.globals[2]?).map (·.type) = some 81 by kernel_rfl).symm.trans ht)
  obtain rfl := Option.some.inj ((show Tryd.prog.globalNamed "trireme/sha.start" = some 0 by kernel_rfl).symm.trans hg2)
  obtain rfl := Option.some.inj ((show (Tryd.prog.globals[0]?).map (·.type) = some 83 by kernel_rfl).symm.trans ht2)
  rw [rounds_eq] at hd
  rw [start_eq] at hd2
  exact ⟨laid_row Tryd.underlying83 Tryd.underlying80 (by kernel_rfl) hg2 hv2 hd2, laid_row Tryd.underlying81 Tryd.underlying80 (by kernel_rfl) hg hv hd⟩
end Go.Proofs.YtfepdfjhejkemaaDoor
