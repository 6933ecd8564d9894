/- What the statements share. -/
import Derived.Test.YtapllcabobickaaGreatDoorQ5
import Derived.Test.YtapllcabobickaaGreatDoorCards
import Derived.Test.YtapllcabobickaaGreatDoorTie
import Derived.ShutString
import Derived.ChangeMaps5
import Derived.ProofKit
import Derived.OpenShut
import Derived.Lay
import Derived.LaidMore
import Derived.SevenTiedAt
import Derived.Stop.Joined
set_option linter.unusedSimpArgs false
set_option linter.unusedVariables false
namespace Go.Proofs.YtapllcabobickaaGreatDoor
open Go.ChangeShapes Go.WideShapes Go.ChangeAt Go.RowKit Go.Tri
theorem own : ownKnob Tryz.prog.godebug = none := by kernel_rfl
theorem laidOut : laidOutB Tryz.prog = true := by kernel_rfl
theorem rounds_eq : (Rows.laid_trireme_sha_rounds : DataW Unit) = .agg (shaRounds.map fun n => .lit (.int .u32 n)) := by kernel_rfl
theorem start_eq : (Rows.laid_trireme_sha_start : DataW Unit) = .agg (shaStart.map fun n => .lit (.int .u32 n)) := by kernel_rfl
theorem laid_rows {W : World} (h : laidMet Tryz.prog [("trireme/sha.rounds", Rows.laid_trireme_sha_rounds), ("trireme/sha.start", Rows.laid_trireme_sha_start), ("unicode/utf8.acceptRanges", Rows.laid_unicode_utf8_acceptRanges), ("unicode/utf8.first", Rows.laid_unicode_utf8_first)] W) : Row W 0 0 (icells .u32 shaStart) ∧ Row W 1 0 (icells .u32 shaRounds) := by
  obtain ⟨ps, ⟨g, t, cs, fuel, p, q, hg, ht, hv, hd, ⟨g2, t2, cs2, fuel2, p2, q2, hg2, ht2, hv2, hd2, _, _⟩, _⟩, _, _⟩ := h
  obtain rfl := Option.some.inj ((show Tryz.prog.globalNamed "trireme/sha.rounds" = some 1 by kernel_rfl).symm.trans hg)
  obtain rfl := Option.some.inj ((show (Tryz.prog.globals[1]?).map (·.type) = some 189 by kernel_rfl).symm.trans ht)
  obtain rfl := Option.some.inj ((show Tryz.prog.globalNamed "trireme/sha.start" = some 0 by kernel_rfl).symm.trans hg2)
  obtain rfl := Option.some.inj ((show (Tryz.prog.globals[0]?).map (·.type) = some 191 by kernel_rfl).symm.trans ht2)
  rw [rounds_eq] at hd
  rw [start_eq] at hd2
  exact ⟨laid_row Tryz.underlying191 Tryz.underlying188 (by kernel_rfl) hg2 hv2 hd2, laid_row Tryz.underlying189 Tryz.underlying188 (by kernel_rfl) hg hv hd⟩
end Go.Proofs.YtapllcabobickaaGreatDoor
