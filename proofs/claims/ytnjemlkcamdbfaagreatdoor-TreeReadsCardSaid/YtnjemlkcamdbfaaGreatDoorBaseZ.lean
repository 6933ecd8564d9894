/- What the statement needs. -/
import Derived.Test.YtnjemlkcamdbfaaGreatDoorMod
import Derived.Test.YtnjemlkcamdbfaaGreatDoorMapO
import Derived.Test.YtnjemlkcamdbfaaGreatDoorCards
import Derived.Test.YtnjemlkcamdbfaaGreatDoorTie
import Derived.ShutString
import Derived.ChangeMaps5
import Derived.ProofKit
import Derived.OpenShut
import Derived.Lay
import Derived.LaidMore
import Derived.SevenTiedAt
import Derived.Stop.Joined
set_option linter.unusedSimpArgs false
set_option linter.unusedVariables false
namespace Go.Proofs.YtnjemlkcamdbfaaGreatDoor
open Go.ChangeShapes Go.WideShapes Go.ChangeAt Go.RowKit Go.Tri
theorem own : ownKnob Tryz.prog.godebug = none := by kernel_rfl
theorem laidOut : laidOutB Tryz.prog = true := by kernel_rfl
theorem rounds_eq : (Rows.laid_trireme_sha_rounds : DataW Unit) = .agg (shaRounds.map fun n => .lit (.int .u32 n)) := by kernel_rfl
theorem start_eq : (Rows.laid_trireme_sha_start : DataW Unit) = .agg (shaStart.map fun n => .lit (.int .u32 n)) := by kernel_rfl
theorem laid_rows {W : World} (h : laidMet Tryz.prog [("trireme/sha.rounds", Rows.laid_trireme_sha_rounds), ("trireme/sha.start", Rows.laid_trireme_sha_start)] W) : Row W 1 0 (icells .u32 shaStart) ∧ Row W 2 0 (icells .u32 shaRounds) := by
  obtain ⟨ps, ⟨g, t, cs, fuel, p, q, hg, ht, hv, hd, ⟨g2, t2, cs2, fuel2, p2, q2, hg2, ht2, hv2, hd2, _, _⟩, _⟩, _, _⟩ := h
  obtain rfl := Option.some.inj ((show Tryz.prog.globalNamed "trireme/sha.rounds" = some 2 by kernel_rfl).symm.trans hg)
  obtain rfl := Option.some.inj ((show (Tryz.prog.globals[2]?).map (·.type) = some 94 by kernel_rfl).symm.trans ht)
  obtain rfl := Option.some.inj ((show Tryz.prog.globalNamed "trireme/sha.start" = some 1 by kernel_rfl).symm.trans hg2)
  obtain rfl := Option.some.inj ((show (Tryz.prog.globals[1]?).map (·.type) = some 96 by kernel_rfl).symm.trans ht2)
  rw [rounds_eq] at hd
  rw [start_eq] at hd2
  exact ⟨laid_row Tryz.underlying96 Tryz.underlying93 (by kernel_rfl) hg2 hv2 hd2, laid_row Tryz.underlying94 Tryz.underlying93 (by kernel_rfl) hg hv hd⟩
theorem okWide_array {P : Program} {w : World} {r : Reach} {base : Nat} {t e : TypeId} {n : Nat} {v : Value} (ht : P.underlying t = some (.array n e)) (h : Value.okWide P w r base t v) : ∃ cs, v = .agg cs ∧ cs.size = P.cellsOf t := by
  simp only [Value.okWide, ht] at h
  obtain ⟨cs, h1, h2, _⟩ := h
  exact ⟨cs, h1, h2⟩
end Go.Proofs.YtnjemlkcamdbfaaGreatDoor
