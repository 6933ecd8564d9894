/- What the statements share. -/
import Derived.Test.YtodggokkklfopaaDoorPatG
import Derived.Test.YtodggokkklfopaaDoorCards
import Derived.Test.YtodggokkklfopaaDoorTie
import Derived.ShutString
import Derived.ChangeMaps5
import Derived.ProofKit
import Derived.OpenShut
import Derived.Lay
import Derived.LaidMore
import Derived.SevenTiedAt
import Derived.Stop.Joined
set_option linter.unusedSimpArgs false
set_option linter.unusedVariables false
namespace Go.Proofs.YtodggokkklfopaaDoor
open Go.ChangeShapes Go.WideShapes Go.ChangeAt Go.RowKit Go.Tri
theorem own : ownKnob Tryd.prog.godebug = none := by kernel_rfl
end Go.Proofs.YtodggokkklfopaaDoor
