/- What the statements share. -/
import Derived.Test.YtkcgdaihfblncaaGreatDoorQ6
import Derived.Test.YtkcgdaihfblncaaGreatDoorCards
import Derived.Test.YtkcgdaihfblncaaGreatDoorTie
import Derived.ShutString
import Derived.ChangeMaps5
import Derived.ProofKit
import Derived.OpenShut
import Derived.Lay
import Derived.LaidMore
import Derived.SevenTiedAt
import Derived.Stop.Joined
set_option linter.unusedSimpArgs false
set_option linter.unusedVariables false
namespace Go.Proofs.YtkcgdaihfblncaaGreatDoor
open Go.ChangeShapes Go.WideShapes Go.ChangeAt Go.RowKit Go.Tri
theorem own : ownKnob Tryz.prog.godebug = none := by kernel_rfl
theorem laidOut : laidOutB Tryz.prog = true := by kernel_rfl
end Go.Proofs.YtkcgdaihfblncaaGreatDoor
