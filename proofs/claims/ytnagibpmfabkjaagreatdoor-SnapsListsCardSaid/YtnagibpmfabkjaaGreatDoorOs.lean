/- Texts and structs that stand in memory when the call begins. -/
import Derived.Test.YtnagibpmfabkjaaGreatDoorOq
import Derived.ChangeMaps5
set_option linter.unusedSimpArgs false
set_option linter.unusedVariables false
namespace Go.Tri
open Go.RowKit Go.ChangeShapes Go.WideShapes Go.ChangeAt Go.Deep
section
variable {H : Type} {enc : TypeId × Value → H} {P : Program} {w : World} {base : Nat} {spare : Nat → Bool} {held : Bool} {t : TypeId}
theorem opn_str (ht : P.underlying t = some .string) : Opn enc P w base spare held rStr t := fun fuel cs x h => by
  obtain ⟨s, h1, h2, h3⟩ := DataW.trod_string ht h
  exact ⟨s.data.toList, h1⟩
end
end Go.Tri
