/- Shifts, bytes of a string. -/
import Derived.Test.YtfepdfjhejkemaaDoorZ
import Derived.Laws.Tables
set_option linter.unusedSimpArgs false
set_option linter.unusedVariables false
namespace Go.Tri
open Go.RowKit
/-- Parts of a struct or an array that is put together. -/
def evp (l : List (Nat × Value)) : List (Nat × Operand) → Option (List (Nat × Value))
  | [] => some []
  | x :: r => match ev l x.2, evp l r with | some v, some vs => some ((x.1, v) :: vs) | _, _ => none
theorem Fr.evalp {N : Fs} {a : Act} {l : List (Nat × Value)} (F : Fr N a l) : ∀ {xs : List (Nat × Operand)} {vs : List (Nat × Value)}, evp l xs = some vs → xs.map (fun p => (p.1, a.eval p.2)) = vs
  | [], vs, h => by simp [evp] at h; subst h; rfl
  | x :: r, vs, h => by
    simp only [evp] at h
    split at h
    · rename_i v us h1 h2
      cases h
      rw [List.map_cons, F.eval h1, F.evalp h2]
    · cases h
theorem y_build {P : Program} {o : Oper} {a : Act} {w : World} {N : Fs} {l : List (Nat × Value)} {t : TypeId} (F : Fr N a l) {parts : List (Nat × Operand)} (ho : o.op = .build t parts.toArray) {vs : List (Nat × Value)} (hv : evp l parts = some vs) {cs : List Value} (hb : P.built t vs = some cs.toArray) : (execOp a.eval o).run P w = .ok (.value (.agg cs.toArray)) w := by
  have h1 := F.evalp hv
  have h2 : (parts.toArray.map fun (p : Nat × Operand) => (p.1, a.eval p.2)) = vs.toArray := by rw [List.map_toArray, h1]
  unfold execOp
  simp only [ho]
  rw [h2, Sem.run_bind, run_build w t vs.toArray cs.toArray hb]
  rfl
theorem y_nilCheck {P : Program} {o : Oper} {a : Act} {w : World} {N : Fs} {l : List (Nat × Value)} {x : Operand} {ad : Addr} (F : Fr N a l) (ho : o.op = .nilCheck x) (hx : ev l x = some (.pointer (some ad))) : (execOp a.eval o).run P w = .ok (.value (.pointer (some ad))) w := by
  unfold execOp
  simp [ho, F.eval hx]
end Go.Tri
