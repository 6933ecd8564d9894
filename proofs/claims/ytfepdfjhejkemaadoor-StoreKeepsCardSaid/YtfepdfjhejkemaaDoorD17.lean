/- Text of bytes. -/
import Derived.Test.YtfepdfjhejkemaaDoorD16
import Derived.Laws.IdiomStrings
set_option linter.unusedSimpArgs false
set_option linter.unusedVariables false
namespace Go.Tri
open Go.RowKit
theorem run_convB {P : Program} {w : World} {t t' e : TypeId} {p : Option Addr} {cap : Nat} {l : List UInt8} (hs : P.underlying t = some (.slice e)) (he : P.underlying e = some (.int .u8)) (hd : P.underlying t' = some .string)
    (h : Sl w (.slice p l.length cap) l.length (bcells l)) : (convert t t' (.slice p l.length cap)).run P w = .ok (.string (txb l)) w := by
  generalize hv : (Value.slice p l.length cap) = v at h ⊢
  rcases h with ⟨h, hn, _⟩ | ⟨ad, c, h, hn, _⟩ | ⟨b, off, c, h, _, hr⟩
  · subst h
    obtain rfl : l = [] := by cases l <;> simp_all
    injection hv with h1 h2 h3
    rw [run_convert_bytes_string w t t' e _ _ _ hs he hd]; rfl
  · subst h
    obtain rfl : l = [] := by cases l <;> simp_all
    injection hv with h1 h2 h3
    rw [run_convert_bytes_string w t t' e _ _ _ hs he hd]
    rw [run_bytesToString w _ 0 c [] (run_loadCells_list (P := P) w _ [] (fun j v hj => by simp at hj))]; rfl
  · subst h
    exact run_convert_bytes_back w t t' e ⟨b, off, none⟩ c l hs he hd fun j hj => by
      rw [add_none]; exact hr j _ (by simp [bcells, hj])
theorem y_b2s {P : Program} {o : Oper} {a : Act} {w w0 : World} {N : Fs} {sl : List (Nat × Value)} {x : Operand} {t t' e : TypeId} {p : Option Addr} {cap : Nat} {xs : List UInt8} {ls : List HP} (F : Fr N a sl) (hs : P.underlying t = some (.slice e)) (hd : P.underlying t' = some .string) (he : P.underlying e = some (.int .u8)) (ho : o.op = .convert t t' x) (hx : ev sl x = some (.slice p xs.length cap))
    (H : St w0 w ls) (i : Nat) (hi : ls[i]? = some (HP.sl rByte p cap xs)) : (execOp a.eval o).run P w = .ok (.value (.string (txb xs))) w := by
  obtain ⟨B, S, hw, ⟨css, h1, h2⟩, _⟩ := H.get i hi
  have h3 := h2 w hw
  rw [rdl_bytes_flat h1] at h3
  unfold execOp
  simp only [ho, F.eval hx]
  rw [Sem.run_bind, run_convB hs he hd h3]
  rfl
end Go.Tri
