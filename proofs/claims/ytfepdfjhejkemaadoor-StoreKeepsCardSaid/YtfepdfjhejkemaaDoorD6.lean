/- Data: rows, stores into parts, results, owned elements. -/
import Derived.Test.YtfepdfjhejkemaaDoorD5
set_option linter.unusedSimpArgs false
set_option linter.unusedVariables false
namespace Go.Tri
open Go.RowKit
theorem elimL {α β γ : Type} {f : α → Option γ} {g : β → Option γ} {x : α} {r : γ} (h : Sum.elim f g (.inl x) = some r) : f x = some r := h
theorem elimR {α β γ : Type} {f : α → Option γ} {g : β → Option γ} {x : β} {r : γ} (h : Sum.elim f g (.inr x) = some r) : g x = some r := h
theorem x_mid {P : Program} {x : Code} {Q : Exit → Act → World → Prop} {a : Act} {w : World} (M : Act → World → Prop) (hx : x.wp P (Exit.then M Q) a w) (hy : ∀ a w, M a w → Q .normal a w) : x.wp P Q a w :=
  wp_mono hx fun e a w h => by cases e <;> first | exact hy a w h | exact h
theorem icells_idx {k : IntKind} {xs : List Int} {i : Int} {x : Int} (h : idxO xs i = some x) : idxO (icells k xs) i = some (.int k x) := by
  obtain ⟨h0, h1⟩ := idxO_some h; unfold idxO; rw [if_pos h0]; exact icells_at h1
theorem icells_setI {k : IntKind} {xs : List Int} {i : Int} {x : Int} : (icells k xs).set (0 + i.toNat * 1) (.int k x) = icells k (xs.set i.toNat x) := by
  rw [Nat.zero_add, Nat.mul_one, icells_set]
theorem bcells_setI {xs : List UInt8} {i : Int} {n : Int} {c : UInt8} (h : u8O n = some c) : (bcells xs).set (0 + i.toNat * 1) (.int .u8 n) = bcells (xs.set i.toNat c) := by
  rw [Nat.zero_add, Nat.mul_one, bcells_set _ _ h]
section
variable {w0 w : World} {ls : List HP} {b off : Nat} {A X C cs : List Value} {n : Nat} {v : Value}
theorem row_ix (h : Row w b off cs) {i : Int} (hi : idxO cs i = some v) : w.cell? ⟨b, off + i.toNat * 1, none⟩ = some v := by
  rw [Nat.mul_one]; exact h _ _ (idxO_some hi).2
theorem row_at (h : Row w b off cs) {j : Nat} (hj : cs[j]? = some v) : w.cell? ⟨b, off + j, none⟩ = some v := h j v hj
theorem row_mid (h : Row w b off (A ++ (X ++ C))) (hA : A.length = n) : Row w b (off + n) X := by
  have := h.right.left; rw [hA] at this; exact this
variable {P : Program} {t : TypeId} {ops : Array Oper} {rest : List Oper} {o : Oper} {a : Act} {W : List Oper → Act → World → Prop} {N : Fs} {l : List (Nat × Value)} {d : Nat} {x y : Operand}
theorem s_storeF {m : Nat} {zz : List Value} (k : Walk P ops W) (F : Fr N a l) (hg : o.guard = none) (hd : o.dst = none) (hA : AggT P t m zz) (ho : o.op = .store t x y) {b q : Nat} (hx : ev l x = some (.pointer (some ⟨b, q, none⟩))) {old cs : List Value} {u : TypeId} (hy : ev l y = some (.agg cs.toArray))
    (H : St w0 w ls) (i : Nat) (hi : ls[i]? = some (HP.blk b old u)) (he : old = A ++ (X ++ C)) (hq : A.length = q) (hX : X.length = m) (hn : cs.length = m) (hf : Flat cs)
    (hk : ∀ w', St w0 w' (ls.set i (HP.blk b (A ++ (cs ++ C)) u)) → W rest a w') : W (o :: rest) a w := by
  subst he
  have e : (A ++ (X ++ C)).take q ++ cs ++ (A ++ (X ++ C)).drop (q + m) = A ++ (cs ++ C) := by
    subst hq; subst hX
    rw [List.take_left, ← List.append_assoc A X C, List.append_assoc, ← List.length_append, List.drop_left]
  refine s_none k F hg hd (by rw [ho]; rfl) (y_storeA F hA ho hx hy (H.blk i hi) hn (by simp only [List.length_append]; omega) hf) ?_
  rw [e]
  exact hk _ (H.setBlk i hi _)
end
section
variable {P : Program} {fn : Func} {Q : Ending → World → Prop} {a : Act} {w0 w : World} {N : Nat} {l : List (Nat × Value)} {ls : List HP}
end
section
variable {α : Type} {R : Rp α} {w0 w : World} {l : List HP} {p : Option Addr} {cap : Nat} {xs : List α} {e : TypeId}
theorem St.owP (H : St w0 w l) (i : Nat) (hi : l[i]? = some (HP.ow R e p cap xs)) {k : Nat} {x : α} (hx : xs[k]? = some x) : ∃ b, p = some ⟨b, 0, none⟩ := by
  obtain ⟨B, S, hs, ⟨css, h1, ⟨hl, ⟨h, h'⟩ | ⟨g, cap', cur, h, _⟩⟩, _⟩, _⟩ := H.get i hi
  · have := (List.getElem?_eq_some_iff.1 hx).1; omega
  · cases h; exact ⟨g, rfl⟩
theorem St.owCell (H : St w0 w l) (i : Nat) (hi : l[i]? = some (HP.ow R e p cap xs)) {b : Nat} (hp : p = some ⟨b, 0, none⟩) {k : Nat} {x : α} (hx : xs[k]? = some x) : ∃ B cs, R.rd B cs x ∧ Row w b (0 + k * R.n) cs := by
  obtain ⟨B, S, hs, ⟨css, h1, h2⟩, _⟩ := H.get i hi
  obtain ⟨c, hc, hr⟩ := h1.at hx
  have hk := (List.getElem?_eq_some_iff.1 hx).1
  obtain ⟨b', off', hp', hr'⟩ := (ownsRow_sl h2.1).rowAt (c := 0) rfl (by omega)
  rw [hp] at hp'; cases hp'
  have := hr'.sub (k * R.n) R.n
  rw [flat_at h1 hc (R.len hr)] at this
  exact ⟨B, c, hr, this⟩
theorem St.owB {xs : List UInt8} (H : St w0 w l) (i : Nat) (hi : l[i]? = some (HP.ow rByte e p cap xs)) {b : Nat} (hp : p = some ⟨b, 0, none⟩) {j : Int} {x : UInt8} (hx : idxO xs j = some x) : w.cell? ⟨b, 0 + j.toNat * 1, none⟩ = some (.int .u8 x.toNat) := by
  obtain ⟨B, cs, hr, hrow⟩ := H.owCell i hi hp (idxO_some hx).2
  have : cs = [.int .u8 x.toNat] := hr
  subst this; exact hrow 0 _ rfl
end
end Go.Tri
