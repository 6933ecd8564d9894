/- Data: operations on slices. -/
import Derived.Test.YtfepdfjhejkemaaDoorD2
set_option linter.unusedSimpArgs false
set_option linter.unusedVariables false
namespace Go.Tri
open Go.RowKit
def HP.rdl {α : Type} (R : Rp α) (css : List (List Value)) (xs : List α) : HP := ⟨fun B _ _ => RdL R B css xs, fun h _ => h, fun h hl => h.mono hl⟩
def HP.slc (v : Value) (n : Nat) (cs : List Value) : HP := ⟨fun B _ _ => ∀ w, Sub B w → Sl w v n cs, fun h _ => h, fun h hl w hw => h w (hw.mono hl)⟩
/-- The same with what stays told. -/
def StB (w0 : World) (B : Base) (w : World) (l : List HP) : Prop :=
  (w.os = w0.os ∧ w.tape = w0.tape ∧ w.output = w0.output ∧ w0.heap.size ≤ w.heap.size) ∧ Sub B w ∧ ∃ f : Nat → Nat → Prop, (∀ (i : Nat) (A : HP), l[i]? = some A → A.pr B w (f i)) ∧ (∀ i j b, i < l.length → j < l.length → f i b → f j b → i = j) ∧ (∀ i b, i < l.length → f i b → b < w.heap.size ∧ B b = none ∧ w0.heap.size ≤ b)
theorem St.out {w0 w : World} {l : List HP} (H : St w0 w l) : ∃ B, StB w0 B w l := by
  obtain ⟨hv, B, f, hs, h1, h2, h3⟩ := H; exact ⟨B, hv, hs, f, h1, h2, h3⟩
theorem StB.st {w0 w : World} {B : Base} {l : List HP} (H : StB w0 B w l) : St w0 w l := by
  obtain ⟨hv, hs, f, h1, h2, h3⟩ := H; exact ⟨hv, B, f, hs, h1, h2, h3⟩
theorem StB.at {w0 w : World} {B : Base} {l : List HP} (H : StB w0 B w l) {i : Nat} {A : HP} (hi : l[i]? = some A) : ∃ S, A.pr B w S := by
  obtain ⟨_, _, f, h1, _, _⟩ := H; exact ⟨_, h1 i A hi⟩
theorem StB.more {w0 w : World} {B : Base} {l : List HP} (H : StB w0 B w l) {A : HP} (hA : A.pr B w (fun _ => False)) : StB w0 B w (A :: l) := by
  obtain ⟨hv, hs, f, h1, h2, h3⟩ := H
  refine ⟨hv, hs, fun i => match i with | 0 => fun _ => False | i + 1 => f i, ?_, ?_, ?_⟩
  · intro i C hi
    cases i with
    | zero => simp at hi; subst hi; exact hA
    | succ i => exact h1 i C (by simpa using hi)
  · intro i j b hi hj hfi hfj
    cases i with
    | zero => exact hfi.elim
    | succ i =>
      cases j with
      | zero => exact hfj.elim
      | succ j => have := h2 i j b (by simpa using hi) (by simpa using hj) hfi hfj; omega
  · intro i b hi hf
    cases i with
    | zero => exact hf.elim
    | succ i => exact h3 i b (by simpa using hi) hf
theorem StB.set {w0 w : World} {B : Base} {l : List HP} (H : StB w0 B w l) (i : Nat) {A C : HP} (hi : l[i]? = some A) (hC : ∀ S, A.pr B w S → C.pr B w S) : StB w0 B w (l.set i C) := by
  obtain ⟨hv, hs, f, h1, h2, h3⟩ := H
  have hil : i < l.length := (List.getElem?_eq_some_iff.1 hi).1
  refine ⟨hv, hs, f, fun j E hj => ?_, by simpa using h2, by simpa using h3⟩
  rw [List.getElem?_set] at hj
  by_cases ee : i = j
  · subst ee; rw [if_pos rfl, if_pos hil] at hj; cases hj; exact hC _ (h1 i A hi)
  · rw [if_neg ee] at hj; exact h1 j E hj
section
variable {α : Type} {R : Rp α} {w0 w : World} {l : List HP} {p q : Option Addr} {cap c2 : Nat} {xs ys : List α} {e : TypeId}
theorem St.owOpen (H : St w0 w l) (i : Nat) (hi : l[i]? = some (HP.ow R e p cap xs)) : ∃ css, css.flatten.length = xs.length * R.n ∧ St w0 w (HP.rdl R css xs :: l.set i (HP.own e R.n (.slice p xs.length cap) xs.length css.flatten)) := by
  obtain ⟨hv, B, f, hs, h1, h2, h3⟩ := H
  obtain ⟨css, c1, c2⟩ := h1 i _ hi
  have hil : i < l.length := (List.getElem?_eq_some_iff.1 hi).1
  refine ⟨css, c1.flen, StB.st (B := B) (StB.more ⟨hv, hs, f, fun j E hj => ?_, by simpa using h2, by simpa using h3⟩ c1)⟩
  rw [List.getElem?_set] at hj
  by_cases ee : i = j
  · subst ee; rw [if_pos rfl, if_pos hil] at hj; cases hj; exact c2
  · rw [if_neg ee] at hj; exact h1 j E hj
theorem St.owShut (H : St w0 w l) (i j : Nat) {css : List (List Value)} (hi : l[i]? = some (HP.own e R.n (.slice p xs.length cap) xs.length css.flatten)) (hj : l[j]? = some (HP.rdl R css xs)) : St w0 w (l.set i (HP.ow R e p cap xs)) := by
  obtain ⟨B, H⟩ := H.out
  obtain ⟨S, hr⟩ := H.at hj
  exact (H.set i (C := HP.ow R e p cap xs) hi fun S h => ⟨css, hr, h⟩).st
theorem St.slOpen (H : St w0 w l) (i : Nat) (hi : l[i]? = some (HP.sl R p cap xs)) : ∃ css, css.flatten.length = xs.length * R.n ∧ Flat css.flatten ∧ St w0 w (HP.rdl R css xs :: HP.slc (.slice p xs.length cap) xs.length css.flatten :: l) := by
  obtain ⟨B, H⟩ := H.out
  obtain ⟨S, css, c1, c2⟩ := H.at hi
  exact ⟨css, c1.flen, c1.flat, ((H.more (A := HP.slc _ _ _) c2).more (A := HP.rdl R css xs) c1).st⟩
/-- So long may a slice become. -/
def room (n m : Nat) : Prop := n + m ≤ 274877906944
instance (n m : Nat) : Decidable (room n m) := by unfold room; infer_instance
def appO {α : Type} (xs ys : List α) : Option (List α) := if room xs.length ys.length then some (xs ++ ys) else none
theorem appO_some {xs ys zs : List α} (h : appO xs ys = some zs) : room xs.length ys.length ∧ zs = xs ++ ys := by
  unfold appO at h
  split at h
  · rename_i hr; exact ⟨hr, (Option.some.inj h).symm⟩
  · cases h
variable {P : Program} {t : TypeId} {bytes : Nat} {z : Value} {ops : Array Oper} {rest : List Oper} {o : Oper} {a : Act} {W : List Oper → Act → World → Prop} {N : Fs} {sl : List (Nat × Value)} {d : Nat}
theorem run_appO (H : St w0 w l) (i j : Nat) (hi : l[i]? = some (HP.ow R e p cap xs)) (hj : l[j]? = some (HP.sl R q c2 ys)) (hE : ElemT P t e R.n bytes z) (hb : bytes ≤ 512) {zs : List α} (hz : appO xs ys = some zs) (ty : TypeId) :
    ∃ p' c' w', (Builtin.append_ #[t, t] ty #[.slice p xs.length cap, .slice q ys.length c2]).run P w = .ok (.slice p' zs.length c') w' ∧ St w0 w' (l.set i (HP.ow R e p' c' zs)) := by
  obtain ⟨hr, rfl⟩ := appO_some hz
  unfold room at hr
  have hil : i < l.length := (List.getElem?_eq_some_iff.1 hi).1
  obtain ⟨ds, d1, d2, H1⟩ := H.slOpen j hj
  obtain ⟨css, c1, H2⟩ := H1.owOpen (i + 2) (by simpa using hi)
  simp only [List.set_cons_succ] at H2
  have hset : ∀ X : HP, (l.set i X)[i]? = some X := fun X => by simp [List.getElem?_set, hil]
  have hsrc : Sl w (.slice q ys.length c2) ys.length ds.flatten := by
    obtain ⟨B, S, hs, h, _⟩ := H2.get 2 (A := HP.slc (.slice q ys.length c2) ys.length ds.flatten) rfl; exact h w hs
  have hmul : (xs.length + ys.length) * bytes ≤ 274877906944 * 512 := Nat.mul_le_mul hr hb
  obtain ⟨v', w', hrun, H3⟩ := run_appendSt (P := P) (t := t) (z := z) H2 (i + 3) (hset _) hE hsrc d1 d2 (by unfold maxLen; omega) (by omega) ty
  simp only [List.set_cons_succ, List.set_set] at H3
  obtain ⟨p', c', rfl, _, _⟩ := H3.ownForm (i + 3) (hset _)
  refine ⟨p', c', w', by rw [hrun, List.length_append], ?_⟩
  obtain ⟨B, H4⟩ := H3.out
  obtain ⟨_, r1⟩ := H4.at (i := 0) (A := HP.rdl R css xs) rfl
  obtain ⟨_, r2⟩ := H4.at (i := 1) (A := HP.rdl R ds ys) rfl
  have r3 : RdL R B (css ++ ds) (xs ++ ys) := RdL.append r1 r2
  have H5 := (H4.set (i + 3) (C := HP.ow R e p' c' (xs ++ ys)) (hset _) fun S h => ⟨css ++ ds, r3, by rw [List.flatten_append, List.length_append]; exact h⟩).st
  simp only [List.set_cons_succ, List.set_set] at H5
  exact H5.tail.tail.tail
theorem s_app (k : Walk P ops W) (F : Fr N a sl) (hg : o.guard = none) (hd : o.dst = some d) (hN : Nat.blt d N.n = true) {s x : Operand} (ho : o.op = .call { callee := .builtin .append, args := #[s, x], argTypes := #[t, t] })
    (hs : ev sl s = some (.slice p xs.length cap)) (hx : ev sl x = some (.slice q ys.length c2)) (hE : ElemT P t e R.n bytes z) (hb : Nat.ble bytes 512 = true) {zs : List α} (hz : appO xs ys = some zs)
    (H : St w0 w l) (i j : Nat) (hi : l[i]? = some (HP.ow R e p cap xs)) (hj : l[j]? = some (HP.sl R q c2 ys))
    (hk : ∀ p' c' w' a', St w0 w' (l.set i (HP.ow R e p' c' zs)) → Fr N a' ((d, .slice p' zs.length c') :: sl) → W rest a' w') : W (o :: rest) a w := by
  obtain ⟨p', c', w', hr, hS⟩ := run_appO H i j hi hj hE (Nat.le_of_ble_eq_true hb) hz o.type
  refine s_val (w' := w') k F hg hd hN (by rw [ho]; rfl) ?_ (fun a' F' => hk p' c' w' a' hS F')
  unfold execOp
  simp [ho, resolve, invoke, builtin, F.eval hs, F.eval hx, hr]
end
end Go.Tri
