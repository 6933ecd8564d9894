/- Data: elements of owned slices are written. -/
import Derived.Test.YtfepdfjhejkemaaDoorD8
set_option linter.unusedSimpArgs false
set_option linter.unusedVariables false
namespace Go.Tri
open Go.RowKit
section
variable {α : Type} {R : Rp α} {w0 w : World} {ls : List HP} {p : Option Addr} {cap : Nat} {xs : List α} {e : TypeId} {P : Program} {t : TypeId} {ops : Array Oper} {rest : List Oper} {o : Oper} {a : Act} {W : List Oper → Act → World → Prop} {N : Fs} {l : List (Nat × Value)} {x y : Operand}
theorem flat_set {B : Base} {c : List Value} : ∀ {css : List (List Value)} {xs : List α} (k : Nat), RdL R B css xs → c.length = R.n → k < css.length → (css.set k c).flatten = css.flatten.take (k * R.n) ++ c ++ css.flatten.drop (k * R.n + R.n)
  | [], [], _, _, _, hk => by simp at hk
  | d :: ds, _ :: _, 0, h, hc, _ => by
    have hl := R.len h.1
    simp only [List.set_cons_zero, List.flatten_cons, Nat.zero_mul, List.take_zero, List.nil_append, Nat.zero_add]
    rw [List.drop_left' hl]
  | d :: ds, _ :: _, k + 1, h, hc, hk => by
    have hl := R.len h.1
    have ih := flat_set k h.2 hc (by simpa using hk)
    simp only [List.set_cons_succ, List.flatten_cons, ih]
    have e1 : (k + 1) * R.n = R.n + k * R.n := by rw [Nat.succ_mul, Nat.add_comm]
    have e2 : (d ++ ds.flatten).drop (R.n + k * R.n + R.n) = ds.flatten.drop (k * R.n + R.n) := by
      rw [Nat.add_assoc, ← List.drop_drop, List.drop_left' hl]
    rw [e1, e2, List.take_append, hl, List.take_of_length_le (l := d) (by omega), Nat.add_sub_cancel_left]
    simp
  | [], _ :: _, _, h, _, _ => h.elim
  | _ :: _, [], _, h, _, _ => h.elim
theorem StB.chg {w' : World} {B : Base} {A A' : HP} {g : Nat} (H : StB w0 B w ls) (i : Nat) (hi : ls[i]? = some A) (hg : ∀ S, A.pr B w S → S g) (hc : Chg g w w') (hA : ∀ S, A.pr B w S → A'.pr B w' S) : StB w0 B w' (ls.set i A') := by
  obtain ⟨hv, hs, f, h1, h2, h3⟩ := H
  have hil : i < ls.length := (List.getElem?_eq_some_iff.1 hi).1
  have hgi := hg _ (h1 i A hi)
  refine ⟨⟨hc.os.trans hv.1, hc.tape.trans hv.2.1, hc.output.trans hv.2.2.1, by rw [hc.size]; exact hv.2.2.2⟩, ?_, f, ?_, by simpa using h2, fun j b hj hf => ?_⟩
  · intro k o hk
    rw [hc.oth k (fun e => by subst e; rw [(h3 i _ hil hgi).2.1] at hk; cases hk)]; exact hs k o hk
  · intro j C hj
    rw [List.getElem?_set] at hj
    by_cases e : i = j
    · subst e; rw [if_pos rfl, if_pos hil] at hj; cases hj; exact hA _ (h1 i A hi)
    · rw [if_neg e] at hj
      have hjl := (List.getElem?_eq_some_iff.1 hj).1
      exact C.loc (h1 j C hj) fun b hb => hc.oth b fun e2 => e (by subst e2; exact h2 i j _ hil hjl hgi hb)
  · rw [List.length_set] at hj
    rw [hc.size]; exact h3 j b hj hf
/-- One element of an owned slice is put anew. -/
theorem St.owPut (H : St w0 w ls) (i : Nat) (hi : ls[i]? = some (HP.ow R e p cap xs)) {b : Nat} (hp : p = some ⟨b, 0, none⟩) {k : Nat} (hk : k < xs.length) {c : List Value} {z : α} (hz : ∀ {B : Base}, (∀ (j : Nat) (C : HP), ls[j]? = some C → ∃ S, C.pr B w S) → R.rd B c z) :
    ∃ cur : List Value, Blk w b cur e ∧ k * R.n + R.n ≤ cur.length ∧ St w0 (w.setRow b (cur.take (k * R.n) ++ c ++ cur.drop (k * R.n + R.n)).toArray) (ls.set i (HP.ow R e p cap (xs.set k z))) := by
  obtain ⟨B, H⟩ := H.out
  have hzB := hz (B := B) fun j C hj => H.at hj
  have hcn := R.len hzB
  obtain ⟨S0, css0, c0, ⟨hl0, ⟨h, h'⟩ | ⟨g, cap', cur, h, hb0, hg, hnc, hm, hsz, ht⟩⟩, hS⟩ := H.at hi
  · omega
  · cases h
    cases hp
    have hb : Blk w b cur.toList e := by unfold Blk; simpa using hg
    have hmul : (k + 1) * R.n ≤ xs.length * R.n := Nat.mul_le_mul_right _ hk
    have hmul2 : xs.length * R.n ≤ cap * R.n := Nat.mul_le_mul_right _ hnc
    have hkk : (k + 1) * R.n = k * R.n + R.n := Nat.succ_mul k R.n
    have hsz' : cur.toList.length = cap * R.n := by simpa using hsz
    refine ⟨cur.toList, hb, by omega, (H.chg (A' := HP.ow R e (some ⟨b, 0, none⟩) cap (xs.set k z)) i hi (g := b) (fun S hA => by obtain ⟨_, _, _, h⟩ := hA; exact h b rfl) (Chg.setRow w b _) (fun S hA => ?_)).st⟩
    have hSb : S b := by obtain ⟨_, _, _, h⟩ := hA; exact h b rfl
    have hcl : css0.length = xs.length := c0.len
    refine ⟨css0.set k c, RdL.set hzB k c0, ⟨?_, .inr ⟨b, cap, _, by rw [List.length_set], Nat.zero_le _, hb.set_same _, by rw [List.length_set]; exact hnc, hm, ?_, ?_⟩⟩, fun b' hb' => by simp [Value.ownBlock] at hb'; subst hb'; exact hSb⟩
    · rw [flat_set k c0 hcn (by omega)]
      simp only [List.length_append, List.length_take, List.length_drop, hl0, hcn, List.length_set]; omega
    · simp only [List.size_toArray, List.length_append, List.length_take, List.length_drop, hsz', hcn]; omega
    · rw [flat_set k c0 hcn (by omega), List.length_set]
      have e1 : (cur.toList.take (k * R.n) ++ c).length = k * R.n + R.n := by simp only [List.length_append, List.length_take, hsz', hcn]; omega
      rw [List.take_append, e1, List.take_of_length_le (by omega), ← ht, List.take_take, Nat.min_eq_left (by omega), List.drop_take]
theorem s_owSet1 (kw : Walk P ops W) (F : Fr N a l) (hg : o.guard = none) (hd : o.dst = none) {z1 : Value} (hz : Zero1 P t z1) (ho : o.op = .store t x y) (hR : R.n = 1) {b : Nat} {q : Int} (hx : ev l x = some (.pointer (some ⟨b, 0 + q.toNat * 1, none⟩))) {v : Value} (hy : ev l y = some v) (hv : v.cells = #[v]) (h1 : v.oneCell' = true)
    (H : St w0 w ls) (i : Nat) (hi : ls[i]? = some (HP.ow R e p cap xs)) (hp : p = some ⟨b, 0, none⟩) {u : α} (hq : idxO xs q = some u) {zz : α} (hrd : ∀ {B : Base}, (∀ (j : Nat) (C : HP), ls[j]? = some C → ∃ S, C.pr B w S) → R.rd B [v] zz)
    (hk : ∀ w', St w0 w' (ls.set i (HP.ow R e p cap (xs.set q.toNat zz))) → W rest a w') : W (o :: rest) a w := by
  obtain ⟨_, h2⟩ := idxO_some hq
  have hlt := (List.getElem?_eq_some_iff.1 h2).1
  obtain ⟨cur, hb, hl, hS⟩ := H.owPut i hi hp hlt hrd
  rw [hR] at hl hS
  have hcl : 0 + q.toNat * 1 < cur.length := by omega
  have e1 : cur.take (q.toNat * 1) ++ [v] ++ cur.drop (q.toNat * 1 + 1) = cur.set (0 + q.toNat * 1) v := by
    rw [Nat.zero_add]; exact set_split cur _ v (by omega)
  rw [e1] at hS
  exact s_none kw F hg hd (by rw [ho]; rfl) (y_store1 F hz ho hx hy hv h1 hb hcl) (hk _ hS)
end
end Go.Tri
