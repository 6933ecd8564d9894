/- Pairs that are one's own, while they are written over. -/
import Derived.Test.YtnjemlkcamdbfaaGreatDoorSeal
set_option linter.unusedSimpArgs false
set_option linter.unusedVariables false
namespace Go.Tri
open Go.RowKit
/-- What is left of the memory B: the same blocks; the slices in them, but for those of the first i2 cells of lb. -/
def Live (B : Base) (lb i2 : Nat) (w : World) : Prop := ∀ b cur e, B b = some (.cells cur e (0, 0)) → ∃ old : List Value, Blk w b old e ∧ old.length = cur.size ∧ ∀ (o : Nat) (ad : Option Addr) (n c : Nat), cur[o]? = some (.slice ad n c) → old[o]? = some (.slice ad n c) ∨ (b = lb ∧ o < i2)
def HP.sp (B : Base) (lb i2 : Nat) : HP :=
  HP.of (fun _ w S => (∀ b o, B b = some o → S b) ∧ Live B lb i2 w)
    (fun ⟨h1, h2⟩ hS => ⟨h1, fun b cur e hb => by
      obtain ⟨old, g1, g2⟩ := h2 b cur e hb
      exact ⟨old, by unfold Blk at g1 ⊢; rw [hS b (h1 b _ hb)]; exact g1, g2⟩⟩)
    (fun h _ => h)
section
variable {w0 w : World} {l : List HP} {p : Option Addr} {cap : Nat} {xs : List (List UInt8 × List UInt8)} {B : Base} {lb i2 : Nat}
theorem St.boxSp (H : St w0 w (HP.box p cap xs :: l)) : ∃ B : Base, Sub B w ∧ (HP.nsl 0 (rP2N 0) p cap xs).pr B default (fun _ => False) ∧ ∀ lb, St w0 w (HP.sp B lb 0 :: l) := by
  obtain ⟨hv, Bo, f, hs, h1, h2, h3⟩ := H
  obtain ⟨B, g1, g2⟩ := h1 0 _ rfl
  refine ⟨B, fun b o hb => (g1 b o hb).2, g2, fun lb => ⟨hv, Bo, f, hs, fun i A hi => ?_, h2, h3⟩⟩
  cases i with
  | zero =>
    simp at hi; subst hi
    refine ⟨fun b o hb => (g1 b o hb).1, fun b cur e hb => ⟨cur.toList, ?_, by simp, fun o ad n c ho => .inl (by simpa using ho)⟩⟩
    have := (g1 b _ hb).2
    unfold Blk; simpa using this
  | succ i => exact h1 (i + 1) A (by simpa using hi)
theorem St.spPut (H : St w0 w (HP.sp B lb i2 :: l)) {b : Nat} {cur : Array Value} {e : TypeId} (hb : B b = some (.cells cur e (0, 0))) :
    ∃ old : List Value, Blk w b old e ∧ old.length = cur.size ∧ (∀ (o : Nat) (ad : Option Addr) (n c : Nat), cur[o]? = some (.slice ad n c) → old[o]? = some (.slice ad n c) ∨ (b = lb ∧ o < i2)) ∧
      ∀ (new : List Value) (i3 : Nat), new.length = old.length → i2 ≤ i3 → (∀ (o : Nat) (ad : Option Addr) (n c : Nat), cur[o]? = some (.slice ad n c) → new[o]? = old[o]? ∨ (b = lb ∧ o < i3)) → St w0 (w.setRow b new.toArray) (HP.sp B lb i3 :: l) := by
  obtain ⟨_, S, _, ⟨g1, g2⟩, _⟩ := H.get 0 rfl
  obtain ⟨old, o1, o2, o3⟩ := g2 b cur e hb
  refine ⟨old, o1, o2, o3, fun new i3 hn hle hk => ?_⟩
  refine H.chg 0 (A := HP.sp B lb i2) (A' := HP.sp B lb i3) rfl (g := b) (fun S hA => hA.1 b _ hb) (Chg.setRow w b _) fun S hA => ⟨hA.1, fun b2 cur2 e2 hb2 => ?_⟩
  obtain ⟨old2, p1, p2, p3⟩ := hA.2 b2 cur2 e2 hb2
  by_cases eb : b2 = b
  · subst eb
    rw [hb] at hb2; cases hb2
    have : old2 = old := by
      unfold Blk at p1 o1
      rw [o1] at p1
      simpa using p1.symm
    subst this
    refine ⟨new, o1.set_same new, hn.trans o2, fun o ad n c ho => ?_⟩
    rcases hk o ad n c ho with h | h
    · rw [h]
      rcases p3 o ad n c ho with h5 | ⟨h5, h6⟩
      · exact .inl h5
      · exact .inr ⟨h5, by omega⟩
    · exact .inr h
  · refine ⟨old2, p1.chg (Chg.setRow w b _) eb, p2, fun o ad n c ho => ?_⟩
    rcases p3 o ad n c ho with h5 | ⟨h5, h6⟩
    · exact .inl h5
    · exact .inr ⟨h5, by omega⟩
/-- A text whose bytes may be written. -/
def TxOk (B : Base) (q : Option Addr) (ys : List UInt8) : Prop := 0 < ys.length → ∃ kb kcur ke, q = some ⟨kb, 0, none⟩ ∧ B kb = some (.cells kcur ke (0, 0)) ∧ ys.length ≤ maxLen ∧ ys.length ≤ kcur.size ∧ ∀ t, t < ys.length → ∀ ad n c, kcur[t]? ≠ some (.slice ad n c)
theorem txOk_of {w : World} (hs : Sub B w) {cs : List Value} {ys : List UInt8} (h : (rSlN 0 rByte).rd B cs ys) : ∃ q c, cs = [.slice q ys.length c] ∧ TxOk B q ys := by
  obtain ⟨q, c, e1, ⟨css, h1, h2⟩, h3⟩ := h
  rw [Base.ge_zero] at h1 h2 h3
  refine ⟨q, c, e1, fun h0 => ?_⟩
  obtain ⟨kb, kcur, ke, hq, hB, hmax⟩ := h3 h0
  refine ⟨kb, kcur, ke, hq, hB, hmax, ?_⟩
  have hsl := h2 w hs
  rw [rdl_bytes_flat h1] at hsl
  obtain ⟨b, off, e2, hrow⟩ := hsl.rowAt (c := 0) rfl h0
  rw [hq] at e2; cases e2
  have hcell : ∀ t, t < ys.length → kcur[t]? = some (Value.int .u8 ((ys.getD t 0).toNat : Int)) := fun t ht => by
    have h5 := hrow t (Value.int .u8 ((ys.getD t 0).toNat : Int)) (by simp [bcells, List.getElem?_map, List.getElem?_eq_getElem ht, List.getD_eq_getElem?_getD])
    unfold World.cell? at h5
    simp only [hs _ _ hB, Nat.zero_add] at h5
    exact h5
  refine ⟨?_, fun t ht ad n c h => by rw [hcell t ht] at h; cases h⟩
  have h6 := hcell (ys.length - 1) (by omega)
  have := (Array.getElem?_eq_some_iff.1 h6).1
  omega
theorem pairsOk {w : World} (hs : Sub B w) (h : (HP.nsl 0 (rP2N 0) p cap xs).pr B default (fun _ => False)) (h0 : 0 < xs.length) : ∃ lb lcur le, p = some ⟨lb, 0, none⟩ ∧ B lb = some (.cells lcur le (0, 0)) ∧ xs.length ≤ maxLen ∧ xs.length * 2 ≤ lcur.size ∧
    ∀ (j : Nat) (x : List UInt8 × List UInt8), xs[j]? = some x → ∃ kp kc vp vc, lcur[j * 2]? = some (.slice kp x.1.length kc) ∧ lcur[j * 2 + 1]? = some (.slice vp x.2.length vc) ∧ TxOk B kp x.1 ∧ TxOk B vp x.2 := by
  obtain ⟨⟨css, h1, h2⟩, h3⟩ := h
  rw [Base.ge_zero] at h1 h2 h3
  obtain ⟨lb, lcur, le, hp, hB, hmax⟩ := h3 h0
  have hsl := h2 w hs
  obtain ⟨b, off, e2, hrow⟩ := hsl.rowAt (c := cap) rfl h0
  rw [hp] at e2; cases e2
  have hk : ∀ c ∈ css, c.length = 2 := fun c hc => by
    obtain ⟨k, hk⟩ := List.mem_iff_getElem?.1 hc
    have hkl := (List.getElem?_eq_some_iff.1 hk).1
    have hx : xs[k]? = some (xs[k]'(by rw [← h1.len]; exact hkl)) := List.getElem?_eq_getElem _
    obtain ⟨c', e1, e2⟩ := RdL.at h1 hx
    rw [hk] at e1; cases e1
    exact (rP2N 0).len e2
  have hcell : ∀ (t : Nat) v, css.flatten[t]? = some v → lcur[t]? = some v := fun t v ht => by
    have h5 := hrow t v ht
    unfold World.cell? at h5
    simp only [hs _ _ hB, Nat.zero_add] at h5
    exact h5
  have hel : ∀ (j : Nat) (x : List UInt8 × List UInt8), xs[j]? = some x → ∃ kp kc vp vc, css[j]? = some [.slice kp x.1.length kc, .slice vp x.2.length vc] ∧ TxOk B kp x.1 ∧ TxOk B vp x.2 := fun j x hx => by
    obtain ⟨c, e1, c1, d1, e2, e3, e4⟩ := RdL.at h1 hx
    obtain ⟨kp, kc, e5, e6⟩ := txOk_of hs e3
    obtain ⟨vp, vc, e7, e8⟩ := txOk_of hs e4
    exact ⟨kp, kc, vp, vc, by rw [e1, e2, e5, e7]; rfl, e6, e8⟩
  have hat : ∀ (j : Nat) (u v : Value), css[j]? = some [u, v] → css.flatten[j * 2]? = some u ∧ css.flatten[j * 2 + 1]? = some v := fun j u v hj => by
    have h5 := flatK_at hk hj
    have g0 : ((css.flatten.drop (j * 2)).take 2)[0]? = some u := by rw [h5]; rfl
    have g1 : ((css.flatten.drop (j * 2)).take 2)[1]? = some v := by rw [h5]; rfl
    simp only [List.getElem?_take, List.getElem?_drop] at g0 g1
    simpa using ⟨g0, g1⟩
  refine ⟨lb, lcur, le, hp, hB, hmax, ?_, fun j x hx => ?_⟩
  · have hx : xs[xs.length - 1]? = some (xs[xs.length - 1]'(by omega)) := List.getElem?_eq_getElem (by omega)
    obtain ⟨kp, kc, vp, vc, e1, _, _⟩ := hel _ _ hx
    have := (Array.getElem?_eq_some_iff.1 (hcell _ _ (hat _ _ _ e1).2)).1
    omega
  · obtain ⟨kp, kc, vp, vc, e1, e2, e3⟩ := hel j x hx
    exact ⟨kp, kc, vp, vc, hcell _ _ (hat j _ _ e1).1, hcell _ _ (hat j _ _ e1).2, e2, e3⟩
end
end Go.Tri
