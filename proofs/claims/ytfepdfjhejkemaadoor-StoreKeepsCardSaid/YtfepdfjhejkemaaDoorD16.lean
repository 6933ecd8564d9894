/- Data: operations on lists of owned slices of bytes. -/
import Derived.Test.YtfepdfjhejkemaaDoorD15
set_option linter.unusedSimpArgs false
set_option linter.unusedVariables false
namespace Go.Tri
open Go.RowKit
section
variable {P : Program} {t e e1 : TypeId} {w0 w : World} {ls : List HP} {ops : Array Oper} {rest : List Oper} {o : Oper} {a : Act} {W : List Oper → Act → World → Prop} {N : Fs} {l : List (Nat × Value)} {d : Nat} {x y : Operand}
theorem St.ooP {size n cap : Nat} {p : Option Addr} {cs : List Value} (H : St w0 w ls) (i : Nat) (hi : ls[i]? = some (HP.own e size (.slice p n cap) n cs)) (hn : 0 < n) : ∃ b, p = some ⟨b, 0, none⟩ := by
  obtain ⟨hl, ⟨h, h'⟩ | ⟨g, cap', cur, h, _⟩⟩ := H.owns i hi
  · omega
  · cases h; exact ⟨g, rfl⟩
theorem St.osOne {css : List (List Value)} {xs : List (List UInt8)} {h : Nat → Prop} (H : St w0 w ls) (i : Nat) (hi : ls[i]? = some (HP.os e1 css xs h)) : ∀ c ∈ css, c.length = 1 := by
  intro c hc
  obtain ⟨B, S, _, ⟨f, h0, h1, _⟩, _⟩ := H.get i hi
  obtain ⟨k, hk⟩ := List.mem_iff_getElem?.1 hc
  have hkl := (List.getElem?_eq_some_iff.1 hk).1
  have hkx : k < xs.length := by rw [← h0]; exact hkl
  obtain ⟨q, c', e, _⟩ := h1 k c _ hk (List.getElem?_eq_getElem hkx)
  rw [e]; rfl
theorem St.ooCell {n cap : Nat} {p : Option Addr} {css : List (List Value)} {xs : List (List UInt8)} {h : Nat → Prop} (H : St w0 w ls) (i j : Nat) (hi : ls[i]? = some (HP.own e 1 (.slice p n cap) n css.flatten)) (hj : ls[j]? = some (HP.os e1 css xs h)) {b : Nat} (hp : p = some ⟨b, 0, none⟩) {k : Nat} {v : Value} (hc : css[k]? = some [v]) : w.cell? ⟨b, 0 + k * 1, none⟩ = some v := by
  have h1 := H.osOne j hj
  obtain ⟨hl, ⟨h0, h'⟩ | ⟨g, cap', cur, h0, _, hg, hnc, _, hsz, ht⟩⟩ := H.owns i hi
  · subst h'
    have hk : k < css.length := (List.getElem?_eq_some_iff.1 hc).1
    have h2 := flatK_at h1 hc
    have h3 : css.flatten = [] := List.eq_nil_of_length_eq_zero (by rw [hl])
    rw [h3] at h2; simp at h2
  · cases h0
    cases hp
    have h2 := flatK_at h1 hc
    have h3 : css.flatten[k]? = some v := by
      have := congrArg (fun l => l[0]?) h2
      simpa [List.getElem?_take, List.getElem?_drop] using this
    have hk := (List.getElem?_eq_some_iff.1 h3).1
    rw [hl] at hk
    have h4 : cur[k]? = some v := by
      rw [← ht, List.getElem?_take] at h3
      split at h3
      · rw [Array.getElem?_toList] at h3; exact h3
      · omega
    unfold World.cell?
    simp only [hg]
    simpa using h4
/-- An owned slice of bytes goes behind the others. -/
theorem s_appOO (k : Walk P ops W) (F : Fr N a l) (hg : o.guard = none) (hd : o.dst = some d) (hN : Nat.blt d N.n = true) {s z : Operand} (ho : o.op = .call { callee := .builtin .append, args := #[s, z], argTypes := #[t, t] })
    {p q : Option Addr} {cap c b : Nat} {xs zs : List (List UInt8)} {x : List UInt8} {css : List (List Value)} {u : TypeId} (hs : ev l s = some (.slice p xs.length cap)) (hx : ev l z = some (.slice (some ⟨b, 0, none⟩) 1 1)) {bytes : Nat} {z0 : Value} (hE : ElemT P t e 1 bytes z0) (hb : Nat.ble bytes 512 = true) (hz : appO xs [x] = some zs)
    (H : St w0 w (HP.own e 1 (.slice p xs.length cap) xs.length css.flatten :: HP.ow rByte e1 q c x :: HP.os e1 css xs noh :: HP.blk b [Value.slice q x.length c] u :: ls))
    (hk : ∀ p' c' w' a', St w0 w' (HP.os e1 (css ++ [[Value.slice q x.length c]]) zs noh :: HP.own e 1 (.slice p' zs.length c') zs.length (css ++ [[Value.slice q x.length c]]).flatten :: ls) → Fr N a' ((d, .slice p' zs.length c') :: l) → W rest a' w') : W (o :: rest) a w := by
  have hb1 := H.blk 3 rfl
  obtain ⟨hr, rfl⟩ := appO_some hz
  have hsl : Sl w (.slice (some ⟨b, 0, none⟩) 1 1) 1 [.slice q x.length c] := .inr (.inr ⟨b, 0, 1, rfl, Nat.le_refl _, hb1.row⟩)
  have hfl : Flat [Value.slice q x.length c] := by intro v hv; simp at hv; subst hv; rfl
  unfold room at hr
  simp only [List.length_singleton] at hr
  have hb' := Nat.le_of_ble_eq_true hb
  have hmul : (xs.length + 1) * bytes ≤ 274877906944 * 512 := Nat.mul_le_mul hr hb'
  obtain ⟨v', w', hrun, H2⟩ := run_appendSt (P := P) (t := t) (z := z0) H 0 rfl hE hsl rfl hfl (by unfold maxLen; omega) (by omega) o.type
  obtain ⟨p', c', rfl, _, _⟩ := H2.ownForm 0 rfl
  have H3 := (H2.mv 2 rfl |>.mv 2 rfl).osSnoc
  have hlen : (xs ++ [x]).length = xs.length + 1 := by simp
  have hfe : (css ++ [[Value.slice q x.length c]]).flatten = css.flatten ++ [Value.slice q x.length c] := by simp
  refine s_val (v := .slice p' (xs ++ [x]).length c') (w' := w') k F hg hd hN (by rw [ho]; rfl) ?_ fun a' F' => hk p' c' w' a' ?_ F'
  · unfold execOp
    simp [ho, resolve, invoke, builtin, F.eval hs, F.eval hx, hrun]
  · have H4 := H3.dp 2 rfl
    rw [hlen, hfe]
    exact H4
end
end Go.Tri
