/- Data: more conversions; bytes over an owned slice. -/
import Derived.Test.YtfepdfjhejkemaaDoorD13
import Derived.Lib.ConvBytes
set_option linter.unusedSimpArgs false
set_option linter.unusedVariables false
namespace Go.Tri
open Go.RowKit
section
variable {P : Program} {T E e : TypeId} {w0 w : World} {ls : List HP} {ops : Array Oper} {rest : List Oper} {o : Oper} {a : Act} {W : List Oper → Act → World → Prop} {N : Fs} {sl : List (Nat × Value)} {d : Nat} {x y z : Operand}
theorem run_convSl (hT : P.underlying T = some (.slice E)) (hE : P.underlying E = some (.int .u8)) {b n c k : Nat} {u : TypeId} (hs : w.shape? b = some (u, k)) : (convert T T (.slice (some ⟨b, 0, none⟩) n c)).run P w = .ok (.slice (some ⟨b, 0, none⟩) n c) (w.freeze ⟨b, k, none⟩ 1) := by
  unfold convert
  rw [Sem.run_bind, Go.Tri.run_underlying hT]
  simp only [Result.andThen_ok]
  rw [Sem.run_bind, Go.Tri.run_underlying hT]
  simp only [Result.andThen_ok]
  rw [Sem.run_bind, Go.Tri.run_underlying hE]
  simp [markStringish, hs]
theorem freeze_oth {w : World} {b k j : Nat} (h : j ≠ b) : (w.freeze ⟨b, k, none⟩ 1).heap[j]? = w.heap[j]? := by
  unfold World.freeze
  rw [if_neg (by decide)]
  simp [Array.getElem?_modify, Ne.symm h]
theorem freeze_at {w : World} {b k : Nat} {c : Array Value} {u : TypeId} {r : Nat × Nat} (h : w.heap[b]? = some (.cells c u r)) : ∃ r', (w.freeze ⟨b, k, none⟩ 1).heap[b]? = some (.cells c u r') := by
  unfold World.freeze
  rw [if_neg (by decide)]
  simp only [Array.getElem?_modify, if_true, h, Option.map_some]
  obtain ⟨lo, hi⟩ := r
  exact ⟨_, rfl⟩
theorem freeze_rest (w : World) (b k : Nat) : (w.freeze ⟨b, k, none⟩ 1).os = w.os ∧ (w.freeze ⟨b, k, none⟩ 1).tape = w.tape ∧ (w.freeze ⟨b, k, none⟩ 1).output = w.output ∧ (w.freeze ⟨b, k, none⟩ 1).heap.size = w.heap.size := by
  unfold World.freeze
  rw [if_neg (by decide)]
  simp
/-- A block of bytes that may be marked. -/
def HP.bm (b cap : Nat) (xs : List UInt8) : HP := ⟨fun _ w S => (∃ (c : Array Value) (u : TypeId) (r : Nat × Nat), w.heap[b]? = some (.cells c u r) ∧ xs.length ≤ cap ∧ c.toList.take xs.length = bcells xs) ∧ S b, fun ⟨⟨c, u, r, h1, h2⟩, h3⟩ hS => ⟨⟨c, u, r, by rw [hS _ h3]; exact h1, h2⟩, h3⟩, fun h _ => h⟩
theorem St.bmFrz {b cap : Nat} {xs : List UInt8} (H : St w0 w (HP.bm b cap xs :: ls)) : St w0 w (HP.sl rByte (some ⟨b, 0, none⟩) cap xs :: ls) :=
  H.freezeH fun {B B'} S h _ hw => ⟨_, rdl_bytes B' xs, fun w' hw' => by
    obtain ⟨⟨c, u, r, h1, h2, h3⟩, hS⟩ := h
    have hb := hw w' hw' b hS
    rw [rdl_bytes_flat (rdl_bytes B' xs)]
    refine .inr (.inr ⟨b, 0, cap, rfl, h2, fun j v hj => ?_⟩)
    have hj2 : c[j]? = some v := by
      rw [← h3, List.getElem?_take] at hj
      split at hj
      · simpa using hj
      · cases hj
    unfold World.cell?
    rw [hb, h1]; simpa using hj2⟩
theorem s_convSl (kw : Walk P ops W) (F : Fr N a sl) (hg : o.guard = none) (hd : o.dst = some d) (hN : Nat.blt d N.n = true) (hT : P.underlying T = some (.slice E)) (hE : P.underlying E = some (.int .u8)) (ho : o.op = .convert T T x) {b cap : Nat} {xs : List UInt8} (hx : ev sl x = some (.slice (some ⟨b, 0, none⟩) xs.length cap))
    (H : St w0 w ls) (i : Nat) (hi : ls[i]? = some (HP.ow rByte e (some ⟨b, 0, none⟩) cap xs))
    (hk : ∀ w' a', St w0 w' (HP.sl rByte (some ⟨b, 0, none⟩) cap xs :: ls.eraseIdx i) → Fr N a' ((d, .slice (some ⟨b, 0, none⟩) xs.length cap) :: sl) → W rest a' w') : W (o :: rest) a w := by
  have H1 := H.mv i hi
  obtain ⟨B, S, hs, ⟨css, h1, ⟨hl, hh⟩, hS⟩, _⟩ := H1.get 0 rfl
  rw [rdl_bytes_flat h1] at hh hl
  have hshape : ∃ c, w.heap[b]? = some (.cells c e (0, 0)) ∧ xs.length ≤ cap ∧ c.toList.take xs.length = bcells xs := by
    rcases hh with ⟨h, _⟩ | ⟨g, cap', cur, h, _, hg', hnc, _, _, ht⟩
    · cases h
    · cases h
      have e1 : rByte.n = 1 := rfl
      rw [e1, Nat.mul_one] at ht
      exact ⟨cur, hg', hnc, ht⟩
  obtain ⟨c, hc, hcap, htk⟩ := hshape
  have hsh : w.shape? b = some (e, c.size) := by simp [World.shape?, hc]
  refine s_val (w' := w.freeze ⟨b, c.size, none⟩ 1) (v := .slice (some ⟨b, 0, none⟩) xs.length cap) kw F hg hd hN (by rw [ho]; rfl) ?_ fun a' F' => hk _ a' ?_ F'
  · unfold execOp
    simp only [ho, F.eval hx]
    rw [Sem.run_bind, run_convSl hT hE hsh]; rfl
  · obtain ⟨r1, r2, r3, r4⟩ := freeze_rest w b c.size
    refine St.bmFrz (H1.upd 0 (A' := HP.bm b cap xs) rfl (fun {B} S hA hS => ⟨S, ?_, fun b hb => .inl hb, fun b hb => by rw [r4]; exact (hS b hb).1, fun j _ hn => ?_⟩) r1 r2 r3 (by rw [r4]; exact Nat.le_refl _))
    · obtain ⟨css, _, _, hSb⟩ := hA
      obtain ⟨r', hr'⟩ := freeze_at (k := c.size) hc
      exact ⟨⟨c, e, r', hr', hcap, htk⟩, hSb b rfl⟩
    · refine freeze_oth fun e2 => hn ?_
      obtain ⟨css, _, _, hSb⟩ := hA
      rw [e2]; exact hSb b rfl
end
section
variable {P : Program} {ops : Array Oper} {C : World → Prop} {K : Act → World → Prop} {N : Fs} {a : Act} {l : List (Nat × Value)} {w : World} {i d : Nat} {o : Oper} {r : Sc} {v : Value}
theorem heavy_on {M : Act → World → Prop} (hw : Region.wanted o (yielded ops a.tmps) = true) (h : wpList P ops (Exit.then M (fun _ _ _ => False)) [o] a w) : o.wp P a w M (fun _ _ _ => False) := by
  unfold wpList at h
  rw [if_pos hw] at h
  rcases h with h | ⟨_, _, _, h⟩
  · unfold Oper.wp at *
    generalize (execOp a.eval o).run P w = r at *
    cases r with
    | ok n w' =>
      cases n <;> simp only [Oper.upon] at h ⊢
      case value v => exact h
      case skip => exact h
      case defer d => exact h
      case enter f args =>
        refine Calls.mono h fun e w'' he => ?_
        cases e with
        | returned u => exact he
        | panicked c => exact he
        | outgrown => obtain ⟨_, _, h⟩ := he; exact h.elim
      case row row args => exact h
    | halt x w' =>
      cases x <;> simp only [Oper.upon] at h ⊢
      case panic v => exact h
  · exact h.elim
theorem m_heavyOn {s : Nat} {bb : Bool} {g : Nat} {og : Oper} (F : Fr N a l) (hi : ops[i]? = some o) (hgd : o.guard = some (g, bb)) (hog : ops[g]? = some og) (hog2 : og.dst = some s) (hv : lk s l = some (.bool bb)) (h : wpList P ops (Exit.then (fun a' w' => C w' ∧ wpMix P ops C K r a' w') (fun _ _ _ => False)) [o] a w) : wpMix P ops C K (.step 2 i r) a w :=
  ⟨o, hi, fun hw => heavy_on hw h, fun hw => by rw [want_on F hgd hog hog2 hv] at hw; cases hw⟩
end
section
variable {P : Program} {t t' e : TypeId} {o : Oper} {a : Act} {w : World} {N : Fs} {sl : List (Nat × Value)} {x y : Operand}
theorem run_eqlP (h : P.underlying t = some (.pointer e)) (w : World) (p q : Option Addr) (hpq : p = none ∨ q = none) : (Op.equal t (.pointer p) (.pointer q)).run P w = .ok (decide (p = q)) w := by
  unfold Op.equal
  show (Op.equalIn (9999 + 1) t _ _).run P w = _
  unfold Op.equalIn
  rw [Sem.run_bind, Go.Tri.run_underlying h]
  simp only [Result.andThen_ok]
  rcases hpq with rfl | rfl
  · cases q <;> rfl
  · cases p <;> rfl
theorem y_eqlP (F : Fr N a sl) (ho : o.op = .binOp .eql t x y t') {p q : Option Addr} (hx : ev sl x = some (.pointer p)) (hy : ev sl y = some (.pointer q)) (h : P.underlying t = some (.pointer e)) (hpq : p = none ∨ q = none) : (execOp a.eval o).run P w = .ok (.value (.bool (decide (p = q)))) w := by
  have h1 := run_eqlP h w p q hpq
  unfold execOp
  simp [ho, F.eval hx, F.eval hy, eqGuard, binOp, h1]
theorem y_eqlPN (F : Fr N a sl) (ho : o.op = .binOp .eql t x y t') {ad : Addr} (hx : ev sl x = some (.pointer (some ad))) (hy : ev sl y = some (.pointer none)) (h : P.underlying t = some (.pointer e)) : (execOp a.eval o).run P w = .ok (.value (.bool false)) w := y_eqlP F ho hx hy h (.inr rfl)
end
end Go.Tri
