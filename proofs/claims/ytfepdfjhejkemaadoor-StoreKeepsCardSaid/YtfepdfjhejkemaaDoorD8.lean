/- Data: guards, nil, new slices, arrays that are compared, elements of owned slices. -/
import Derived.Test.YtfepdfjhejkemaaDoorD7
import Derived.Laws.OwnMore
set_option linter.unusedSimpArgs false
set_option linter.unusedVariables false
namespace Go.Tri
open Go.RowKit
section
variable {P : Program} {ops : Array Oper} {rest : List Oper} {o : Oper} {a : Act} {w : World} {W : List Oper → Act → World → Prop} {N : Fs} {l : List (Nat × Value)} {d : Nat} {C : World → Prop} {Q : Act → Prop}
theorem want_offU {bb : Bool} {g s : Nat} {og : Oper} (F : Fr N a l) (hgd : o.guard = some (g, bb)) (hog : ops[g]? = some og) (hog2 : og.dst = some s) (hv : lk s l = some undef) : Region.wanted o (yielded ops a.tmps) = false := by
  have h1 := F.get s _ hv
  simp [Region.wanted, hgd, yielded, hog, hog2, h1, undef]
theorem g_offU {bb : Bool} {g s : Nat} {og : Oper} (k : Walk P ops W) (F : Fr N a l) (hgd : o.guard = some (g, bb)) (hog : ops[g]? = some og) (hog2 : og.dst = some s) (hv : lk s l = some undef) (hd : o.dst = some d) (hN : Nat.blt d N.n = true)
    (hk : ∀ a', Fr N a' ((d, undef) :: l) → W rest a' w) : W (o :: rest) a w :=
  k.off (want_offU F hgd hog hog2 hv) (by rw [hd]; exact hk _ (F.put hN _))
theorem qg_offU {bb : Bool} {g k : Nat} {og : Oper} (F : Fr N a l) (hgd : o.guard = some (g, bb)) (hog : ops[g]? = some og) (hog2 : og.dst = some k) (hv : lk k l = some undef) (hd : o.dst = some d) (hN : Nat.blt d N.n = true)
    (hk : ∀ a', Fr N a' ((d, undef) :: l) → wpQuiet P ops C Q rest a') : wpQuiet P ops C Q (o :: rest) a := by
  have hw := want_offU F hgd hog hog2 hv
  unfold wpQuiet
  rw [if_neg (by rw [hw]; simp), hd]
  exact hk _ (F.put hN _)
variable {t t' e : TypeId} {x y : Operand}
theorem run_eqN {op : BinOp} (h : P.underlying t = some (.slice e)) (w : World) (x y : Operand) (hop : op = .eql ∨ op = .neq) : (do eqGuard op t x y (.slice none 0 0) (.slice none 0 0); binOp op t (.slice none 0 0) (.slice none 0 0)).run P w = .ok (.bool (op == .eql)) w := by
  have h1 : ∀ d : Nat, (Op.equalIn (d + 1) t (.slice none 0 0) (.slice none 0 0)).run P w = .ok true w := fun d => by
    unfold Op.equalIn; rw [Sem.run_bind, Go.Tri.run_underlying h]; rfl
  have h2 := h1 9999
  rcases hop with rfl | rfl
  · have h3 : (eqGuard .eql t x y (.slice none 0 0) (.slice none 0 0)).run P w = .ok () w := rfl
    rw [Sem.run_bind, h3]
    simp only [Result.andThen_ok, binOp, Op.equal, Op.maxDepth]
    rw [Sem.run_bind, h2]; rfl
  · have h3 : (eqGuard .neq t x y (.slice none 0 0) (.slice none 0 0)).run P w = .ok () w := rfl
    rw [Sem.run_bind, h3]
    simp only [Result.andThen_ok, binOp, Op.equal, Op.maxDepth]
    rw [Sem.run_bind, h2]; rfl
theorem run_eqS {op : BinOp} (h : P.underlying t = some (.slice e)) (w : World) (x y : Operand) (ad : Addr) (n c : Nat) (hop : op = .eql ∨ op = .neq) : (do eqGuard op t x y (.slice (some ad) n c) (.slice none 0 0); binOp op t (.slice (some ad) n c) (.slice none 0 0)).run P w = .ok (.bool (op == .neq)) w := by
  have h1 : ∀ d : Nat, (Op.equalIn (d + 1) t (.slice (some ad) n c) (.slice none 0 0)).run P w = .ok false w := fun d => by
    unfold Op.equalIn; rw [Sem.run_bind, Go.Tri.run_underlying h]; rfl
  have h2 := h1 9999
  rcases hop with rfl | rfl
  · have h3 : (eqGuard .eql t x y (.slice (some ad) n c) (.slice none 0 0)).run P w = .ok () w := rfl
    rw [Sem.run_bind, h3]
    simp only [Result.andThen_ok, binOp, Op.equal, Op.maxDepth]
    rw [Sem.run_bind, h2]; rfl
  · have h3 : (eqGuard .neq t x y (.slice (some ad) n c) (.slice none 0 0)).run P w = .ok () w := rfl
    rw [Sem.run_bind, h3]
    simp only [Result.andThen_ok, binOp, Op.equal, Op.maxDepth]
    rw [Sem.run_bind, h2]; rfl
theorem y_eqNil {op : BinOp} (F : Fr N a l) (ho : o.op = .binOp op t x y t') (h : P.underlying t = some (.slice e)) (hx : ev l x = some (.slice none 0 0)) (hy : ev l y = some (.slice none 0 0)) (hop : op = .eql ∨ op = .neq) : (execOp a.eval o).run P w = .ok (.value (.bool (op == .eql))) w :=
  y_binAgg F ho hx hy (run_eqN h w x y hop)
theorem y_eqSome {op : BinOp} (F : Fr N a l) (ho : o.op = .binOp op t x y t') (h : P.underlying t = some (.slice e)) {ad : Addr} {n c : Nat} (hx : ev l x = some (.slice (some ad) n c)) (hy : ev l y = some (.slice none 0 0)) (hop : op = .eql ∨ op = .neq) : (execOp a.eval o).run P w = .ok (.value (.bool (op == .neq))) w :=
  y_binAgg F ho hx hy (run_eqS h w x y ad n c hop)
/-- An array of bytes whose values are compared. -/
structure KeyA (P : Program) (t : TypeId) (n : Nat) : Prop where
  key : P.keyTypeAt 3 t = true
  grd : P.eqGuardType P.depth t = false
  ex : ∃ e, P.underlying t = some (.array n e) ∧ P.underlying e = some (.int .u8) ∧ P.cellsOf e = 1
  sz : P.cellsOf t = n
  form : ∀ l : List UInt8, l.length = n → (Value.agg (bcells l).toArray).formed P t = true
theorem KeyA.run {n : Nat} (h : KeyA P t n) {u v : List UInt8} (hu : u.length = n) (hv : v.length = n) (w : World) (x y : Operand) :
    (do eqGuard .eql t x y (.agg (bcells u).toArray) (.agg (bcells v).toArray); binOp .eql t (.agg (bcells u).toArray) (.agg (bcells v).toArray)).run P w = .ok (.bool (decide (u = v))) w ∧
    (do eqGuard .neq t x y (.agg (bcells u).toArray) (.agg (bcells v).toArray); binOp .neq t (.agg (bcells u).toArray) (.agg (bcells v).toArray)).run P w = .ok (.bool (!decide (u = v))) w := by
  obtain ⟨e, h1, h2, h3⟩ := h.ex
  exact run_eqAgg (m := 3) (by decide) h.key (h.form u hu) (h.form v hv) (keyLits_bytes h1 h2 h3 h.sz 1 u hu) (keyLits_bytes h1 h2 h3 h.sz 1 v hv) h.grd w x y (decide (u = v)) (by
    rw [decide_eq_true_eq]
    exact ⟨fun hh => by rw [hh], fun hh => lits_inj _ _ hh⟩)
theorem y_eqlA {n : Nat} (F : Fr N a l) (h : KeyA P t n) (ho : o.op = .binOp .eql t x y t') {u v : List UInt8} (hx : ev l x = some (.agg (bcells u).toArray)) (hy : ev l y = some (.agg (bcells v).toArray)) (hu : u.length = n) (hv : v.length = n) : (execOp a.eval o).run P w = .ok (.value (.bool (decide (u = v)))) w :=
  y_binAgg F ho hx hy (h.run hu hv w x y).1
theorem y_neqA {n : Nat} (F : Fr N a l) (h : KeyA P t n) (ho : o.op = .binOp .neq t x y t') {u v : List UInt8} (hx : ev l x = some (.agg (bcells u).toArray)) (hy : ev l y = some (.agg (bcells v).toArray)) (hu : u.length = n) (hv : v.length = n) : (execOp a.eval o).run P w = .ok (.value (.bool (!decide (u = v)))) w :=
  y_binAgg F ho hx hy (h.run hu hv w x y).2
theorem KeyA.make {n e : Nat} (h1 : P.keyTypeAt 3 t = true) (h2 : P.eqGuardType P.depth t = false) (h3 : P.underlying t = some (.array n e)) (h4 : P.underlying e = some (.int .u8)) (h5 : P.cellsOf e = 1) (h6 : P.cellsOf t = n) (hc : (P.info? t).map (·.size) = some n) : KeyA P t n :=
  ⟨h1, h2, ⟨e, h3, h4, h5⟩, h6, fun l hl => by
    simp [Value.formed, h3, h6, bcells_length, hl]⟩
end
section
variable {α : Type} {R : Rp α} {w0 w : World} {l : List HP} {p : Option Addr} {cap : Nat} {xs : List α} {e : TypeId}
theorem St.slNone (H : St w0 w l) (i : Nat) (hi : l[i]? = some (HP.sl R none cap xs)) : xs = [] ∧ cap = 0 := by
  obtain ⟨B, S, hs, ⟨css, h1, h2⟩, _⟩ := H.get i hi
  rcases h2 w hs with ⟨h, hn, _⟩ | ⟨a, c, h, hn, _⟩ | ⟨b, off, c, h, hc, _⟩
  · obtain ⟨_, _, h3⟩ := Value.slice.inj h; exact ⟨List.eq_nil_of_length_eq_zero (by omega), h3⟩
  · obtain ⟨h1, _⟩ := Value.slice.inj h; cases h1
  · obtain ⟨h1, _⟩ := Value.slice.inj h; cases h1
/-- An owned slice whose elements' cells are told. -/
def HP.ox (R : Rp α) (e : TypeId) (p : Option Addr) (cap : Nat) (css : List (List Value)) (xs : List α) : HP :=
  ⟨fun B w S => RdL R B css xs ∧ (HP.own e R.n (.slice p xs.length cap) xs.length css.flatten).pr B w S, fun ⟨h1, h2⟩ hS => ⟨h1, HP.loc _ h2 hS⟩, fun ⟨h1, h2⟩ hl => ⟨h1.mono hl, HP.mono _ h2 hl⟩⟩
theorem St.oxOpen (H : St w0 w l) (i : Nat) (hi : l[i]? = some (HP.ow R e p cap xs)) : ∃ css, St w0 w (l.set i (HP.ox R e p cap css xs)) := by
  obtain ⟨hv, B, f, hs, h1, h2, h3⟩ := H
  obtain ⟨css, c1, c2⟩ := h1 i _ hi
  have hil : i < l.length := (List.getElem?_eq_some_iff.1 hi).1
  refine ⟨css, StB.st (B := B) ⟨hv, hs, f, fun j E hj => ?_, by simpa using h2, by simpa using h3⟩⟩
  rw [List.getElem?_set] at hj
  by_cases ee : i = j
  · subst ee; rw [if_pos rfl, if_pos hil] at hj; cases hj; exact ⟨c1, c2⟩
  · rw [if_neg ee] at hj; exact h1 j E hj
theorem St.oxShut (H : St w0 w l) (i : Nat) {css : List (List Value)} (hi : l[i]? = some (HP.ox R e p cap css xs)) : St w0 w (l.set i (HP.ow R e p cap xs)) :=
  H.convAt i hi fun S h => ⟨css, h.1, h.2⟩
theorem St.oxEl (H : St w0 w l) (i : Nat) {css : List (List Value)} (hi : l[i]? = some (HP.ox R e p cap css xs)) {k : Nat} {x : α} (hx : xs[k]? = some x) : ∃ c, css[k]? = some c ∧ c.length = R.n ∧ St w0 w (HP.rc R c x :: l) := by
  obtain ⟨B, H⟩ := H.out
  obtain ⟨S, c1, c2⟩ := H.at hi
  obtain ⟨c, hc, hr⟩ := c1.at hx
  exact ⟨c, hc, R.len hr, (H.more (A := HP.rc R c x) hr).st⟩
theorem St.oxRow (H : St w0 w l) (i : Nat) {css : List (List Value)} (hi : l[i]? = some (HP.ox R e p cap css xs)) {b : Nat} (hp : p = some ⟨b, 0, none⟩) {k : Nat} {c : List Value} (hc : css[k]? = some c) (hn : c.length = R.n) : Row w b (0 + k * R.n) c := by
  obtain ⟨B, S, hs, ⟨h1, h2⟩, _⟩ := H.get i hi
  have hk := (List.getElem?_eq_some_iff.1 hc).1
  rw [h1.len] at hk
  obtain ⟨b', off', hp', hr'⟩ := (ownsRow_sl h2.1).rowAt (c := 0) rfl (by omega)
  rw [hp] at hp'; cases hp'
  have := hr'.sub (k * R.n) R.n
  rw [flat_at h1 hc hn] at this
  exact this
variable {P : Program} {t : TypeId} {ops : Array Oper} {rest : List Oper} {o : Oper} {a : Act} {W : List Oper → Act → World → Prop} {N : Fs} {sl : List (Nat × Value)} {d : Nat} {x y : Operand}
theorem s_mkO (k : Walk P ops W) (F : Fr N a sl) (hg : o.guard = none) (hd : o.dst = some d) (hN : Nat.blt d N.n = true) {bytes : Nat} {z0 : Value} (hE : ElemT P t e 1 bytes z0) (hR : R.n = 1) (hb : Nat.ble bytes 512 = true) (hz1 : z0.cells = #[z0]) (ho : o.op = .makeSlice t x y) {q q' : IntKind} {n : Int} (hx : ev sl x = some (.int q n)) (hy : ev sl y = some (.int q' n)) {z : α} (hz : ∀ B, R.rd B [z0] z) {zs : List α} (hm : mkO n z = some zs) (H : St w0 w l)
    (hk : ∀ b w' a', St w0 w' (HP.ow R e (some ⟨b, 0, none⟩) zs.length zs :: l) → Fr N a' ((d, .slice (some ⟨b, 0, none⟩) zs.length zs.length) :: sl) → W rest a' w') : W (o :: rest) a w := by
  unfold mkO at hm
  split at hm
  · rename_i hn
    cases hm
    have hb' := Nat.le_of_ble_eq_true hb
    obtain ⟨j, hj, hz0, hs1, hs2⟩ := info_parts hE.hi
    have hmul : j.bytes * n.toNat ≤ 512 * 274877906944 := by rw [hs2]; exact Nat.mul_le_mul hb' (by omega)
    obtain ⟨w', hr, how, hgr⟩ := run_make_full (P := P) w w.heap.size t e j z0 1 hE.ht hj hz0 hs1 q q' n.toNat (by omega) (by unfold maxLen; omega) (Nat.le_refl _)
    have hc : (madeCells z0.cells (n.toNat * 1)).toList = (List.replicate n.toNat [z0]).flatten := by
      rw [hz1]
      apply List.ext_getElem
      · simp [madeCells]
      · intro i h1 h2; simp [madeCells, Nat.mod_one]
    have hrd : ∀ (B : Base) (m : Nat), RdL R B (List.replicate m [z0]) (List.replicate m z) := by
      intro B m
      induction m with
      | zero => trivial
      | succ m ih => exact ⟨hz B, ih⟩
    have hnn : ((n.toNat : Nat) : Int) = n := by omega
    rw [hnn] at hr
    have hS : St w0 w' (HP.ow R e (some ⟨w.heap.size, 0, none⟩) n.toNat (List.replicate n.toNat z) :: l) := by
      have H1 := H.owNil R e
      have H2 := H1.upd (w' := w') 0 rfl (A' := HP.ow R e (some ⟨w.heap.size, 0, none⟩) n.toNat (List.replicate n.toNat z)) (fun {B} S hA hS => ⟨fun b => b = w.heap.size, ⟨_, hrd B _, by
        rw [List.length_replicate, hR]
        refine ⟨?_, fun b hb => by simp [Value.ownBlock] at hb; exact hb.symm⟩
        rw [← hc]
        obtain ⟨h1, h2⟩ := how
        refine ⟨h1, ?_⟩
        rcases h2 with h | ⟨g, cp, cur, hv, hbb, hrest⟩
        · cases h.1
        · exact .inr ⟨g, cp, cur, hv, Nat.zero_le _, hrest⟩⟩, fun b hb => .inr (by omega), fun b hb => by subst hb; exact (how.lt _ rfl).2, fun b hb _ => hgr.block b hb (by simp)⟩) hgr.os hgr.tape hgr.output hgr.size
      exact H2
    refine s_val (v := .slice (some ⟨w.heap.size, 0, none⟩) n.toNat n.toNat) (w' := w') k F hg hd hN (by rw [ho]; rfl) ?_ fun a' F' => hk _ w' a' (by rw [List.length_replicate]; exact hS) (by rw [List.length_replicate]; exact F')
    unfold execOp
    simp [ho, F.eval hx, F.eval hy, hr]
  · cases hm
end
end Go.Tri
