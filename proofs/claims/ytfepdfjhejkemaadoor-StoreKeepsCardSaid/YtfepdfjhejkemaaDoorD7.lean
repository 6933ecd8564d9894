/- Data: more operations. -/
import Derived.Test.YtfepdfjhejkemaaDoorD6
set_option linter.unusedSimpArgs false
set_option linter.unusedVariables false
namespace Go.Tri
open Go.RowKit
theorem St.keep {w0 w : World} {l : List HP} (n m : Nat) (H : St w0 w l) : St w0 w (l.take n ++ l.drop (n + m)) := by
  obtain ⟨hv, B, f, hs, h1, h2, h3⟩ := H
  let g : Nat → Nat := fun k => if k < min n l.length then k else k - min n l.length + (n + m)
  have hlt : (l.take n).length = min n l.length := List.length_take
  have key : ∀ k A, (l.take n ++ l.drop (n + m))[k]? = some A → l[g k]? = some A := by
    intro k A hk
    rw [List.getElem?_append, hlt] at hk
    by_cases e : k < min n l.length
    · simp only [g, if_pos e] at *; rw [List.getElem?_take_of_lt (by omega)] at hk; exact hk
    · simp only [g, if_neg e] at *; rw [List.getElem?_drop] at hk; rw [Nat.add_comm]; exact hk
  have glt : ∀ k, k < (l.take n ++ l.drop (n + m)).length → g k < l.length := by
    intro k hk
    exact (List.getElem?_eq_some_iff.1 (key k _ (List.getElem?_eq_getElem hk))).1
  refine ⟨hv, B, fun k => f (g k), hs, fun k A hk => h1 _ A (key k A hk), ?_, fun i b hi hf => h3 _ b (glt i hi) hf⟩
  intro i j b hi hj hfi hfj
  have hij := h2 _ _ b (glt i hi) (glt j hj) hfi hfj
  have a1 := glt i hi
  have a2 := glt j hj
  simp only [g] at hij a1 a2
  by_cases e1 : i < min n l.length
  · by_cases e2 : j < min n l.length
    · rw [if_pos e1, if_pos e2] at hij; exact hij
    · rw [if_pos e1, if_neg e2] at hij; omega
  · by_cases e2 : j < min n l.length
    · rw [if_neg e1, if_pos e2] at hij; omega
    · rw [if_neg e1, if_neg e2] at hij; omega
section
variable {α : Type} {R : Rp α} {P : Program} {w0 w : World} {ls : List HP} {t e : TypeId} {ops : Array Oper} {rest : List Oper} {o : Oper} {a : Act} {W : List Oper → Act → World → Prop} {N : Fs} {l : List (Nat × Value)} {d : Nat} {x y : Operand} {v : Value}
theorem s_build0O (k : Walk P ops W) (F : Fr N a l) (hg : o.guard = none) (hd : o.dst = some d) (hN : Nat.blt d N.n = true) {bytes : Nat} {z0 : Value} (hE : ElemT P t e R.n bytes z0) (ho : o.op = .buildSlice t 0 #[]) (H : St w0 w ls)
    (hk : ∀ b w' a', St w0 w' (HP.ow R e (some ⟨b, 0, none⟩) 0 [] :: ls) → Fr N a' ((d, .slice (some ⟨b, 0, none⟩) 0 0) :: l) → W rest a' w') : W (o :: rest) a w :=
  s_val k F hg hd hN (by rw [ho]; rfl) (y_buildSlice0 F hE ho) fun a' F' => hk _ _ a' ((H.ownNew e R.n).conv fun S h => ⟨[], trivial, h⟩) F'
theorem y_slAS (F : Fr N a l) {n size : Nat} (hA : ArrT P t e n size) {lo hi : Option Operand} (ho : o.op = .slice t x lo hi none) {b off : Nat} (hx : ev l x = some (.pointer (some ⟨b, off, none⟩))) {i j : Nat} (hb : (Instr.sliceBounds false n n (lo.map a.eval) (hi.map a.eval) none).run P w = .ok (i, j, n) w) :
    (execOp a.eval o).run P w = .ok (.value (.slice (shp (some ⟨b, off, none⟩) n i size) (j - i) (n - i))) w := by
  rw [y_slA F hA ho hx hb]
  unfold shp
  split <;> simp [add_none]
theorem y_slALH (F : Fr N a l) {n size : Nat} (hA : ArrT P t e n size) {lo hi : Operand} (ho : o.op = .slice t x (some lo) (some hi) none) {b off : Nat} (hx : ev l x = some (.pointer (some ⟨b, off, none⟩))) {k k' : IntKind} {i j : Int} {xs zs : List α} (hl : ev l lo = some (.int k i)) (hh : ev l hi = some (.int k' j)) (hz : slcO xs i j = some zs) (hn : xs.length = n) :
    (execOp a.eval o).run P w = .ok (.value (.slice (shp (some ⟨b, off, none⟩) n i.toNat size) zs.length (n - i.toNat))) w := by
  obtain ⟨h1, _, h2⟩ := slcO_some hz
  rw [h2]
  refine y_slAS F hA ho hx ?_
  simp only [Option.map_some, F.eval hl, F.eval hh]
  unfold Instr.sliceBounds
  simp [bound_okI (show 0 ≤ j by omega) (show j ≤ n by omega), bound_okI (show 0 ≤ i by omega) (show i ≤ ((j.toNat : Nat) : Int) by omega)]
theorem y_slAL (F : Fr N a l) {n size : Nat} (hA : ArrT P t e n size) {lo : Operand} (ho : o.op = .slice t x (some lo) none none) {b off : Nat} (hx : ev l x = some (.pointer (some ⟨b, off, none⟩))) {k : IntKind} {i : Int} {xs zs : List α} (hl : ev l lo = some (.int k i)) (hz : slcO xs i xs.length = some zs) (hn : xs.length = n) :
    (execOp a.eval o).run P w = .ok (.value (.slice (shp (some ⟨b, off, none⟩) n i.toNat size) zs.length (n - i.toNat))) w := by
  obtain ⟨h1, _, h2⟩ := slcO_some hz
  rw [h2, Int.toNat_natCast, hn]
  refine y_slAS F hA ho hx ?_
  simp only [Option.map_some, Option.map_none, F.eval hl]
  unfold Instr.sliceBounds
  simp [bound_okI (show 0 ≤ i by omega) (show i ≤ ((n : Nat) : Int) by omega)]
theorem y_slAH (F : Fr N a l) {n size : Nat} (hA : ArrT P t e n size) {hi : Operand} (ho : o.op = .slice t x none (some hi) none) {b off : Nat} (hx : ev l x = some (.pointer (some ⟨b, off, none⟩))) {k : IntKind} {j : Int} {xs zs : List α} (hh : ev l hi = some (.int k j)) (hz : slcO xs 0 j = some zs) (hn : xs.length = n) :
    (execOp a.eval o).run P w = .ok (.value (.slice (shp (some ⟨b, off, none⟩) n 0 size) zs.length (n - 0))) w := by
  obtain ⟨h1, _, h2⟩ := slcO_some hz
  rw [h2]
  refine y_slAS F hA ho hx ?_
  simp only [Option.map_some, Option.map_none, F.eval hh]
  unfold Instr.sliceBounds
  simp [bound_okI (show 0 ≤ j by omega) (show j ≤ n by omega)]
theorem rdl_bytes (B : Base) : ∀ xs : List UInt8, RdL rByte B (xs.map fun c => [Value.int .u8 c.toNat]) xs
  | [] => trivial
  | _ :: xs => ⟨rfl, rdl_bytes B xs⟩
theorem flat_bytes (xs : List UInt8) : (xs.map fun c => [Value.int .u8 c.toNat]).flatten = bcells xs := by
  induction xs with
  | nil => rfl
  | cons c xs ih => simp only [List.map_cons, List.flatten_cons, ih]; rfl
theorem rdl_bytes_flat {B : Base} {css : List (List Value)} : ∀ {xs : List UInt8}, RdL rByte B css xs → css.flatten = bcells xs := by
  induction css with
  | nil => intro xs h; cases xs with | nil => rfl | cons _ _ => exact h.elim
  | cons c css ih =>
    intro xs h
    cases xs with
    | nil => exact h.elim
    | cons x xs =>
      have h1 : c = [.int .u8 x.toNat] := h.1
      rw [List.flatten_cons, ih h.2, h1]; rfl
/-- A block of bytes stays: an array as a slice. -/
theorem St.frzB (H : St w0 w ls) (i : Nat) {b : Nat} {xs : List UInt8} {t : TypeId} (hi : ls[i]? = some (HP.blk b (bcells xs) t)) {n : Nat} (hn : xs.length = n) : St w0 w (HP.sl rByte (some ⟨b, 0, none⟩) n xs :: ls.eraseIdx i) :=
  (H.mv i hi).freezeH fun {B B'} S h hle hw => ⟨_, rdl_bytes B' xs, fun w' hw' => by
    have hb : Blk w' b (bcells xs) t := by unfold Blk; rw [hw w' hw' b h.2]; exact h.1
    rw [flat_bytes]; exact .inr (.inr ⟨b, 0, n, rfl, Nat.le_of_eq hn, hb.row⟩)⟩
/-- The bytes of a slice, as one row. -/
theorem St.slRowB {xs : List UInt8} {p : Option Addr} {cap : Nat} (H : St w0 w ls) (i : Nat) (hi : ls[i]? = some (HP.sl rByte p cap xs)) (h0 : 0 < xs.length) : ∃ b off, p = some ⟨b, off, none⟩ ∧ St w0 w (HP.row b off (bcells xs) :: ls) := by
  obtain ⟨B, H⟩ := H.out
  obtain ⟨S, css, c1, c2⟩ := H.at hi
  have hs : Sub B w := H.2.1
  obtain ⟨b, off, hp, _⟩ := (c2 w hs).rowAt (c := 0) rfl h0
  refine ⟨b, off, hp, (H.more (A := HP.row b off (bcells xs)) fun w' hw' => ?_).st⟩
  obtain ⟨b', off', hp', hr⟩ := (c2 w' hw').rowAt (c := 0) rfl h0
  rw [hp] at hp'; cases hp'
  rw [rdl_bytes_flat c1] at hr; exact hr
def arrO {α : Type} (n : Nat) (xs : List α) : Option (List α) := if xs.length = n ∧ 0 < n then some xs else none
theorem arrO_some {n : Nat} {xs ys : List α} (h : arrO n xs = some ys) : xs.length = n ∧ 0 < xs.length ∧ ys = xs := by
  unfold arrO at h; split at h
  · rename_i h0; exact ⟨h0.1, by omega, (Option.some.inj h).symm⟩
  · cases h
theorem y_s2a (F : Fr N a l) {n : Nat} (ht : P.underlying t = some (.array n e)) (ho : o.op = .sliceToArrayPointer t x) {p : Option Addr} {cap : Nat} {xs ys : List α} (hx : ev l x = some (.slice p xs.length cap)) (h : arrO n xs = some ys) {b off : Nat} (hp : p = some ⟨b, off, none⟩) :
    (execOp a.eval o).run P w = .ok (.value (.pointer (some ⟨b, off, none⟩))) w := by
  obtain ⟨h1, _, _⟩ := arrO_some h
  subst hp
  have : (Instr.arrayAt t (.slice (some ⟨b, off, none⟩) xs.length cap)).run P w = .ok (.pointer (some ⟨b, off, none⟩)) w := by
    unfold Instr.arrayAt
    rw [Sem.run_bind, Go.run_underlying ht]
    simp [h1]
  unfold execOp
  simp [ho, F.eval hx, this]
/-- What is put over a part of a list. -/
def putAt {α : Type} (xs : List α) (d : Nat) (src : List α) : List α := xs.take d ++ src ++ xs.drop (d + src.length)
theorem putAt_len (xs : List α) (d : Nat) (src : List α) (h : d + src.length ≤ xs.length) : (putAt xs d src).length = xs.length := by
  simp [putAt]; omega
theorem shp_ne {b off n i size : Nat} (h : n ≠ i) : shp (some ⟨b, off, none⟩) n i size = some ⟨b, off + i * size, none⟩ := by
  unfold shp; rw [if_neg h]; simp [add_none]
theorem run_copyBlk {t' ty : TypeId} {bytes : Nat} {z : Value} (hE : ElemT P t e 1 bytes z) {b d dn dc m : Nat} {old cs : List Value} {u : TypeId} (hb : Blk w b old u) {p2 : Option Addr} {c2 : Nat} (hs : Sl w (.slice p2 m c2) m cs) (hm : cs.length = m) (hd : d + dn ≤ old.length) (hf : Flat cs) :
    (Builtin.copy_ #[t, t'] ty #[.slice (some ⟨b, d, none⟩) dn dc, .slice p2 m c2]).run P w = .ok (.int .i64 ((min m dn : Nat) : Int)) (w.setRow b (old.take d ++ cs.take dn ++ old.drop (d + (cs.take dn).length)).toArray) := by
  have hlen : (cs.take dn).length = min m dn := by rw [List.length_take, hm, Nat.min_comm]
  have hfl : Flat (cs.take dn) := fun v hv => hf v (List.mem_of_mem_take hv)
  have hst : (storeCells ⟨b, d, none⟩ (cs.take dn)).run P w = .ok () (w.setRow b (old.take d ++ cs.take dn ++ old.drop (d + (cs.take dn).length)).toArray) := by
    have e1 := run_storeCells_at (P := P) b d u (cs.take dn) 0 old.toArray w hb (by simp only [List.size_toArray, hlen]; omega) hfl
    simpa using e1
  have hfc : (Builtin.firstCells 1 (Nat.min m dn) (.slice p2 m c2)).run P w = .ok (cs.take dn).toArray w := by
    rcases hs with ⟨h, h0, hc⟩ | ⟨ad, c, h, h0, hc⟩ | ⟨g, off, c, h, hc, hr⟩
    · cases h; subst hc; simp [Builtin.firstCells]
    · cases h
      subst hc
      have := run_firstCells_some (P := P) (w := w) 1 0 ad 0 c2 [] rfl (by simp)
      simpa using this
    · cases h
      refine run_firstCells_some (P := P) (w := w) 1 _ ⟨g, off, none⟩ m c2 (cs.take dn) (by rw [hlen]; simp) ?_
      intro j v hj
      rw [add_none]
      refine hr j v ?_
      rw [List.getElem?_take] at hj
      split at hj
      · exact hj
      · cases hj
  unfold Builtin.copy_
  simp [Go.run_underlying hE.ht, Builtin.lenOf, hE.run_size, hfc, hst, goInt]
theorem s_cpy (k : Walk P ops W) (F : Fr N a l) (hg : o.guard = none) (hd : o.dst = some d) (hN : Nat.blt d N.n = true) {t' : TypeId} {bytes : Nat} {z : Value} (hE : ElemT P t e 1 bytes z) (ho : o.op = .call { callee := .builtin .copy, args := #[x, y], argTypes := #[t, t'] }) {f : α → Value} (hf : ∀ c, (f c).oneCell' = true)
    {p p2 : Option Addr} {b q dn dc c2 : Nat} {xs zs : List α} {u : TypeId} (hx : ev l x = some (.slice p dn dc)) (hp : p = some ⟨b, q, none⟩) (hy : ev l y = some (.slice p2 zs.length c2)) (H : St w0 w ls) (i : Nat) (hi : ls[i]? = some (HP.blk b (xs.map f) u)) (hs : Sl w (.slice p2 zs.length c2) zs.length (zs.map f)) (hfit : q + dn ≤ xs.length)
    (hk : ∀ w' a', St w0 w' (ls.set i (HP.blk b ((putAt xs q (zs.take dn)).map f) u)) → Fr N a' ((d, .int .i64 ((min zs.length dn : Nat) : Int)) :: l) → W rest a' w') : W (o :: rest) a w := by
  subst hp
  have hflat : Flat (zs.map f) := by intro v hv; obtain ⟨c, _, rfl⟩ := List.mem_map.1 hv; exact hf c
  have hr := run_copyBlk (P := P) (t' := t') (ty := o.type) (dc := dc) hE (H.blk i hi) hs (by simp) (d := q) (dn := dn) (by simpa using hfit) hflat
  refine s_val (w' := w.setRow b ((putAt xs q (zs.take dn)).map f).toArray) k F hg hd hN (by rw [ho]; rfl) (v := .int .i64 ((min zs.length dn : Nat) : Int)) ?_ fun a' F' => hk _ a' (H.setBlk i hi _) F'
  · have e1 : (xs.map f).take q ++ (zs.map f).take dn ++ (xs.map f).drop (q + ((zs.map f).take dn).length) = (putAt xs q (zs.take dn)).map f := by
      simp only [putAt, List.map_append, List.map_take, List.map_drop, List.length_take, List.length_map]
    rw [e1] at hr
    unfold execOp
    simp [ho, resolve, invoke, builtin, F.eval hx, F.eval hy, hr]
theorem slB {b off cap : Nat} {f : α → Value} {xs zs : List α} {u : TypeId} (hb : Blk w b (xs.map f) u) {p : Option Addr} (hp : p = some ⟨b, off, none⟩) {i j : Int} (hz : slcO xs i j = some zs) (hi : i.toNat = off) (hc : zs.length ≤ cap) : Sl w (.slice p zs.length cap) zs.length (zs.map f) := by
  subst hp; subst hi
  obtain ⟨h1, rfl, h2⟩ := slcO_some hz
  refine .inr (.inr ⟨b, i.toNat, cap, rfl, hc, ?_⟩)
  have := hb.row.sub i.toNat (j.toNat - i.toNat)
  rw [Nat.zero_add] at this
  rw [List.map_drop, List.map_take, List.drop_take]; exact this
end
end Go.Tri
