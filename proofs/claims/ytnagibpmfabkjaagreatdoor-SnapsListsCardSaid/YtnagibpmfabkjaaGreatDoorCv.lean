/- The bytes of a text as a slice, and what is put behind these (not finished). -/
import Derived.Test.YtnagibpmfabkjaaGreatDoorA5
import Derived.ArgAppend
set_option linter.unusedSimpArgs false
set_option linter.unusedVariables false
namespace Go.Tri
open Go.RowKit
theorem setCells_chg (b : Nat) : ∀ (vs : List Value) (o : Nat) (w : World), Chg b w (w.setCells b o vs)
  | [], o, w => ⟨rfl, rfl, rfl, rfl, fun _ _ => rfl⟩
  | v :: r, o, w => by
    have ih := setCells_chg b r (o + 1) (w.setCell ⟨b, o, none⟩ v)
    have h1 : (w.setCell ⟨b, o, none⟩ v).heap.size = w.heap.size := by simp [World.setCell]
    refine ⟨ih.os, ih.tape, ih.output, ih.size.trans h1, fun k hk => (ih.oth k hk).trans ?_⟩
    simp [World.setCell, Array.getElem?_modify, Ne.symm hk]
theorem setCells_at (b : Nat) {e : TypeId} {fr : Nat × Nat} : ∀ (vs : List Value) (o : Nat) (w : World) (cur : Array Value), w.heap[b]? = some (.cells cur e fr) → o + vs.length ≤ cur.size →
    ∃ cur' : Array Value, (w.setCells b o vs).heap[b]? = some (.cells cur' e fr) ∧ cur'.size = cur.size ∧ cur'.toList = cur.toList.take o ++ vs ++ cur.toList.drop (o + vs.length)
  | [], o, w, cur, h, _ => ⟨cur, h, rfl, by simp⟩
  | v :: r, o, w, cur, h, hl => by
    simp only [List.length_cons] at hl
    have h1 : (w.setCell ⟨b, o, none⟩ v).heap[b]? = some (.cells (cur.setIfInBounds o v) e fr) := by
      simp [World.setCell, Array.getElem?_modify, h]
    obtain ⟨cur', h2, h3, h4⟩ := setCells_at b r (o + 1) _ _ h1 (by simp; omega)
    refine ⟨cur', h2, by simpa using h3, ?_⟩
    rw [h4]
    have hlt : o < cur.toList.length := by simp; omega
    simp only [Array.toList_setIfInBounds, List.length_cons]
    rw [List.take_set, List.take_add_one, List.getElem?_eq_getElem hlt, List.drop_set_of_lt (by omega), show o + 1 + r.length = o + (r.length + 1) by omega]
    simp only [Option.toList_some]
    rw [List.set_append_right _ _ (by simp; omega), List.length_take, Nat.min_eq_left (by omega), Nat.sub_self, List.set_cons_zero]
    simp
/-- The bytes of a text, in a block of their own. -/
def HP.cv (e : TypeId) (b c : Nat) (xs : List UInt8) : HP :=
  HP.of (fun _ w S => (∃ cur : Array Value, w.heap[b]? = some (.cells cur e (cur.size, cur.size + 1)) ∧ cur.size = c ∧ xs.length ≤ c ∧ cur.toList.take xs.length = bcells xs) ∧ S b)
    (fun {_ w w' S} ⟨⟨cur, h1, h2⟩, hS⟩ hw => ⟨⟨cur, by rw [hw b hS]; exact h1, h2⟩, hS⟩) (fun h _ => h)
section
variable {P : Program} {w0 w : World} {ls : List HP} {e : TypeId} {b c : Nat} {xs ys : List UInt8}
theorem cv_row {B : Base} {S : Nat → Prop} (h : (HP.cv e b c xs).pr B w S) : Row w b 0 (bcells xs) := by
  obtain ⟨⟨cur, h1, h2, h3, h4⟩, _⟩ := h
  intro j v hj
  have hj' : j < xs.length := by have := (List.getElem?_eq_some_iff.1 hj).1; rwa [bcells_length] at this
  rw [← h4, List.getElem?_take_of_lt hj'] at hj
  unfold World.cell?
  simp only [h1]
  simpa using hj
theorem St.cvFrz (H : St w0 w ls) (i : Nat) (hi : ls[i]? = some (HP.cv e b c xs)) : St w0 w (HP.sl rByte (some ⟨b, 0, none⟩) c xs :: ls.eraseIdx i) :=
  (H.mv i hi).freezeH fun {B B'} S h hle hw => ⟨_, rdl_bytes B' xs, fun w' hw' => by
    have h' := HP.loc _ h (w' := w') (fun b hb => hw w' hw' b hb)
    rw [flat_bytes]; exact .inr (.inr ⟨b, 0, c, rfl, by obtain ⟨⟨cur, _, _, h3, _⟩, _⟩ := h; exact h3, cv_row h'⟩)⟩
variable {ops : Array Oper} {rest : List Oper} {o : Oper} {a : Act} {W : List Oper → Act → World → Prop} {N : Fs} {sl : List (Nat × Value)} {d : Nat} {x y : Operand} {t t' : TypeId}
theorem s_cvT (k : Walk P ops W) (F : Fr N a sl) (hg : o.guard = none) (hd : o.dst = some d) (hN : Nat.blt d N.n = true) (hs : P.underlying t = some .string) (hD : P.underlying t' = some (.slice e)) (he : P.underlying e = some (.int .u8)) (ho : o.op = .convert t t' x) (hx : ev sl x = some (.string (txb xs))) (H : St w0 w ls)
    (hk : ∀ b c w' a', St w0 w' (HP.cv e b c xs :: ls) → Fr N a' ((d, .slice (some ⟨b, 0, none⟩) xs.length c) :: sl) → W rest a' w') : W (o :: rest) a w := by
  have hr := run_bytes_of_string (P := P) w t t' e (txb xs) hs hD he
  have hge := grownCap_ge w (txb xs).size 0 e
  generalize hc : grownCap w (txb xs).size 0 e = c at hr hge
  rw [txb_size] at hge
  have hsz : (bytesRow (txb xs) c).size = c := by simp [bytesRow, txb, ByteArray.size]; omega
  have hlist : (bytesRow (txb xs) c).toList.take xs.length = bcells xs := by
    have h1 : (bytesRow (txb xs) c).toList = bcells xs ++ List.replicate (c - (txb xs).size) (Value.int .u8 0) := by simp [bytesRow, txb, bcells]
    rw [h1, List.take_left' (bcells_length _)]
  have H1 := H.drew.add (.cells (bytesRow (txb xs) c) e ((bytesRow (txb xs) c).size, (bytesRow (txb xs) c).size + 1)) (HP.cv e w.heap.size c xs) fun S hS => ⟨⟨_, heapNew w.drew _, hsz, hge, hlist⟩, hS⟩
  refine s_val (v := .slice (some ⟨w.heap.size, 0, none⟩) (txb xs).size c) (w' := w.drew.alloc (.cells (bytesRow (txb xs) c) e ((bytesRow (txb xs) c).size, (bytesRow (txb xs) c).size + 1))) k F hg hd hN (by rw [ho]; rfl) ?_ fun a' F' => hk w.heap.size c _ a' H1 (by rw [txb_size] at F'; exact F')
  unfold execOp
  simp only [ho, F.eval hx]
  rw [Sem.run_bind, hr]
  rfl
/-- Bytes behind those of a text. -/
theorem s_appCv (k : Walk P ops W) (F : Fr N a sl) (hg : o.guard = none) (hd : o.dst = some d) (hN : Nat.blt d N.n = true) (ho : o.op = .call { callee := .builtin .append, args := #[x, y], argTypes := #[t, t] }) {q : Option Addr} {cc : Nat} (hx : ev sl x = some (.slice (some ⟨b, 0, none⟩) xs.length c)) (hy : ev sl y = some (.slice q ys.length cc))
    {bytes : Nat} {z : Value} (hE : ElemT P t e 1 bytes z) (hb : Nat.ble (Cap.cap UInt8 * bytes) 140737488355328 = true) {zs : List UInt8} (hz : appO xs ys = some zs) (hpos : Nat.blt 0 ys.length = true) (H : St w0 w ls) (i j : Nat) (hi : ls[i]? = some (HP.cv e b c xs)) (hj : ls[j]? = some (HP.sl rByte q cc ys))
    (hk : ∀ p' c' w' a', St w0 w' (HP.sl rByte p' c' zs :: ls.eraseIdx i) → Fr N a' ((d, .slice p' zs.length c') :: sl) → W rest a' w') : W (o :: rest) a w := by
  obtain ⟨hr, rfl⟩ := appO_some hz
  have hcl := Cap.lt (α := UInt8)
  have hbb := Nat.le_of_ble_eq_true hb
  have h0 : 0 < ys.length := by simpa using hpos
  have hmul : (xs.length + ys.length) * bytes ≤ 140737488355328 := Nat.le_trans (Nat.mul_le_mul_right _ hr) hbb
  obtain ⟨ti, hj1, hz0, hs1, hs2⟩ := info_parts hE.hi
  obtain ⟨B, f, hs, h1, h2, h3⟩ := H.own
  have hil : i < ls.length := (List.getElem?_eq_some_iff.1 hi).1
  have hcv := h1 i _ hi
  have hrow := cv_row hcv
  obtain ⟨⟨cur, c1, c2, c3, c4⟩, c5⟩ := hcv
  obtain ⟨css, d1, d2⟩ := h1 j _ hj
  have hsl := d2 w hs
  rw [rdl_bytes_flat d1] at hsl
  obtain ⟨b2, off, hq, hrow2⟩ := hsl.rowAt (c := 0) rfl h0
  subst hq
  have holds : ∀ (j : Nat) u, (bcells xs)[j]? = some u → w.cell? ((⟨b, 0, none⟩ : Addr).add j) = some u := fun j u hj => by rw [add_none]; exact hrow j u hj
  have hnews : ∀ (j : Nat) u, (bcells ys)[j]? = some u → w.cell? ((⟨b2, off, none⟩ : Addr).add j) = some u := fun j u hj => by rw [add_none]; exact hrow2 j u hj
  have hone : ∀ u ∈ bcells ys, u.oneCell' = true := bcells_flat ys
  have hlx : (bcells xs).length = xs.length * 1 := by rw [bcells_length, Nat.mul_one]
  have hly : (bcells ys).length = ys.length * 1 := by rw [bcells_length, Nat.mul_one]
  by_cases hroom : xs.length + ys.length ≤ c
  · have hcell : ∀ j, j < (bcells ys).length → (w.cell? ⟨b, 0 + xs.length * ti.size + j, none⟩).isSome = true := fun j hj => by
      rw [bcells_length] at hj
      unfold World.cell?
      simp only [c1, hs1, Nat.mul_one, Nat.zero_add]
      rw [Array.getElem?_eq_getElem (by omega)]; rfl
    have hfz : ∀ j, j < (bcells ys).length → w.frozen? ⟨b, 0 + xs.length * ti.size + j, none⟩ = false := fun j hj => by
      rw [bcells_length] at hj
      unfold World.frozen?
      simp only [c1, hs1, Nat.mul_one, Nat.zero_add]
      simp; omega
    have hrun := run_append_room_cells (P := P) w t o.type e ti hE.ht hj1 b 0 xs.length c ⟨b2, off, none⟩ ys.length cc (bcells ys) (by rw [hs1]; exact hly) hnews hone hroom hcell hfz
    rw [hs1, Nat.mul_one, Nat.zero_add] at hrun
    obtain ⟨cur', e1, e2, e3⟩ := setCells_at b (bcells ys) xs.length w cur c1 (by rw [bcells_length]; omega)
    have hbc : bcells (xs ++ ys) = bcells xs ++ bcells ys := by simp [bcells]
    have h5 : cur'.toList.take (xs ++ ys).length = bcells (xs ++ ys) := by
      rw [e3, c4, hbc, List.take_left' (by simp [bcells_length])]
    have H1 := H.chg i hi (A' := HP.cv e b c (xs ++ ys)) (g := b) (fun S hA => hA.2) (setCells_chg b (bcells ys) xs.length w) fun S hA => ⟨⟨cur', by rw [e2]; exact e1, by omega, by simpa using hroom, h5⟩, hA.2⟩
    have H2 := H1.cvFrz i (e := e) (b := b) (c := c) (xs := xs ++ ys) (by simp [List.getElem?_set, hil])
    rw [List.eraseIdx_set_eq] at H2
    refine s_val (v := .slice (some ⟨b, 0, none⟩) (xs.length + ys.length) c) (w' := _) k F hg hd hN (by rw [ho]; rfl) ?_ fun a' F' => hk (some ⟨b, 0, none⟩) c _ a' H2 (by rw [List.length_append]; exact F')
    unfold execOp
    simp [ho, resolve, invoke, builtin, F.eval hx, F.eval hy, hrun]
  · have hrun := run_append_grow (P := P) w t o.type e ti z hE.ht hj1 hz0 ⟨b, 0, none⟩ xs.length c (bcells xs) (by rw [hs1]; exact hlx) holds ⟨b2, off, none⟩ ys.length cc (bcells ys) (by rw [hs1]; exact hly) hnews (by omega) (by omega) (growslice_fits (by omega) (by rw [hs2]; exact hmul))
    have hge := grownCap_ge w (xs.length + ys.length) c e
    have hcm := grownCap_le_maxLen w (xs.length + ys.length) c e (by unfold maxLen; omega)
    have hlen : (bcells xs ++ bcells ys).length = xs.length + ys.length := by simp [bcells_length]
    have hbc : bcells (xs ++ ys) = bcells xs ++ bcells ys := by simp [bcells]
    generalize hX : (Obj.cells _ e : Obj) = X at hrun
    have H1 := H.upd i hi (w' := w.drew.alloc X) (A' := HP.ow rByte e (some ⟨w.heap.size, 0, none⟩) (grownCap w (xs.length + ys.length) c e) (xs ++ ys)) (fun {B} S hA hS => ⟨fun b => b = w.heap.size, ⟨_, rdl_bytes B (xs ++ ys), ⟨by rw [flat_bytes, bcells_length]; show _ = (xs ++ ys).length * 1; rw [Nat.mul_one], .inr ⟨w.heap.size, _, _, by rw [List.length_append], Nat.zero_le _, by rw [← hX]; exact heap_alloc_new w.drew _, by rw [List.length_append]; exact hge, hcm, by
        simp only [Array.size_append, List.size_toArray, size_zeroCells, hE.hz, bcells_length, List.length_append, rByte, Rp.enc]
        omega, by
        rw [flat_bytes, hbc]
        simp only [Array.toList_append, List.append_assoc]
        rw [← List.append_assoc, List.take_left' (by simp [bcells_length, rByte, Rp.enc])]⟩⟩, fun b hb => by simp [Value.ownBlock] at hb; exact hb.symm⟩, fun b hb => .inr (by omega), fun b hb => by rw [hb]; simp, fun b hb _ => heapOld w.drew _ b hb⟩) rfl rfl rfl (by simp)
    have H2 := H1.frz i (R := rByte) (e := e) (xs := xs ++ ys) (p := some ⟨w.heap.size, 0, none⟩) (cap := grownCap w (xs.length + ys.length) c e) (by simp [List.getElem?_set, hil])
    rw [List.eraseIdx_set_eq] at H2
    refine s_val (v := .slice (some ⟨w.heap.size, 0, none⟩) (xs.length + ys.length) (grownCap w (xs.length + ys.length) c e)) (w' := w.drew.alloc X) k F hg hd hN (by rw [ho]; rfl) ?_ fun a' F' => hk (some ⟨w.heap.size, 0, none⟩) _ _ a' H2 (by rw [List.length_append]; exact F')
    unfold execOp
    simp [ho, resolve, invoke, builtin, F.eval hx, F.eval hy, hrun]
end
end Go.Tri
