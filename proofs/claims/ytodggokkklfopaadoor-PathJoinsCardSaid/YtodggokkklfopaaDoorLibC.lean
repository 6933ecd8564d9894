/- copy into a block that is known whole; append(s, make([]T, k)...) where there is no room. -/
import Derived.Test.YtodggokkklfopaaDoorLibB
import Derived.Test.YtodggokkklfopaaDoorLibM
import Derived.Lib.Overlaps
set_option linter.unusedSimpArgs false
set_option linter.unusedVariables false
namespace Go.Tri
open Go.RowKit

theorem splice_grow (xs cs rs : List Value) (a b c L : Nat) (hx : xs.length = b) (hb : b + c ≤ L) (ha : a ≤ b) (hc : cs.length = c) (hl : (xs.take a).length + rs.length = L) :
    let D0 := xs.take a ++ rs
    let D1 := D0.take a ++ cs ++ D0.drop (a + cs.length)
    let D2 := D1.take (a + c) ++ xs.drop a ++ D1.drop (a + c + (xs.drop a).length)
    D0.length = L ∧ D1.length = L ∧ D2.length = L ∧ D2.take (b + c) = xs.take a ++ cs ++ xs.drop a := by
  have ht : (xs.take a).length = a := by rw [List.length_take]; omega
  have hd : (xs.drop a).length = b - a := by rw [List.length_drop, hx]
  intro D0 D1 D2
  have h0 : D0.length = L := by simp only [D0, List.length_append]; omega
  have e0 : D0.take a = xs.take a := by simp only [D0]; rw [List.take_append_of_le_length (by omega), List.take_of_length_le (by omega)]
  have h1 : D1.length = L := by simp only [D1, List.length_append, List.length_drop, h0, e0, ht]; omega
  have e1 : D1.take (a + c) = xs.take a ++ cs := by
    simp only [D1]; rw [e0, List.take_append_of_le_length (by rw [List.length_append, ht]; omega), List.take_of_length_le (by rw [List.length_append, ht]; omega)]
  have hl2 : (xs.take a ++ cs ++ xs.drop a).length = b + c := by simp only [List.length_append, hc, hd, ht]; omega
  refine ⟨h0, h1, ?_, ?_⟩
  · simp only [D2]; rw [e1, List.length_append, hl2, List.length_drop, h1, hd]; omega
  · simp only [D2]; rw [e1, List.take_append_of_le_length (by omega), List.take_of_length_le (by omega)]
theorem splice_room (cur xs cs : List Value) (a b c : Nat) (hx : cur.take b = xs) (hb : b + c ≤ cur.length) (ha : a + c ≤ b) (hc : cs.length = c) :
    let C1 := cur.take (a + c) ++ xs.drop a ++ cur.drop (a + c + (xs.drop a).length)
    let C2 := C1.take a ++ cs ++ C1.drop (a + cs.length)
    C1.length = cur.length ∧ C2.length = cur.length ∧ C2.take (b + c) = xs.take a ++ cs ++ xs.drop a := by
  have hxl : xs.length = b := by rw [← hx, List.length_take]; omega
  have h1 : (cur.take (a + c)).length = a + c := by rw [List.length_take]; omega
  have hd : (xs.drop a).length = b - a := by rw [List.length_drop, hxl]
  have ht : cur.take a = xs.take a := by rw [← hx, List.take_take, Nat.min_eq_left (by omega)]
  intro C1 C2
  have hC1 : C1.length = cur.length := by simp only [C1, List.length_append, h1, hd, List.length_drop]; omega
  have e1 : C1.take a = xs.take a := by
    simp only [C1]
    rw [List.append_assoc, List.take_append_of_le_length (by omega), List.take_take, Nat.min_eq_left (by omega), ht]
  have e2 : C1.drop (a + cs.length) = xs.drop a ++ cur.drop (a + c + (xs.drop a).length) := by
    simp only [C1]
    rw [hc, List.append_assoc, List.drop_append_of_le_length (by omega), List.drop_of_length_le (by omega), List.nil_append]
  have hC2 : C2 = xs.take a ++ cs ++ xs.drop a ++ cur.drop (a + c + (xs.drop a).length) := by simp only [C2]; rw [e1, e2, List.append_assoc, List.append_assoc, List.append_assoc]
  have hl : (xs.take a ++ cs ++ xs.drop a).length = b + c := by
    simp only [List.length_append, hc, hd, List.length_take, hxl]; omega
  refine ⟨hC1, ?_, ?_⟩
  · rw [hC2, List.length_append, hl, List.length_drop, hd]; omega
  · rw [hC2, List.take_append_of_le_length (by omega), List.take_of_length_le (by omega)]

section
variable {P : Program} {t e : TypeId} {size bytes : Nat} {z : Value}
theorem ElemT.parts (hE : ElemT P t e size bytes z) : ∃ i, P.info? e = some i ∧ i.zero = some z ∧ i.size = size ∧ i.bytes = bytes := info_parts hE.hi

theorem run_copy (hE : ElemT P t e size bytes z) {w : World} {g off dLen dCap b so sLen sCap : Nat} {cur cs : List Value} {u ty : TypeId} (hb : Blk w g cur u) (hr : Row w b so cs)
    (hn : cs.length = Nat.min sLen dLen * size) (hfit : off + cs.length ≤ cur.length) (hf : Flat cs) :
    (Builtin.copy_ #[t, t] ty #[.slice (some ⟨g, off, none⟩) dLen dCap, .slice (some ⟨b, so, none⟩) sLen sCap]).run P w =
      .ok (.int .i64 (Nat.min sLen dLen : Nat)) (w.setRow g (cur.take off ++ cs ++ cur.drop (off + cs.length)).toArray) := by
  obtain ⟨i, hi, _, hs, _⟩ := hE.parts
  have hl := run_loadCells_list (P := P) w ⟨b, so, none⟩ cs (fun j v hj => by rw [add_none]; exact hr j v hj)
  have hst := run_storeCells_at (P := P) g off u cs 0 cur.toArray w hb (by simpa using hfit) hf
  simp only [Nat.add_zero] at hst
  simp [Builtin.copy_, Go.run_underlying hE.ht, Builtin.lenOf, Builtin.firstCells, sizeOf, typeInfo, hi, hs, ← hn, hl, hst, goInt]

theorem run_appendZeros (hE : ElemT P t e size bytes z) {w : World} {ti ty : TypeId} (hti : P.underlying ti = some (.int .i64)) {g n cap k : Nat} {olds : List Value} (hr : Row w g 0 olds) (hlo : olds.length = n * size)
    (hkp : 0 < k) (hg : cap < n + k) (hm : n + k ≤ maxLen) (hbytes : (n + k) * bytes ≤ 140737488355328) :
    ∃ (c : Nat) (rest : List Value), n + k ≤ c ∧ c ≤ maxLen ∧ olds.length + rest.length = c * size ∧
      (Builtin.append_ #[t, ti] ty #[.slice (some ⟨g, 0, none⟩) n cap, .int .i64 k]).run P w = .ok (.slice (some ⟨w.heap.size, 0, none⟩) (n + k) c) (w.drew.alloc (.cells (olds ++ rest).toArray e)) := by
  obtain ⟨i, hi, hz, hs, hby⟩ := hE.parts
  have hzs := hE.hz
  have hpos := hE.hs
  refine ⟨grownCap w (n + k) cap e, (Builtin.zeroCells z.cells k).toList ++ (Builtin.zeroCells z.cells (grownCap w (n + k) cap e - (n + k))).toList, grownCap_ge _ _ _ _, grownCap_le_maxLen _ _ _ _ hm, ?_, ?_⟩
  · have hge := grownCap_ge w (n + k) cap e
    simp only [List.length_append, Array.length_toList, size_zeroCells, hzs, hlo]
    rw [← Nat.add_mul, ← Nat.add_mul]
    congr 1; omega
  · have hm' : n + k ≤ 9223372036854775807 := by unfold maxLen at hm; omega
    have hn : ¬ (n + k ≤ cap) := by omega
    have h63' : ¬ (9223372036854775807 < ((n : Int) + (k : Int))) := by omega
    have h48' : ¬ (281474976710656 < Builtin.nextslicecap (n + k) cap * i.bytes) := by
      have := growslice_fits (need := n + k) (old := cap) (bytes := i.bytes) hg (by rw [hby]; exact hbytes)
      omega
    have hwr : IntKind.i64.wrap (k : Int) = k := by unfold IntKind.wrap; simp [IntKind.signed, IntKind.bits]; omega
    have hk48 : ¬ (281474976710656 < (k : Int) * (i.bytes : Int)) := by
      have h1 : k * bytes ≤ (n + k) * bytes := Nat.mul_le_mul_right _ (by omega)
      rw [hby]
      have h2 : (k : Int) * (bytes : Int) = ((k * bytes : Nat) : Int) := by simp
      rw [h2]; omega
    have hfo := run_firstCells_some (P := P) w.drew i.size n ⟨g, 0, none⟩ n cap olds (by rw [hs]; exact hlo) (fun j v hj => by rw [add_none]; exact hr j v hj)
    have hk0 : ¬ ((k : Int) < 0) := by omega
    have hkz : ¬ k = 0 := by omega
    have hks' : ¬ (k * i.size = 0) := by rw [hs]; exact Nat.ne_of_gt (Nat.mul_pos hkp hpos)
    simp [Builtin.append_, Go.run_underlying hE.ht, Go.run_underlying hti, sizeOf, typeInfo, zeroValue, hi, hz, Builtin.lenOf, hn, h63', h48', Question.forced, hfo, newRow, grownCap, asInt, asIntOf, hwr, hk48, hk0, hks', hkz]
    congr 2
    apply Array.ext'
    simp

variable {ops : Array Oper} {rest : List Oper} {o : Oper} {a : Act} {w : World} {Q : Exit → Act → World → Prop}
theorem wl_copy (hE : ElemT P t e size bytes z) {d s : Operand} (ho : o.op = .call { callee := .builtin .copy, args := #[d, s], argTypes := #[t, t] }) (hgd : Region.wanted o (yielded ops a.tmps) = true)
    {g off dLen dCap b so sLen sCap : Nat} (hd : a.eval d = .slice (some ⟨g, off, none⟩) dLen dCap) (hs : a.eval s = .slice (some ⟨b, so, none⟩) sLen sCap)
    {cur cs : List Value} {u : TypeId} (hb : Blk w g cur u) (hr : Row w b so cs) (hn : cs.length = Nat.min sLen dLen * size) (hfit : off + cs.length ≤ cur.length) (hf : Flat cs)
    (hk : ∀ w', Blk w' g (cur.take off ++ cs ++ cur.drop (off + cs.length)) u → Chg g w w' → wpList P ops Q rest (a.put o.dst (.int .i64 (Nat.min sLen dLen : Nat))) w') : wpList P ops Q (o :: rest) a w := by
  refine BigFrame.wpList_want hgd fun K' hK' => ?_
  have ex : execOp a.eval o = (do pure (.value (← Builtin.copy_ #[t, t] o.type #[.slice (some ⟨g, off, none⟩) dLen dCap, .slice (some ⟨b, so, none⟩) sLen sCap]))) := by
    unfold execOp; rw [ho]; simp [resolve, invoke, Go.builtin, hd, hs]
  unfold Oper.wp
  rw [ex, Sem.run_bind, run_copy hE hb hr hn hfit hf]
  exact hK' _ _ (hk _ (hb.set_same _) (Chg.setRow w g _))
theorem wl_appendZeros (hE : ElemT P t e size bytes z) {ti : TypeId} (hti : P.underlying ti = some (.int .i64)) {s x : Operand} (ho : o.op = .call { callee := .builtin .append, args := #[s, x], argTypes := #[t, ti] }) (hgd : Region.wanted o (yielded ops a.tmps) = true)
    {g n cap k m : Nat} {kk : Int} (hkk : kk = (k : Int)) (hmm : n + k = m) (hs : a.eval s = .slice (some ⟨g, 0, none⟩) n cap) (hx : a.eval x = .int .i64 kk) {olds : List Value} (hr : Row w g 0 olds) (hlo : olds.length = n * size)
    (hkp : 0 < k) (hg : cap < n + k) (hm : n + k ≤ maxLen) (hbytes : (n + k) * bytes ≤ 140737488355328)
    (hk : ∀ (c : Nat) (rs : List Value), m ≤ c → c ≤ maxLen → olds.length + rs.length = c * size → wpList P ops Q rest (a.put o.dst (.slice (some ⟨w.heap.size, 0, none⟩) m c)) (w.drew.alloc (.cells (olds ++ rs).toArray e))) : wpList P ops Q (o :: rest) a w := by
  refine BigFrame.wpList_want hgd fun K' hK' => ?_
  subst hkk
  subst hmm
  obtain ⟨c, rs, h1, h2, h3, hrun⟩ := run_appendZeros (ty := o.type) hE hti hr hlo hkp hg hm hbytes
  have ex : execOp a.eval o = (do pure (.value (← Builtin.append_ #[t, ti] o.type #[.slice (some ⟨g, 0, none⟩) n cap, .int .i64 (k : Int)]))) := by
    unfold execOp; rw [ho]; simp [resolve, invoke, Go.builtin, hs, hx]
  unfold Oper.wp
  rw [ex, Sem.run_bind, hrun]
  exact hK' _ _ (hk c rs h1 h2 h3)

/-- Two slices in two blocks, none of them frozen, do not overlap. -/
theorem run_overlaps (hE : ElemT P t e size bytes z) {g b off so la ca lb cb : Nat} {cs ds : List Value} {u v : TypeId} (hg : Blk w g cs u) (hb : Blk w b ds v) (hne : g ≠ b) (hcs : cs ≠ []) (hds : ds ≠ []) (tR : TypeId) :
    (Extern.SlicesOverlaps.overlaps #[t, t] #[tR] #[.slice (some ⟨g, off, none⟩) la ca, .slice (some ⟨b, so, none⟩) lb cb]).run P w = .ok (.bool false) w := by
  obtain ⟨i, hi, _, hs, _⟩ := hE.parts
  have hz : ∀ w, (Go.sizeOf e).run P w = .ok size w := fun w => by
    unfold sizeOf; rw [Sem.run_bind, run_typeInfo hi, ← hs]; rfl
  have s1 : w.shape? g = some (u, cs.length) := by unfold Blk at hg; simp [World.shape?, hg]
  have s2 : w.shape? b = some (v, ds.length) := by unfold Blk at hb; simp [World.shape?, hb]
  exact Lib.run_overlaps_apart w t tR e hE.ht size hz ⟨g, off, none⟩ ⟨b, so, none⟩ la ca lb cb (by simpa using hne) u v cs.length ds.length s1 s2 (by cases ds <;> simp_all) (hg.frozen off) (hg.frozen cs.length)
end
end Go.Tri
