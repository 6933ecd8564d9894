/- The engine: operations on owned memory, calls, guards, cuts. -/
import Derived.Test.YtfepdfjhejkemaaDoorY
set_option linter.unusedSimpArgs false
set_option linter.unusedVariables false
namespace Go.Tri
open Go.RowKit
section
variable {P : Program} {w0 w : World} {ls : List HP} {t : TypeId} {ops : Array Oper} {rest : List Oper} {o : Oper} {a : Act} {W : List Oper → Act → World → Prop} {N : Fs} {l : List (Nat × Value)} {d : Nat} {x y : Operand} {v : Value}
theorem s_boxA (k : Walk P ops W) (F : Fr N a l) (hg : o.guard = none) (hd : o.dst = some d) (hN : Nat.blt d N.n = true) (ho : o.op = .box t x) {cs : List Value} (hx : ev l x = some (.agg cs.toArray)) (H : St w0 w ls)
    (hk : ∀ b w' a', St w0 w' (HP.blk b cs t :: ls) → Fr N a' ((d, .pointer (some ⟨b, 0, none⟩)) :: l) → W rest a' w') : W (o :: rest) a w :=
  s_val k F hg hd hN (by rw [ho]; rfl) (y_boxA F ho hx) fun a' F' => hk _ _ a' (H.alloc cs t) F'
theorem s_box1 (k : Walk P ops W) (F : Fr N a l) (hg : o.guard = none) (hd : o.dst = some d) (hN : Nat.blt d N.n = true) (ho : o.op = .box t x) (hx : ev l x = some v) (hv : v.cells = #[v]) (H : St w0 w ls)
    (hk : ∀ b w' a', St w0 w' (HP.blk b [v] t :: ls) → Fr N a' ((d, .pointer (some ⟨b, 0, none⟩)) :: l) → W rest a' w') : W (o :: rest) a w :=
  s_val k F hg hd hN (by rw [ho]; rfl) (y_box1 F ho hx hv) fun a' F' => hk _ _ a' (H.alloc [v] t) F'
theorem s_allocA {n : Nat} {zz : List Value} (k : Walk P ops W) (F : Fr N a l) (hg : o.guard = none) (hd : o.dst = some d) (hN : Nat.blt d N.n = true) (hA : AggT P t n zz) (ho : o.op = .alloc t) (H : St w0 w ls)
    (hk : ∀ b w' a', St w0 w' (HP.blk b zz t :: ls) → Fr N a' ((d, .pointer (some ⟨b, 0, none⟩)) :: l) → W rest a' w') : W (o :: rest) a w :=
  s_val k F hg hd hN (by rw [ho]; rfl) (y_allocA F hA ho) fun a' F' => hk _ _ a' (H.alloc zz t) F'
theorem s_alloc1 (k : Walk P ops W) (F : Fr N a l) (hg : o.guard = none) (hd : o.dst = some d) (hN : Nat.blt d N.n = true) (hz : Zero1 P t v) (ho : o.op = .alloc t) (H : St w0 w ls)
    (hk : ∀ b w' a', St w0 w' (HP.blk b [v] t :: ls) → Fr N a' ((d, .pointer (some ⟨b, 0, none⟩)) :: l) → W rest a' w') : W (o :: rest) a w :=
  s_val k F hg hd hN (by rw [ho]; rfl) (y_alloc1 F hz ho) fun a' F' => hk _ _ a' (H.alloc [v] t) F'
theorem s_storeA {n : Nat} {zz : List Value} (k : Walk P ops W) (F : Fr N a l) (hg : o.guard = none) (hd : o.dst = none) (hA : AggT P t n zz) (ho : o.op = .store t x y) {b : Nat} (hx : ev l x = some (.pointer (some ⟨b, 0, none⟩))) {old cs : List Value} {u : TypeId} (hy : ev l y = some (.agg cs.toArray))
    (H : St w0 w ls) (i : Nat) (hi : ls[i]? = some (HP.blk b old u)) (hn : cs.length = n) (hl : old.length = n) (hf : Flat cs)
    (hk : ∀ w', St w0 w' (ls.set i (HP.blk b cs u)) → W rest a w') : W (o :: rest) a w :=
  s_none k F hg hd (by rw [ho]; rfl) (y_storeA0 F hA ho hx hy (H.blk i hi) hn hl hf) (hk _ (H.setBlk i hi cs))
theorem s_store1 {z1 : Value} (k : Walk P ops W) (F : Fr N a l) (hg : o.guard = none) (hd : o.dst = none) (hz : Zero1 P t z1) (ho : o.op = .store t x y) {b off : Nat} (hx : ev l x = some (.pointer (some ⟨b, off, none⟩))) {old : List Value} {u : TypeId} (hy : ev l y = some v) (hv : v.cells = #[v]) (h1 : v.oneCell' = true)
    (H : St w0 w ls) (i : Nat) (hi : ls[i]? = some (HP.blk b old u)) (hl : off < old.length)
    (hk : ∀ w', St w0 w' (ls.set i (HP.blk b (old.set off v) u)) → W rest a w') : W (o :: rest) a w :=
  s_none k F hg hd (by rw [ho]; rfl) (y_store1 F hz ho hx hy hv h1 (H.blk i hi) hl) (hk _ (H.setBlk i hi _))
theorem s_build1 (k : Walk P ops W) (F : Fr N a l) (hg : o.guard = none) (hd : o.dst = some d) (hN : Nat.blt d N.n = true) {n bytes : Nat} {zz : List Value} {e : TypeId} (h : AggT P e n zz) (hE : ElemT P t e n bytes (.agg zz.toArray)) (ho : o.op = .buildSlice t 1 #[(0, y)]) {cs : List Value} (hy : ev l y = some (.agg cs.toArray)) (hn : cs.length = n) (h24 : n ≤ 16777216) (H : St w0 w ls)
    (hk : ∀ b w' a', St w0 w' (HP.blk b cs e :: ls) → Fr N a' ((d, .slice (some ⟨b, 0, none⟩) 1 1) :: l) → W rest a' w') : W (o :: rest) a w :=
  s_val k F hg hd hN (by rw [ho]; rfl) (y_buildSlice1 F h hE ho hy hn h24) fun a' F' => hk _ _ a' (H.alloc cs e) F'
/-- A literal slice of plain values. -/
theorem run_buildCells {e : TypeId} {size bytes : Nat} {z0 : Value} (hE : ElemT P t e 1 bytes z0) (hz : Zero1 P e z0) (vs : List Value) (h1 : ∀ u ∈ vs, u.cells = #[u]) (h24 : vs.length ≤ 16777216) :
    (Instr.buildSlice t vs.length (vs.zipIdx.map fun p => (p.2, p.1)).toArray).run P w = .ok (.slice (some ⟨w.heap.size, 0, none⟩) vs.length vs.length) (w.alloc (.cells vs.toArray e)) := by
  have key : ∀ (rest done : List Value) (cells : Array Value), (∀ u ∈ rest, u.cells = #[u]) → cells.toList.take done.length = done → cells.size = done.length + rest.length →
      Instr.fill (fun i => some (i * 1, 1)) cells ((rest.zipIdx done.length).map fun p => (p.2, p.1)) = some (done ++ rest).toArray := by
    intro rest
    induction rest with
    | nil =>
      intro done cells _ h2 h3
      simp only [List.zipIdx_nil, List.map_nil, Instr.fill, List.append_nil]
      rw [List.take_of_length_le (by simp at h3 ⊢; omega)] at h2
      rw [← h2]
    | cons u rest ih =>
      intro done cells hu h2 h3
      have hc := hu u (List.mem_cons_self ..)
      simp only [List.zipIdx_cons, List.map_cons, Instr.fill, hc, Nat.mul_one]
      simp only [List.length_cons] at h3
      rw [if_neg (by simp; omega)]
      have h4 := ih (done ++ [u]) (cells.setIfInBounds done.length u) (fun x hx => hu x (List.mem_cons_of_mem _ hx)) (by
        rw [List.length_append, List.length_singleton, Array.toList_setIfInBounds, List.take_add_one, List.take_set_of_le (Nat.le_refl _), h2]
        congr 1
        rw [List.getElem?_set_self (by simp; omega)]; rfl) (by simp; omega)
      rw [List.length_append, List.length_singleton, List.append_assoc] at h4
      simpa using h4
  unfold Instr.buildSlice
  rw [Sem.run_bind, Go.Tri.run_underlying hE.ht]
  simp only [Result.andThen_ok]
  rw [Sem.run_bind, hz.run_size]
  simp only [Result.andThen_ok, Nat.mul_one]
  rw [if_neg (by omega)]
  by_cases h0 : vs.length = 0
  · have : vs = [] := List.eq_nil_of_length_eq_zero h0
    subst this
    simp [Instr.fill, newRow, newObj, Sem.run]
    have : Array.map (fun x : Nat => (default : Value)) (Array.range 0) = #[] := by simp
    rw [this]
  · rw [if_neg h0, Sem.run_bind, hz.run]
    simp only [Result.andThen_ok, Sem.run_pure, pure_bind]
    have := key vs [] ((Array.range vs.length).map (z0.cells[· % z0.cells.size]!)) h1 (by simp) (by simp)
    simp only [List.length_nil, List.nil_append, Nat.mul_one] at this
    rw [this]
    rfl
theorem s_buildC (k : Walk P ops W) (F : Fr N a l) (hg : o.guard = none) (hd : o.dst = some d) (hN : Nat.blt d N.n = true) {bytes : Nat} {z0 : Value} {e : TypeId} (hE : ElemT P t e 1 bytes z0) (hz : Zero1 P e z0) {n : Nat} {parts : List (Nat × Operand)} (ho : o.op = .buildSlice t n parts.toArray) {vs : List Value} (hy : evs l (parts.map (·.2)) = some vs) (hp : parts.map (·.1) = List.range n) (hn : vs.length = n) (h1 : ∀ u ∈ vs, u.cells = #[u]) (h24 : n ≤ 16777216) (H : St w0 w ls)
    (hk : ∀ b w' a', St w0 w' (HP.blk b vs e :: ls) → Fr N a' ((d, .slice (some ⟨b, 0, none⟩) n n) :: l) → W rest a' w') : W (o :: rest) a w := by
  have hm : (parts.toArray.map fun (p : Nat × Operand) => (p.1, a.eval p.2)) = (vs.zipIdx.map fun p => (p.2, p.1)).toArray := by
    have e1 := F.evals hy
    apply Array.ext_getElem?
    intro i
    simp only [List.map_toArray, List.getElem?_toArray, List.getElem?_map, List.getElem?_zipIdx]
    have a1 : (parts[i]?).map (·.1) = (List.range n)[i]? := by rw [← hp, List.getElem?_map]
    have a2 : (parts[i]?).map (fun p => a.eval p.2) = vs[i]? := by rw [← e1, List.map_map, List.getElem?_map]; rfl
    cases hpi : parts[i]? with
    | none => rw [hpi] at a2; simp only [Option.map_none] at a2; simp [← a2]
    | some p =>
      rw [hpi] at a1 a2
      simp at a1 a2
      have hi : i < n := by
        rcases Nat.lt_or_ge i n with h | h
        · exact h
        · rw [List.getElem?_eq_none (by simpa using h)] at a1; cases a1
      rw [List.getElem?_range hi] at a1
      simp at a1
      simp [← a2, a1]
  have hrun := run_buildCells (P := P) (w := w) (size := 1) hE hz vs h1 (by omega)
  rw [hn] at hrun
  refine s_val k F hg hd hN (by rw [ho]; rfl) (v := .slice (some ⟨w.heap.size, 0, none⟩) n n) (w' := w.alloc (.cells vs.toArray e)) ?_ fun a' F' => hk _ _ a' (H.alloc vs e) F'
  unfold execOp
  simp only [ho]
  rw [hm, Sem.run_bind, hrun]
  rfl
end
theorem St.ownForm {w0 w : World} {ls : List HP} (H : St w0 w ls) (i : Nat) {e : TypeId} {size : Nat} {v : Value} {n : Nat} {xs : List Value} (hi : ls[i]? = some (HP.own e size v n xs)) :
    ∃ p cap, v = .slice p n cap ∧ n ≤ cap ∧ (0 < n → ∃ g, p = some ⟨g, 0, none⟩) := by
  obtain ⟨hl, ⟨rfl, rfl⟩ | ⟨g, cap, cur, rfl, _, _, hc, _⟩⟩ := H.owns i hi
  · exact ⟨none, 0, rfl, Nat.le_refl _, by omega⟩
  · exact ⟨_, cap, rfl, hc, fun _ => ⟨g, rfl⟩⟩
theorem Sl.form {w : World} {v : Value} {n : Nat} {cs : List Value} (h : Sl w v n cs) : ∃ p cap, v = .slice p n cap ∧ (0 < n → ∃ b off, p = some ⟨b, off, none⟩ ∧ Row w b off cs) := by
  rcases h with ⟨rfl, rfl, _⟩ | ⟨ad, cap, rfl, rfl, _⟩ | ⟨b, off, cap, rfl, _, hr⟩
  · exact ⟨none, 0, rfl, by omega⟩
  · exact ⟨some ad, cap, rfl, by omega⟩
  · exact ⟨_, _, rfl, fun _ => ⟨b, off, rfl, hr⟩⟩
end Go.Tri
namespace Go.Tri
open Go.RowKit
theorem wrap_i64 {x r : Int} (h : x = r) (h1 : -9223372036854775808 ≤ r) (h2 : r ≤ 9223372036854775807) : IntKind.i64.wrap x = r := by subst h; exact IntWalk.i64_in _ ⟨h1, h2⟩
theorem wrap_u64 {x r : Int} (h : x = r) (h1 : 0 ≤ r) (h2 : r ≤ 18446744073709551615) : IntKind.u64.wrap x = r := by
  subst h
  unfold IntKind.wrap
  simp [IntKind.signed, IntKind.bits]
  omega
end Go.Tri
