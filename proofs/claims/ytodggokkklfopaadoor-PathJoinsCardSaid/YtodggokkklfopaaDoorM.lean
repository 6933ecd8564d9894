/- The engine: maps. -/
import Derived.Test.YtodggokkklfopaaDoorG
set_option linter.unusedSimpArgs false
set_option linter.unusedVariables false
namespace Go.Tri
open Go.RowKit

/-- Block b is a map with these pairs, in the order in which they came; each entry has its own stamp. -/
def MapW (w : World) (b : Nat) (kv : List (Value × Value)) : Prop :=
  ∃ es c, w.heap[b]? = some (.map es c) ∧ es.toList.map (fun e => (e.key, e.val)) = kv ∧ (es.toList.map (·.born)).Nodup ∧ ∀ e ∈ es.toList, e.born < c
def HP.mp (b : Nat) (kv : List (Value × Value)) : HP := ⟨fun w S => MapW w b kv ∧ S b, fun h hS => by
  obtain ⟨⟨es, c, h1, h2⟩, h3⟩ := h
  exact ⟨⟨es, c, by rw [hS _ h3]; exact h1, h2⟩, h3⟩⟩
theorem St.mp {w0 w : World} {l : List HP} (h : St w0 w l) (i : Nat) {b : Nat} {kv : List (Value × Value)} (hi : l[i]? = some (HP.mp b kv)) : MapW w b kv := by
  obtain ⟨S, h1, _⟩ := h.get i hi; exact h1.1
theorem St.convAt {w0 w : World} {l : List HP} (h : St w0 w l) (i : Nat) {A B : HP} (hi : l[i]? = some A) (hB : ∀ S, A.pr w S → B.pr w S) : St w0 w (l.set i B) :=
  h.upd i hi (fun S hA hS => ⟨S, hB S hA, fun b hb => .inl hb, fun b hb => (hS b hb).2, fun _ _ _ => rfl⟩) rfl rfl rfl (Nat.le_refl _)
/-- The pairs of a map whose keys are told by ek. -/
def mkv {κ : Type} (ek : κ → Value) (l : List (κ × Value)) : List (Value × Value) := l.map fun p => (ek p.1, p.2)
/-- Where a key stands. -/
def findI {κ : Type} [DecidableEq κ] (k : κ) : List (κ × Value) → Nat → Option (Nat × Value)
  | [], _ => none
  | (k', v) :: r, i => if k' = k then some (i, v) else findI k r (i + 1)
theorem findI_get {κ : Type} [DecidableEq κ] (k : κ) : ∀ (l : List (κ × Value)) (i : Nat), (findI k l i).map (·.2) = aget k l
  | [], _ => rfl
  | (k', v) :: r, i => by
    unfold findI aget
    by_cases h : k' = k
    · simp [h]
    · simp [h, findI_get k r (i + 1)]
theorem findI_at {κ : Type} [DecidableEq κ] (k : κ) : ∀ (l : List (κ × Value)) (i j : Nat) (v : Value), findI k l i = some (j, v) → i ≤ j ∧ (l[j - i]?).map (·.1) = some k ∧ ∀ x, l.modify (j - i) (fun _ => (k, x)) = aset k x l
  | [], _, _, _, h => by cases h
  | (k', u) :: r, i, j, v, h => by
    unfold findI at h
    by_cases hk : k' = k
    · rw [if_pos hk] at h
      cases h
      refine ⟨Nat.le_refl _, by simp [hk], fun x => ?_⟩
      simp [aset, hk]
    · rw [if_neg hk] at h
      obtain ⟨h1, h2, h3⟩ := findI_at k r (i + 1) j v h
      refine ⟨by omega, ?_, fun x => ?_⟩
      · rw [show j - i = (j - (i + 1)) + 1 by omega, List.getElem?_cons_succ]; exact h2
      · rw [show j - i = (j - (i + 1)) + 1 by omega, List.modify_succ_cons, h3 x]
        simp [aset, hk]
theorem findI_none {κ : Type} [DecidableEq κ] (k : κ) (l : List (κ × Value)) (i : Nat) (h : findI k l i = none) : aget k l = none := by
  have := findI_get k l i; rw [h] at this; exact this.symm
/-- A type of keys, told by ek, where ok. -/
structure KeyT (P : Program) (K : TypeId) {κ : Type} [DecidableEq κ] (ek : κ → Value) (ok : κ → Prop) : Prop where
  check : ∀ e k w, ok k → (Instr.checkKey e 10000 K (ek k)).run P w = .ok () w
  find : ∀ k (es : List MapEntry) (l : List (κ × Value)) w, ok k → (∀ p ∈ l, ok p.1) → es.map (fun e => (e.key, e.val)) = mkv ek l → (Instr.findKey K (ek k) es).run P w = .ok (findI k l 0) w
  stays : ∀ k w, ok k → (Instr.keyThatStays (ek k) (ek k)).run P w = .ok (ek k) w
theorem findNow_ints (q : IntKind) (k : Int) : ∀ (es : List MapEntry) (l : List (Int × Value)) (i : Nat), es.map (fun e => (e.key, e.val)) = mkv (Value.int q) l → Instr.findNow (.int q) (.int q k) es i = some (findI k l i)
  | [], l, i, h => by
    cases l with
    | nil => rfl
    | cons p l => simp [mkv] at h
  | e :: es, l, i, h => by
    cases l with
    | nil => simp [mkv] at h
    | cons p l =>
      obtain ⟨k', v'⟩ := p
      simp only [mkv, List.map_cons, List.cons.injEq, Prod.mk.injEq] at h
      obtain ⟨⟨hk, hv⟩, ht⟩ := h
      have ih := findNow_ints q k es l (i + 1) ht
      unfold Instr.findNow findI
      by_cases hkk : k' = k
      · subst hkk; simp [Instr.sameNow, hk, hv]
      · have hne : (k == k') = false := by simp; exact fun hh => hkk hh.symm
        simp [Instr.sameNow, hk, hne, hkk, ih]
theorem keyInt {P : Program} {K : TypeId} {q : IntKind} (hK : P.underlying K = some (.int q)) : KeyT P K (Value.int q) (fun _ => True) where
  check e k w _ := run_checkKey hK e 9999 k w
  find k es l w _ _ h := run_findKey hK k es _ w (findNow_ints q k es l 0 h)
  stays k w _ := by
    unfold Instr.keyThatStays
    have : Instr.sameBits 10000 (.int q k) (.int q k) = true := by unfold Instr.sameBits; simp
    rw [if_pos this]; rfl
section
variable {P : Program} {T K E : TypeId} {κ : Type} [DecidableEq κ] {ek : κ → Value} {ok : κ → Prop} {w : World} {b : Nat} {l : List (κ × Value)}
theorem run_mapUpdateW (hT : P.underlying T = some (.map K E)) (hK : KeyT P K ek ok) (h : MapW w b (mkv ek l)) (hok : ∀ p ∈ l, ok p.1) (k : κ) (hk : ok k) (v : Value) :
    ∃ w', (Instr.mapUpdate T (.map (some b)) (ek k) v).run P w = .ok () w' ∧ MapW w' b (mkv ek (aset k v l)) ∧ Chg b w w' := by
  obtain ⟨es, c, hb, he, hnd, hlt⟩ := h
  have hbl : b < w.heap.size := (Array.getElem?_eq_some_iff.1 hb).1
  have hf := hK.find k es.toList l w hk hok he
  have hpre : ∀ X, (Instr.mapUpdate T (.map (some b)) (ek k) v).run P w = X ↔ ((do match findI k l 0 with
      | some (i, _) => do
        let key ← Instr.keyThatStays (((es[i]?).map (·.key)).getD (ek k)) (ek k)
        setObj b (.map (es.modify i fun e => { e with key, val := v }) c)
      | none => setObj b (.map (es.push { key := ek k, val := v, born := c }) (c + 1)) : Sem Unit)).run P w = X := by
    intro X
    unfold Instr.mapUpdate
    rw [Sem.run_bind, run_underlying hT]
    simp only [Result.andThen_ok]
    rw [Sem.run_bind, run_getObj w b es c hb]
    simp only [Result.andThen_ok]
    rw [Sem.run_bind, hK.check false k w hk]
    simp only [Result.andThen_ok]
    rw [Sem.run_bind, hf]
    simp only [Result.andThen_ok]
    rcases findI k l 0 with _ | ⟨i, u⟩ <;> exact Iff.rfl
  cases hg : findI k l 0 with
  | none =>
    refine ⟨w.putObj b (.map (es.push { key := ek k, val := v, born := c }) (c + 1)), ?_, ⟨_, _, World.putObj_heap_same hbl, ?_, ?_, ?_⟩, chg_putObj _ _ _⟩
    · rw [hpre, hg]; exact run_setObj w b es c _ hb
    · rw [aset_none k v l (findI_none k l 0 hg)]; simp [he, mkv]
    · simp only [Array.toList_push, List.map_append, List.map_cons, List.map_nil]
      refine List.nodup_append.2 ⟨hnd, by simp, fun x hx y hy => ?_⟩
      simp at hy; subst hy
      obtain ⟨e, he', rfl⟩ := List.mem_map.1 hx
      have := hlt e he'; omega
    · intro e he'
      simp only [Array.toList_push, List.mem_append, List.mem_singleton] at he'
      rcases he' with h | rfl
      · have := hlt e h; omega
      · simp
  | some p =>
    obtain ⟨j, u⟩ := p
    obtain ⟨_, h2, h3⟩ := findI_at k l 0 j u hg
    rw [Nat.sub_zero] at h2 h3
    have hkey : ((es[j]?).map (·.key)).getD (ek k) = ek k := by
      have : (es.toList.map (fun e => (e.key, e.val)))[j]? = (mkv ek l)[j]? := by rw [he]
      simp only [mkv, List.getElem?_map] at this
      cases hl : l[j]? with
      | none => simp [hl] at h2
      | some q =>
        simp [hl] at h2
        rw [hl] at this
        cases hes : es[j]? with
        | none => rw [Array.getElem?_toList, hes] at this; simp at this
        | some e =>
          rw [Array.getElem?_toList, hes] at this
          simp at this
          simp [this.1, h2]
    refine ⟨w.putObj b (.map (es.modify j fun e => { e with key := ek k, val := v }) c), ?_, ⟨_, _, World.putObj_heap_same hbl, ?_, ?_, ?_⟩, chg_putObj _ _ _⟩
    · rw [hpre, hg]
      simp only [hkey]
      rw [Sem.run_bind, hK.stays k w hk]
      simp only [Result.andThen_ok]
      exact run_setObj w b es c _ hb
    · rw [← h3 v]
      apply List.ext_getElem?
      intro i
      have hi : (es.toList.map (fun e => (e.key, e.val)))[i]? = (mkv ek l)[i]? := by rw [he]
      simp only [mkv, List.getElem?_map] at hi
      simp only [mkv, List.getElem?_map, List.getElem?_modify, Array.toList_modify]
      by_cases hij : j = i
      · subst hij
        simp only [if_true]
        cases hes : es.toList[j]? with
        | none =>
          rw [hes] at hi
          cases hl : l[j]? with
          | none => rfl
          | some q => rw [hl] at hi; cases hi
        | some e =>
          rw [hes] at hi
          cases hl : l[j]? with
          | none => rw [hl] at hi; simp at hi
          | some q => simp
      · simp only [if_neg hij]
        cases h1 : es.toList[i]? with
        | none => rw [h1] at hi; simpa using hi
        | some e => rw [h1] at hi; simpa using hi
    · have : (es.modify j fun e => { e with key := ek k, val := v }).toList.map (·.born) = es.toList.map (·.born) := by
        apply List.ext_getElem?
        intro i
        simp only [List.getElem?_map, List.getElem?_modify, Array.toList_modify]
        by_cases hij : j = i
        · simp only [if_pos hij]; cases es.toList[i]? <;> simp
        · simp only [if_neg hij]; cases es.toList[i]? <;> simp
      rw [this]; exact hnd
    · intro e he'
      simp only [Array.toList_modify] at he'
      obtain ⟨i, hi, rfl⟩ := List.getElem_of_mem he'
      simp only [List.length_modify] at hi
      rw [List.getElem_modify]
      have := hlt _ (List.getElem_mem hi)
      split <;> simpa using this
theorem run_lookupW {z : Value} (hT : P.underlying T = some (.map K E)) (hK : KeyT P K ek ok) (hz : ∀ w, (zeroValue E).run P w = .ok z w) (h : MapW w b (mkv ek l)) (hok : ∀ p ∈ l, ok p.1) (k : κ) (hk : ok k) (comma : Bool) :
    (Instr.lookup T (.map (some b)) (ek k) comma).run P w = .ok (if comma then .tuple #[(aget k l).getD z, .bool (aget k l).isSome] else (aget k l).getD z) w := by
  obtain ⟨es, c, hb, he, hnd, hlt⟩ := h
  have hf := hK.find k es.toList l w hk hok he
  unfold Instr.lookup
  rw [Sem.run_bind, run_underlying hT]
  simp only [Result.andThen_ok]
  rw [Sem.run_bind, run_getObj w b es c hb]
  simp only [Result.andThen_ok, pure_bind]
  rw [Sem.run_bind, hK.check _ k w hk]
  simp only [Result.andThen_ok]
  rw [Sem.run_bind, hf]
  simp only [Result.andThen_ok]
  have hg := findI_get k l 0
  cases hfi : findI k l 0 with
  | none =>
    rw [hfi] at hg
    simp only [Option.map_none] at hg
    simp only
    rw [Sem.run_bind, hz]
    simp only [Result.andThen_ok, pure_bind, Sem.run_pure, ← hg]
    rfl
  | some p =>
    rw [hfi] at hg
    simp only [Option.map_some] at hg
    simp only [pure_bind, Sem.run_pure, ← hg]
    rfl
theorem run_lenMapW (hT : P.underlying T = some (.map K E)) {kv : List (Value × Value)} (h : MapW w b kv) (ty : TypeId) : (Builtin.len_ #[T] ty #[.map (some b)]).run P w = .ok (.int .i64 kv.length) w := by
  obtain ⟨es, c, hb, he, _⟩ := h
  exact run_lenMap hT ⟨es, c, hb, he⟩ ty
end
section
variable {P : Program} {T K E : TypeId} {κ : Type} [DecidableEq κ] {ek : κ → Value} {ok : κ → Prop} {w0 w : World} {b : Nat} {l : List (κ × Value)} {ls : List HP} {ops : Array Oper} {rest : List Oper} {o : Oper} {a : Act} {W : List Oper → Act → World → Prop} {N : Fs} {sl : List (Nat × Value)} {d : Nat} {x y z : Operand}
theorem s_makeMap (k : Walk P ops W) (F : Fr N a sl) (hg : o.guard = none) (hd : o.dst = some d) (hN : Nat.blt d N.n = true) (ho : o.op = .makeMap T none) (H : St w0 w ls)
    (hk : ∀ b w' a', St w0 w' (HP.mp b [] :: ls) → Fr N a' ((d, .map (some b)) :: sl) → W rest a' w') : W (o :: rest) a w := by
  refine s_val k F hg hd hN (by rw [ho]; rfl) (v := .map (some w.heap.size)) (w' := w.alloc (.map #[] 0)) ?_ fun a' F' => hk _ _ a' (H.add _ _ fun S hS => ⟨⟨#[], 0, heapNew w _, rfl, by simp, by simp⟩, hS⟩) F'
  unfold execOp
  simp [ho, Instr.makeMap, newObj, Sem.run]
theorem s_mapUpdate (kw : Walk P ops W) (F : Fr N a sl) (hg : o.guard = none) (hd : o.dst = none) (hT : P.underlying T = some (.map K E)) (hK : KeyT P K ek ok) (ho : o.op = .mapUpdate T x y z) (H : St w0 w ls) (i : Nat) (hi : ls[i]? = some (HP.mp b (mkv ek l)))
    (hx : ev sl x = some (.map (some b))) {k : κ} (hy : ev sl y = some (ek k)) {v : Value} (hz : ev sl z = some v) (hok : ∀ p ∈ l, ok p.1) (hkk : ok k)
    (hk : ∀ w', St w0 w' (ls.set i (HP.mp b (mkv ek (aset k v l)))) → W rest a w') : W (o :: rest) a w := by
  obtain ⟨w', hr, hm, hc⟩ := run_mapUpdateW hT hK (H.mp i hi) hok k hkk v
  refine s_none kw F hg hd (by rw [ho]; rfl) (w' := w') ?_ (hk _ (H.chg i hi (fun S hA => hA.2) hc fun S hA => ⟨hm, hA.2⟩))
  unfold execOp
  simp only [ho, F.eval hx, F.eval hy, F.eval hz, Sem.run_bind, hr, Result.andThen_ok, Sem.run_pure]
theorem y_lookup {z0 v : Value} (F : Fr N a sl) (hT : P.underlying T = some (.map K E)) (hK : KeyT P K ek ok) (hz : ∀ w, (zeroValue E).run P w = .ok z0 w) (ho : o.op = .lookup T x y false) (hx : ev sl x = some (.map (some b))) {k : κ} (hy : ev sl y = some (ek k)) (h : MapW w b (mkv ek l)) (hok : ∀ p ∈ l, ok p.1) (hkk : ok k) (hv : (aget k l).getD z0 = v) :
    (execOp a.eval o).run P w = .ok (.value v) w := by
  unfold execOp
  simp only [ho, F.eval hx, F.eval hy, Sem.run_bind, run_lookupW hT hK hz h hok k hkk, Result.andThen_ok, Sem.run_pure, ← hv]
  rfl
theorem y_lookupOk {z0 v : Value} {c : Bool} (F : Fr N a sl) (hT : P.underlying T = some (.map K E)) (hK : KeyT P K ek ok) (hz : ∀ w, (zeroValue E).run P w = .ok z0 w) (ho : o.op = .lookup T x y true) (hx : ev sl x = some (.map (some b))) {k : κ} (hy : ev sl y = some (ek k)) (h : MapW w b (mkv ek l)) (hok : ∀ p ∈ l, ok p.1) (hkk : ok k) (hv : (aget k l).getD z0 = v) (hc : (aget k l).isSome = c) :
    (execOp a.eval o).run P w = .ok (.value (.tuple [v, .bool c].toArray)) w := by
  unfold execOp
  simp only [ho, F.eval hx, F.eval hy, Sem.run_bind, run_lookupW hT hK hz h hok k hkk, Result.andThen_ok, Sem.run_pure, ← hv, ← hc]
  rfl
/-! ### A map is gone through -/
theorem St.openMap (H : St w0 w ls) (i : Nat) {kv : List (Value × Value)} (hi : ls[i]? = some (HP.mp b kv)) :
    ∃ es c, es.toList.map (fun e => (e.key, e.val)) = kv ∧ (es.toList.map (·.born)).Nodup ∧ (∀ e ∈ es.toList, e.born < c) ∧ St w0 w (ls.set i (HP.obj b (.map es c))) := by
  obtain ⟨es, c, hb, he, hnd, hlt⟩ := H.mp i hi
  exact ⟨es, c, he, hnd, hlt, H.convAt i hi fun S hA => ⟨hb, hA.2⟩⟩
theorem St.closeMap (H : St w0 w ls) (i : Nat) {es : Array MapEntry} {c : Nat} (hi : ls[i]? = some (HP.obj b (.map es c))) (hnd : (es.toList.map (·.born)).Nodup) (hlt : ∀ e ∈ es.toList, e.born < c) : St w0 w (ls.set i (HP.mp b (es.toList.map fun e => (e.key, e.val)))) :=
  H.convAt i hi fun S hA => ⟨⟨es, c, hA.1, rfl, hnd, hlt⟩, hA.2⟩
theorem s_range (kw : Walk P ops W) (F : Fr N a sl) (hg : o.guard = none) (hd : o.dst = some d) (hN : Nat.blt d N.n = true) (hT : P.underlying T = some (.map K E)) (ho : o.op = .range T x) (H : St w0 w ls) (i : Nat) {es : Array MapEntry} {c : Nat} (hi : ls[i]? = some (HP.obj b (.map es c))) (hx : ev sl x = some (.map (some b)))
    (hk : ∀ r w' a', St w0 w' (HP.obj r (.mapIter (some b) c #[] c) :: ls) → Fr N a' ((d, .pointer (some ⟨r, 0, none⟩)) :: sl) → W rest a' w') : W (o :: rest) a w := by
  refine s_val kw F hg hd hN (by rw [ho]; rfl) (v := .pointer (some ⟨w.heap.size, 0, none⟩)) (w' := w.alloc (.mapIter (some b) c #[] c)) ?_ fun a' F' => hk _ _ a' (H.newObj _) F'
  unfold execOp
  have hg := run_getObj (P := P) w b es c (H.objAt i hi)
  simp [ho, F.eval hx, Instr.range, Go.run_underlying hT, hg, newObj, Sem.run]
theorem St.ahead (H : St w0 w ls) (n : Nat) : St w0 { w with drawn := w.drawn + n } ls := by
  obtain ⟨hb, f, h1, h2, h3⟩ := H
  exact ⟨⟨hb.os, hb.tape, hb.output, hb.size, hb.block⟩, f, fun i A hi => A.loc (h1 i A hi) fun _ _ => rfl, h2, h3⟩
theorem run_choose (q : Question) : ∃ n, (choose q).run P w = .ok (if q.forced then 0 else q.cut (w.tape w.drawn q)) { w with drawn := w.drawn + n } := by
  by_cases h : q.forced = true
  · exact ⟨0, by unfold choose Sem.run; simp [h, Sem.run]⟩
  · exact ⟨1, by unfold choose Sem.run; simp [h, Sem.run]⟩
theorem run_next (r : Nat) {es : Array MapEntry} {c : Nat} {seen : Array Nat} (H : St w0 w ls) (i j : Nat) (hi : ls[i]? = some (HP.obj b (.map es c))) (hj : ls[j]? = some (HP.obj r (.mapIter (some b) c seen c))) (hlt : ∀ e ∈ es.toList, e.born < c) (ty : TypeId) :
    ((∀ e ∈ es.toList, seen.contains e.born = true) ∧ ∃ w', (Instr.next (.pointer (some ⟨r, 0, none⟩)) false ty).run P w = .ok (.tuple #[.bool false]) w' ∧ St w0 w' ls) ∨
    (∃ e ∈ es.toList, seen.contains e.born = false ∧ ∃ w', (Instr.next (.pointer (some ⟨r, 0, none⟩)) false ty).run P w = .ok (.tuple #[.bool true, e.key, e.val]) w' ∧ St w0 w' (ls.set j (HP.obj r (.mapIter (some b) c (seen.push e.born) c)))) := by
  have hm := H.objAt i hi
  have hr := H.objAt j hj
  have g1 : (getObj r).run P w = .ok (.mapIter (some b) c seen c) w := by unfold getObj Sem.run; rw [hr]; rfl
  have g2 := run_getObj (P := P) w b es c hm
  have hguard : (!seen.isEmpty && !es.isEmpty && es.all (·.born ≥ c)) = false := by
    cases he : es.isEmpty with
    | true => simp
    | false =>
      have hpos : 0 < es.size := by
        rcases Nat.eq_zero_or_pos es.size with h | h
        · simp [Array.isEmpty, h] at he
        · exact h
      have : es.all (·.born ≥ c) = false := by
        rw [Array.all_eq_false]
        exact ⟨0, hpos, by have := hlt es[0] (by simp); simp; omega⟩
      simp [this]
  obtain ⟨left, hleft⟩ : ∃ left, left = es.filter fun e => !seen.contains e.born := ⟨_, rfl⟩
  have hold : left.filter (·.born < c) = left := by
    rw [Array.filter_eq_self]
    intro e he
    have : e ∈ es := by rw [hleft] at he; exact (Array.mem_filter.1 he).1
    simpa using hlt e (by simpa using this)
  have hnew : left.filter (·.born ≥ c) = #[] := by
    rw [Array.filter_eq_empty_iff]
    intro e he
    have : e ∈ es := by rw [hleft] at he; exact (Array.mem_filter.1 he).1
    have := hlt e (by simpa using this)
    simp; omega
  have hrun : ∀ (cand : Array (Option MapEntry)), cand = ((if left.isEmpty then #[none] else #[]) ++ left.map some) → (Instr.next (.pointer (some ⟨r, 0, none⟩)) false ty).run P w =
      (do match cand[← choose (.mapNext cand.size)]? with
          | some (some e) => do
            setObj r (.mapIter (some b) c (seen.push e.born) c)
            pure (.tuple #[.bool true, e.key, e.val])
          | some none => pure (.tuple #[.bool false])
          | none => stuck "Next: no such candidate" : Sem Value).run P w := by
    intro cand hc
    unfold Instr.next
    simp only
    rw [Sem.run_bind, g1]
    simp only [Result.andThen_ok]
    rw [Sem.run_bind, g2]
    simp only [Result.andThen_ok, hguard, Bool.false_eq_true, if_false]
    simp only [← hleft, hold, hnew, Array.append_empty, ← hc]
    rfl
  by_cases hem : left.isEmpty = true
  · refine .inl ⟨fun e he => ?_, ?_⟩
    · cases hcn : seen.contains e.born with
      | true => rfl
      | false =>
        have : e ∈ left := by rw [hleft]; exact Array.mem_filter.2 ⟨by simpa using he, by rw [hcn]; rfl⟩
        rw [Array.isEmpty_iff] at hem
        rw [hem] at this; simp at this
    · have hle : left = #[] := by simpa using hem
      refine ⟨w, ?_, H⟩
      rw [hrun #[none] (by rw [if_pos hem, hle]; simp)]
      rw [Sem.run_bind]
      have : (choose (.mapNext (#[none] : Array (Option MapEntry)).size)).run P w = .ok 0 w := by unfold choose Sem.run; simp [Question.forced, Sem.run]
      rw [this]
      rfl
  · have hne : left.isEmpty = false := by simpa using hem
    obtain ⟨k, hk⟩ := run_choose (P := P) (w := w) (.mapNext (left.map some).size)
    obtain ⟨n, hn⟩ : ∃ n, n = (if (Question.mapNext (left.map some).size).forced then 0 else (Question.mapNext (left.map some).size).cut (w.tape w.drawn (.mapNext (left.map some).size))) := ⟨_, rfl⟩
    have hpos : 0 < left.size := by
      rcases Nat.eq_zero_or_pos left.size with h | h
      · simp [Array.isEmpty, h] at hne
      · exact h
    have hnl : n < left.size := by
      rw [hn]
      split
      · exact hpos
      · simp only [Question.cut, Array.size_map]; exact Nat.mod_lt _ hpos
    rw [← hn] at hk
    have hin : left[n] ∈ left := Array.getElem_mem hnl
    have hin2 : left[n] ∈ es ∧ (!seen.contains left[n].born) = true := by
      have h := hin
      generalize left[n] = e at h
      rw [hleft] at h
      exact Array.mem_filter.1 h
    refine .inr ⟨left[n], by simpa using hin2.1, by simpa using hin2.2, ?_⟩
    have H2 := (H.ahead k).putObj j hj (.mapIter (some b) c (seen.push left[n].born) c)
    refine ⟨_, ?_, H2⟩
    rw [hrun (left.map some) (by rw [if_neg (by rw [hne]; simp)]; simp), Sem.run_bind, hk]
    simp only [Result.andThen_ok]
    have hget : (left.map some)[n]? = some (some left[n]) := by simp [hnl]
    rw [hget]
    simp only
    rw [Sem.run_bind]
    have hs : (setObj r (.mapIter (some b) c (seen.push left[n].born) c)).run P { w with drawn := w.drawn + k } = .ok () (({ w with drawn := w.drawn + k } : World).putObj r (.mapIter (some b) c (seen.push left[n].born) c)) := by
      unfold setObj Sem.run
      have : ({ w with drawn := w.drawn + k } : World).heap[r]? = some (.mapIter (some b) c seen c) := hr
      simp only [this]
      rfl
    rw [hs]
    rfl
theorem s_next (kw : Walk P ops W) (F : Fr N a sl) (hg : o.guard = none) (hd : o.dst = some d) (hN : Nat.blt d N.n = true) (ho : o.op = .next x false) {r : Nat} (hx : ev sl x = some (.pointer (some ⟨r, 0, none⟩))) {es : Array MapEntry} {c : Nat} {seen : Array Nat} (H : St w0 w ls) (i j : Nat) (hi : ls[i]? = some (HP.obj b (.map es c))) (hj : ls[j]? = some (HP.obj r (.mapIter (some b) c seen c))) (hlt : ∀ e ∈ es.toList, e.born < c)
    (h0 : (∀ e ∈ es.toList, seen.contains e.born = true) → ∀ w' a', St w0 w' ls → Fr N a' ((d, .tuple [.bool false].toArray) :: sl) → W rest a' w')
    (h1 : ∀ e ∈ es.toList, seen.contains e.born = false → ∀ w' a', St w0 w' (ls.set j (HP.obj r (.mapIter (some b) c (seen.push e.born) c))) → Fr N a' ((d, .tuple [.bool true, e.key, e.val].toArray) :: sl) → W rest a' w') : W (o :: rest) a w := by
  rcases run_next (P := P) r H i j hi hj hlt o.type with ⟨hs, w', hr, H'⟩ | ⟨e, he, hs, w', hr, H'⟩
  · refine s_val kw F hg hd hN (by rw [ho]; rfl) (w' := w') ?_ fun a' F' => h0 hs w' a' H' F'
    unfold execOp
    simp only [ho, F.eval hx, Sem.run_bind, hr, Result.andThen_ok, Sem.run_pure]
  · refine s_val kw F hg hd hN (by rw [ho]; rfl) (w' := w') ?_ fun a' F' => h1 e he hs w' a' H' F'
    unfold execOp
    simp only [ho, F.eval hx, Sem.run_bind, hr, Result.andThen_ok, Sem.run_pure]
theorem y_entry (F : Fr N a sl) (ho : o.op = .entry x) {r : Nat} (hx : ev sl x = some (.pointer (some ⟨r, 0, none⟩))) {es : Array MapEntry} {c : Nat} {seen : Array Nat} {e : MapEntry} (H : St w0 w ls) (i j : Nat) (hi : ls[i]? = some (HP.obj b (.map es c))) (hj : ls[j]? = some (HP.obj r (.mapIter (some b) c (seen.push e.born) c))) (he : e ∈ es.toList) (hnd : (es.toList.map (·.born)).Nodup) :
    (execOp a.eval o).run P w = .ok (.value (.tuple [e.key, e.val].toArray)) w := by
  have hm := H.objAt i hi
  have hr := H.objAt j hj
  have g1 : (getObj r).run P w = .ok (.mapIter (some b) c (seen.push e.born) c) w := by unfold getObj Sem.run; rw [hr]; rfl
  have g2 := run_getObj (P := P) w b es c hm
  have hf : es.find? (fun x => x.born == e.born) = some e := by
    rw [← Array.find?_toList]
    obtain ⟨k, hk, rfl⟩ := List.getElem_of_mem he
    rw [List.find?_eq_some_iff_getElem]
    refine ⟨by simp, k, hk, rfl, fun q hq => ?_⟩
    have := List.pairwise_iff_getElem.1 hnd q k (by simp; simp at hk; omega) (by simpa using hk) hq
    simpa using this
  unfold execOp
  simp only [ho, F.eval hx]
  unfold Instr.entry
  simp only
  rw [Sem.run_bind, Sem.run_bind, g1]
  simp only [Result.andThen_ok, Array.back?_push]
  rw [Sem.run_bind, g2]
  simp only [Result.andThen_ok, bne_self_eq_false, Bool.false_eq_true, if_false, hf]
  rfl
theorem y_makeFunc (F : Fr N a sl) {f : FuncId} {xs : List Operand} (ho : o.op = .makeFunc (.func f) #[] xs.toArray) {vs : List Value} (hv : evs sl xs = some vs) : (execOp a.eval o).run P w = .ok (.value (.func (.func f) #[] vs.toArray)) w := by
  have := F.evals hv
  unfold execOp
  simp [ho, Instr.makeFunc, this]
end
theorem y_lenMap {P : Program} {T K E : TypeId} {κ : Type} {ek : κ → Value} {w : World} {b : Nat} {l : List (κ × Value)} {o : Oper} {a : Act} {N : Fs} {sl : List (Nat × Value)} {x : Operand} (F : Fr N a sl) (ho : o.op = .call { callee := .builtin .len, args := #[x], argTypes := #[T] }) (hT : P.underlying T = some (.map K E)) (hx : ev sl x = some (.map (some b))) (h : MapW w b (mkv ek l)) : (execOp a.eval o).run P w = .ok (.value (.int .i64 l.length)) w := by
  have e : execOp a.eval o = (do pure (.value (← Builtin.len_ #[T] o.type #[.map (some b)]))) := by
    unfold execOp; rw [ho]; simp [resolve, invoke, Go.builtin, F.eval hx]
  rw [e, Sem.run_bind, run_lenMapW hT h]
  simp [mkv]
end Go.Tri
