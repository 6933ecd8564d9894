/- The engine: maps. -/
import Derived.Test.YtfepdfjhejkemaaDoorZ
set_option linter.unusedSimpArgs false
set_option linter.unusedVariables false
namespace Go.Tri
open Go.RowKit

/-- Block b is a map with these pairs, in the order in which they came; each entry has its own stamp. -/
def MapW (w : World) (b : Nat) (kv : List (Value × Value)) : Prop :=
  ∃ es c, w.heap[b]? = some (.map es c) ∧ es.toList.map (fun e => (e.key, e.val)) = kv ∧ (es.toList.map (·.born)).Nodup ∧ ∀ e ∈ es.toList, e.born < c
def HP.mp (b : Nat) (kv : List (Value × Value)) : HP := ⟨fun _ w S => MapW w b kv ∧ S b, fun h hS => by
  obtain ⟨⟨es, c, h1, h2⟩, h3⟩ := h
  exact ⟨⟨es, c, by rw [hS _ h3]; exact h1, h2⟩, h3⟩, fun h _ => h⟩
def HP.obj (b : Nat) (o : Obj) : HP := ⟨fun _ w S => w.heap[b]? = some o ∧ S b, fun h hS => ⟨by rw [hS _ h.2]; exact h.1, h.2⟩, fun h _ => h⟩
theorem chg_putObj (w : World) (b : Nat) (o : Obj) : Chg b w (w.putObj b o) := by
  refine ⟨rfl, rfl, rfl, by simp [World.putObj], fun k hk => ?_⟩
  show (w.heap.setIfInBounds b o)[k]? = _
  rw [Array.getElem?_setIfInBounds, if_neg (fun e => hk e.symm)]
theorem St.objAt {w0 w : World} {l : List HP} (h : St w0 w l) (i : Nat) {b : Nat} {o : Obj} (hi : l[i]? = some (HP.obj b o)) : w.heap[b]? = some o := by
  obtain ⟨_, S, _, h1, _⟩ := h.get i hi; exact h1.1
theorem St.putObj {w0 w : World} {l : List HP} (h : St w0 w l) (i : Nat) {b : Nat} {o : Obj} (hi : l[i]? = some (HP.obj b o)) (o' : Obj) : St w0 (w.putObj b o') (l.set i (HP.obj b o')) :=
  h.chg i hi (fun S hA => hA.2) (chg_putObj w b o') fun S hA => ⟨by
    show (w.heap.setIfInBounds b o')[b]? = _
    rw [Array.getElem?_setIfInBounds, if_pos rfl, if_pos (Array.getElem?_eq_some_iff.1 hA.1).1], hA.2⟩
theorem St.newObj {w0 w : World} {l : List HP} (h : St w0 w l) (o : Obj) : St w0 (w.alloc o) (HP.obj w.heap.size o :: l) :=
  h.add _ _ fun S hS => ⟨heapNew w o, hS⟩
theorem St.mp {w0 w : World} {l : List HP} (h : St w0 w l) (i : Nat) {b : Nat} {kv : List (Value × Value)} (hi : l[i]? = some (HP.mp b kv)) : MapW w b kv := by
  obtain ⟨_, S, _, h1, _⟩ := h.get i hi; exact h1.1
/-- The pairs of a map whose keys are told by ek. -/
def mkv {κ : Type} (ek : κ → Value) (l : List (κ × Value)) : List (Value × Value) := l.map fun p => (ek p.1, p.2)
/-- Where a key stands. -/
def findI {κ : Type} [DecidableEq κ] (k : κ) : List (κ × Value) → Nat → Option (Nat × Value)
  | [], _ => none
  | (k', v) :: r, i => if k' = k then some (i, v) else findI k r (i + 1)
theorem findI_get {κ : Type} [DecidableEq κ] (k : κ) : ∀ (l : List (κ × Value)) (i : Nat), (findI k l i).map (·.2) = aget k l
  | [], _ => rfl
  | (k', v) :: r, i => by
    unfold findI aget
    by_cases h : k' = k
    · simp [h]
    · simp [h, findI_get k r (i + 1)]
theorem findI_at {κ : Type} [DecidableEq κ] (k : κ) : ∀ (l : List (κ × Value)) (i j : Nat) (v : Value), findI k l i = some (j, v) → i ≤ j ∧ (l[j - i]?).map (·.1) = some k ∧ ∀ x, l.modify (j - i) (fun _ => (k, x)) = aset k x l
  | [], _, _, _, h => by cases h
  | (k', u) :: r, i, j, v, h => by
    unfold findI at h
    by_cases hk : k' = k
    · rw [if_pos hk] at h
      cases h
      refine ⟨Nat.le_refl _, by simp [hk], fun x => ?_⟩
      simp [aset, hk]
    · rw [if_neg hk] at h
      obtain ⟨h1, h2, h3⟩ := findI_at k r (i + 1) j v h
      refine ⟨by omega, ?_, fun x => ?_⟩
      · rw [show j - i = (j - (i + 1)) + 1 by omega, List.getElem?_cons_succ]; exact h2
      · rw [show j - i = (j - (i + 1)) + 1 by omega, List.modify_succ_cons, h3 x]
        simp [aset, hk]
theorem findI_none {κ : Type} [DecidableEq κ] (k : κ) (l : List (κ × Value)) (i : Nat) (h : findI k l i = none) : aget k l = none := by
  have := findI_get k l i; rw [h] at this; exact this.symm
/-- A type of keys, told by ek, where ok. -/
structure KeyT (P : Program) (K : TypeId) {κ : Type} [DecidableEq κ] (ek : κ → Value) (ok : κ → Prop) : Prop where
  check : ∀ e k w, ok k → (Instr.checkKey e 10000 K (ek k)).run P w = .ok () w
  find : ∀ k (es : List MapEntry) (l : List (κ × Value)) w, ok k → (∀ p ∈ l, ok p.1) → es.map (fun e => (e.key, e.val)) = mkv ek l → (Instr.findKey K (ek k) es).run P w = .ok (findI k l 0) w
  stays : ∀ k w, ok k → (Instr.keyThatStays (ek k) (ek k)).run P w = .ok (ek k) w
theorem findNow_ints (q : IntKind) (k : Int) : ∀ (es : List MapEntry) (l : List (Int × Value)) (i : Nat), es.map (fun e => (e.key, e.val)) = mkv (Value.int q) l → Instr.findNow (.int q) (.int q k) es i = some (findI k l i)
  | [], l, i, h => by
    cases l with
    | nil => rfl
    | cons p l => simp [mkv] at h
  | e :: es, l, i, h => by
    cases l with
    | nil => simp [mkv] at h
    | cons p l =>
      obtain ⟨k', v'⟩ := p
      simp only [mkv, List.map_cons, List.cons.injEq, Prod.mk.injEq] at h
      obtain ⟨⟨hk, hv⟩, ht⟩ := h
      have ih := findNow_ints q k es l (i + 1) ht
      unfold Instr.findNow findI
      by_cases hkk : k' = k
      · subst hkk; simp [Instr.sameNow, hk, hv]
      · have hne : (k == k') = false := by simp; exact fun hh => hkk hh.symm
        simp [Instr.sameNow, hk, hne, hkk, ih]
theorem keyInt {P : Program} {K : TypeId} {q : IntKind} (hK : P.underlying K = some (.int q)) : KeyT P K (Value.int q) (fun _ => True) where
  check e k w _ := run_checkKey hK e 9999 k w
  find k es l w _ _ h := run_findKey hK k es _ w (findNow_ints q k es l 0 h)
  stays k w _ := by
    unfold Instr.keyThatStays
    have : Instr.sameBits 10000 (.int q k) (.int q k) = true := by unfold Instr.sameBits; simp
    rw [if_pos this]; rfl
section
variable {P : Program} {T K E : TypeId} {κ : Type} [DecidableEq κ] {ek : κ → Value} {ok : κ → Prop} {w : World} {b : Nat} {l : List (κ × Value)}
theorem run_mapUpdateW (hT : P.underlying T = some (.map K E)) (hK : KeyT P K ek ok) (h : MapW w b (mkv ek l)) (hok : ∀ p ∈ l, ok p.1) (k : κ) (hk : ok k) (v : Value) :
    ∃ w', (Instr.mapUpdate T (.map (some b)) (ek k) v).run P w = .ok () w' ∧ MapW w' b (mkv ek (aset k v l)) ∧ Chg b w w' := by
  obtain ⟨es, c, hb, he, hnd, hlt⟩ := h
  have hbl : b < w.heap.size := (Array.getElem?_eq_some_iff.1 hb).1
  have hf := hK.find k es.toList l w hk hok he
  have hpre : ∀ X, (Instr.mapUpdate T (.map (some b)) (ek k) v).run P w = X ↔ ((do match findI k l 0 with
      | some (i, _) => do
        let key ← Instr.keyThatStays (((es[i]?).map (·.key)).getD (ek k)) (ek k)
        setObj b (.map (es.modify i fun e => { e with key, val := v }) c)
      | none => setObj b (.map (es.push { key := ek k, val := v, born := c }) (c + 1)) : Sem Unit)).run P w = X := by
    intro X
    unfold Instr.mapUpdate
    rw [Sem.run_bind, run_underlying hT]
    simp only [Result.andThen_ok]
    rw [Sem.run_bind, run_getObj w b es c hb]
    simp only [Result.andThen_ok]
    rw [Sem.run_bind, hK.check false k w hk]
    simp only [Result.andThen_ok]
    rw [Sem.run_bind, hf]
    simp only [Result.andThen_ok]
    rcases findI k l 0 with _ | ⟨i, u⟩ <;> exact Iff.rfl
  cases hg : findI k l 0 with
  | none =>
    refine ⟨w.putObj b (.map (es.push { key := ek k, val := v, born := c }) (c + 1)), ?_, ⟨_, _, World.putObj_heap_same hbl, ?_, ?_, ?_⟩, chg_putObj _ _ _⟩
    · rw [hpre, hg]; exact run_setObj w b es c _ hb
    · rw [aset_none k v l (findI_none k l 0 hg)]; simp [he, mkv]
    · simp only [Array.toList_push, List.map_append, List.map_cons, List.map_nil]
      refine List.nodup_append.2 ⟨hnd, by simp, fun x hx y hy => ?_⟩
      simp at hy; subst hy
      obtain ⟨e, he', rfl⟩ := List.mem_map.1 hx
      have := hlt e he'; omega
    · intro e he'
      simp only [Array.toList_push, List.mem_append, List.mem_singleton] at he'
      rcases he' with h | rfl
      · have := hlt e h; omega
      · simp
  | some p =>
    obtain ⟨j, u⟩ := p
    obtain ⟨_, h2, h3⟩ := findI_at k l 0 j u hg
    rw [Nat.sub_zero] at h2 h3
    have hkey : ((es[j]?).map (·.key)).getD (ek k) = ek k := by
      have : (es.toList.map (fun e => (e.key, e.val)))[j]? = (mkv ek l)[j]? := by rw [he]
      simp only [mkv, List.getElem?_map] at this
      cases hl : l[j]? with
      | none => simp [hl] at h2
      | some q =>
        simp [hl] at h2
        rw [hl] at this
        cases hes : es[j]? with
        | none => rw [Array.getElem?_toList, hes] at this; simp at this
        | some e =>
          rw [Array.getElem?_toList, hes] at this
          simp at this
          simp [this.1, h2]
    refine ⟨w.putObj b (.map (es.modify j fun e => { e with key := ek k, val := v }) c), ?_, ⟨_, _, World.putObj_heap_same hbl, ?_, ?_, ?_⟩, chg_putObj _ _ _⟩
    · rw [hpre, hg]
      simp only [hkey]
      rw [Sem.run_bind, hK.stays k w hk]
      simp only [Result.andThen_ok]
      exact run_setObj w b es c _ hb
    · rw [← h3 v]
      apply List.ext_getElem?
      intro i
      have hi : (es.toList.map (fun e => (e.key, e.val)))[i]? = (mkv ek l)[i]? := by rw [he]
      simp only [mkv, List.getElem?_map] at hi
      simp only [mkv, List.getElem?_map, List.getElem?_modify, Array.toList_modify]
      by_cases hij : j = i
      · subst hij
        simp only [if_true]
        cases hes : es.toList[j]? with
        | none =>
          rw [hes] at hi
          cases hl : l[j]? with
          | none => rfl
          | some q => rw [hl] at hi; cases hi
        | some e =>
          rw [hes] at hi
          cases hl : l[j]? with
          | none => rw [hl] at hi; simp at hi
          | some q => simp
      · simp only [if_neg hij]
        cases h1 : es.toList[i]? with
        | none => rw [h1] at hi; simpa using hi
        | some e => rw [h1] at hi; simpa using hi
    · have : (es.modify j fun e => { e with key := ek k, val := v }).toList.map (·.born) = es.toList.map (·.born) := by
        apply List.ext_getElem?
        intro i
        simp only [List.getElem?_map, List.getElem?_modify, Array.toList_modify]
        by_cases hij : j = i
        · simp only [if_pos hij]; cases es.toList[i]? <;> simp
        · simp only [if_neg hij]; cases es.toList[i]? <;> simp
      rw [this]; exact hnd
    · intro e he'
      simp only [Array.toList_modify] at he'
      obtain ⟨i, hi, rfl⟩ := List.getElem_of_mem he'
      simp only [List.length_modify] at hi
      rw [List.getElem_modify]
      have := hlt _ (List.getElem_mem hi)
      split <;> simpa using this
theorem run_lookupW {z : Value} (hT : P.underlying T = some (.map K E)) (hK : KeyT P K ek ok) (hz : ∀ w, (zeroValue E).run P w = .ok z w) (h : MapW w b (mkv ek l)) (hok : ∀ p ∈ l, ok p.1) (k : κ) (hk : ok k) (comma : Bool) :
    (Instr.lookup T (.map (some b)) (ek k) comma).run P w = .ok (if comma then .tuple #[(aget k l).getD z, .bool (aget k l).isSome] else (aget k l).getD z) w := by
  obtain ⟨es, c, hb, he, hnd, hlt⟩ := h
  have hf := hK.find k es.toList l w hk hok he
  unfold Instr.lookup
  rw [Sem.run_bind, run_underlying hT]
  simp only [Result.andThen_ok]
  rw [Sem.run_bind, run_getObj w b es c hb]
  simp only [Result.andThen_ok, pure_bind]
  rw [Sem.run_bind, hK.check _ k w hk]
  simp only [Result.andThen_ok]
  rw [Sem.run_bind, hf]
  simp only [Result.andThen_ok]
  have hg := findI_get k l 0
  cases hfi : findI k l 0 with
  | none =>
    rw [hfi] at hg
    simp only [Option.map_none] at hg
    simp only
    rw [Sem.run_bind, hz]
    simp only [Result.andThen_ok, pure_bind, Sem.run_pure, ← hg]
    rfl
  | some p =>
    rw [hfi] at hg
    simp only [Option.map_some] at hg
    simp only [pure_bind, Sem.run_pure, ← hg]
    rfl
end
section
variable {P : Program} {T K E : TypeId} {κ : Type} [DecidableEq κ] {ek : κ → Value} {ok : κ → Prop} {w0 w : World} {b : Nat} {l : List (κ × Value)} {ls : List HP} {ops : Array Oper} {rest : List Oper} {o : Oper} {a : Act} {W : List Oper → Act → World → Prop} {N : Fs} {sl : List (Nat × Value)} {d : Nat} {x y z : Operand}
theorem s_makeMap (k : Walk P ops W) (F : Fr N a sl) (hg : o.guard = none) (hd : o.dst = some d) (hN : Nat.blt d N.n = true) (ho : o.op = .makeMap T none) (H : St w0 w ls)
    (hk : ∀ b w' a', St w0 w' (HP.mp b [] :: ls) → Fr N a' ((d, .map (some b)) :: sl) → W rest a' w') : W (o :: rest) a w := by
  refine s_val k F hg hd hN (by rw [ho]; rfl) (v := .map (some w.heap.size)) (w' := w.alloc (.map #[] 0)) ?_ fun a' F' => hk _ _ a' (H.add _ _ fun S hS => ⟨⟨#[], 0, heapNew w _, rfl, by simp, by simp⟩, hS⟩) F'
  unfold execOp
  simp [ho, Instr.makeMap, newObj, Sem.run]
/-! ### A map is gone through -/
theorem St.ahead (H : St w0 w ls) (n : Nat) : St w0 { w with drawn := w.drawn + n } ls := by
  obtain ⟨hv, B, f, hs, h1, h2, h3⟩ := H
  exact ⟨hv, B, f, hs, fun i A hi => A.loc (h1 i A hi) fun _ _ => rfl, h2, h3⟩
theorem y_makeFunc (F : Fr N a sl) {f : FuncId} {xs : List Operand} (ho : o.op = .makeFunc (.func f) #[] xs.toArray) {vs : List Value} (hv : evs sl xs = some vs) : (execOp a.eval o).run P w = .ok (.value (.func (.func f) #[] vs.toArray)) w := by
  have := F.evals hv
  unfold execOp
  simp [ho, Instr.makeFunc, this]
end
end Go.Tri
