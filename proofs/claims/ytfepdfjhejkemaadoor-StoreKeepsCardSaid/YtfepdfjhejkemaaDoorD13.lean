/- Data: entries of maps that are laid first and filled later; facts as pieces. -/
import Derived.Test.YtfepdfjhejkemaaDoorD12
import GoSem.Instr.MapEntry
set_option linter.unusedSimpArgs false
set_option linter.unusedVariables false
namespace Go.Tri
open Go.RowKit
/-- What a call comes to is there. -/
theorem calls_ex {P : Program} {f : FuncId} {args : Array Value} {w : World} {R : Ending → World → Prop} (h : Calls P f args w R) : ∃ e w', R e w' := by
  obtain ⟨e, w', _, hr, _⟩ := h []
  exact ⟨e, w', hr⟩
section
variable {P : Program} {T K E : TypeId} {κ : Type} [DecidableEq κ] {ek : κ → Value} {ok : κ → Prop} {w : World} {b : Nat} {l : List (κ × Value)}
theorem run_mapEntryW {z : Value} (hT : P.underlying T = some (.map K E)) (hK : KeyT P K ek ok) (hz : ∀ w, (zeroValue E).run P w = .ok z w) (h : MapW w b (mkv ek l)) (hok : ∀ p ∈ l, ok p.1) (k : κ) (hk : ok k) :
    ∃ (w' : World) (v : Value) (q : Int) (raw : Array MapEntry) (c i : Nat), (Instr.mapEntry T (.map (some b)) (ek k)).run P w = .ok (.tuple [v, .int .i64 q].toArray) w' ∧ Chg b w w' ∧ w'.heap[b]? = some (.map raw c) ∧
      raw.toList.map (fun e => (e.key, e.val)) = mkv ek (if (aget k l).isSome then l else aset k z l) ∧ (raw.toList.map (·.born)).Nodup ∧ (∀ e ∈ raw.toList, e.born < c) ∧ (raw[i]?).map (fun e => (e.key, (e.born : Int))) = some (ek k, q) := by
  obtain ⟨es, c, hb, he, hnd, hlt⟩ := h
  have hbl : b < w.heap.size := (Array.getElem?_eq_some_iff.1 hb).1
  have hf := hK.find k es.toList l w hk hok he
  have hpre : ∀ X, (Instr.mapEntry T (.map (some b)) (ek k)).run P w = X ↔ ((do match findI k l 0 with
      | some (i, v) => do
        let key ← Instr.keyThatStays (((es[i]?).map (·.key)).getD (ek k)) (ek k)
        setObj b (.map (es.modify i fun e => { e with key }) c)
        pure (.tuple #[v, goInt (((es[i]?).map (·.born)).getD 0)])
      | none => do
        let zero ← zeroValue E
        setObj b (.map (es.push { key := ek k, val := zero, born := c }) (c + 1))
        pure (.tuple #[zero, goInt c]) : Sem Value)).run P w = X := by
    intro X
    unfold Instr.mapEntry
    rw [Sem.run_bind, run_underlying hT]
    simp only [Result.andThen_ok]
    rw [Sem.run_bind, run_getObj w b es c hb]
    simp only [Result.andThen_ok]
    rw [Sem.run_bind, hK.check false k w hk]
    simp only [Result.andThen_ok]
    rw [Sem.run_bind, hf]
    simp only [Result.andThen_ok]
    rcases findI k l 0 with _ | ⟨i, u⟩ <;> exact Iff.rfl
  cases hg : findI k l 0 with
  | none =>
    have hag := findI_none k l 0 hg
    refine ⟨w.putObj b (.map (es.push { key := ek k, val := z, born := c }) (c + 1)), z, c, _, _, es.size, ?_, chg_putObj _ _ _, World.putObj_heap_same hbl, ?_, ?_, ?_, ?_⟩
    · rw [hpre, hg]
      show Sem.run P (do let zero ← zeroValue E; setObj b (.map (es.push { key := ek k, val := zero, born := c }) (c + 1)); pure (Value.tuple #[zero, goInt c])) w = _
      rw [Sem.run_bind, hz w]
      simp only [Result.andThen_ok]
      rw [Sem.run_bind, run_setObj w b es c _ hb]; rfl
    · rw [hag]; simp only [Option.isSome_none, if_false, Bool.false_eq_true]
      rw [aset_none k z l hag]; simp [he, mkv]
    · simp only [Array.toList_push, List.map_append, List.map_cons, List.map_nil]
      refine List.nodup_append.2 ⟨hnd, by simp, fun x hx y hy => ?_⟩
      simp at hy; subst hy
      obtain ⟨e, he', rfl⟩ := List.mem_map.1 hx
      have := hlt e he'; omega
    · intro e he'
      simp only [Array.toList_push, List.mem_append, List.mem_singleton] at he'
      rcases he' with h | rfl
      · have := hlt e h; omega
      · simp
    · simp
  | some p =>
    obtain ⟨j, u⟩ := p
    obtain ⟨_, h2, h3⟩ := findI_at k l 0 j u hg
    rw [Nat.sub_zero] at h2 h3
    have hag : aget k l = some u := by rw [← findI_get k l 0, hg]; rfl
    have hje : ∃ e, es[j]? = some e ∧ e.key = ek k ∧ e.val = u := by
      have hh : (es.toList.map (fun e => (e.key, e.val)))[j]? = (mkv ek l)[j]? := by rw [he]
      simp only [mkv, List.getElem?_map] at hh
      cases hl : l[j]? with
      | none => simp [hl] at h2
      | some q =>
        simp [hl] at h2
        rw [hl] at hh
        cases hes : es[j]? with
        | none => rw [Array.getElem?_toList, hes] at hh; simp at hh
        | some e =>
          rw [Array.getElem?_toList, hes] at hh
          simp at hh
          refine ⟨e, rfl, by rw [hh.1, h2], ?_⟩
          rw [hh.2]
          have := h3 q.2
          have hm : l.modify j (fun _ => (k, q.2)) = l := by
            apply List.ext_getElem?
            intro i
            rw [List.getElem?_modify]
            by_cases hij : j = i
            · subst hij; rw [hl]; simp [← h2]
            · simp [hij]
          rw [hm] at this
          have h5 := aget_aset k k q.2 l
          rw [← this, if_pos rfl, hag] at h5
          exact (Option.some.inj h5).symm
    obtain ⟨e, hje, hek, hev⟩ := hje
    have hkey : ((es[j]?).map (·.key)).getD (ek k) = ek k := by rw [hje]; exact hek
    have hmod : (es.modify j fun e => { e with key := ek k }) = es := by
      apply Array.ext_getElem?
      intro i
      rw [Array.getElem?_modify]
      by_cases hij : j = i
      · subst hij; rw [hje]; simp [← hek]
      · simp [hij]
    refine ⟨w.putObj b (.map es c), u, e.born, es, c, j, ?_, chg_putObj _ _ _, World.putObj_heap_same hbl, ?_, hnd, hlt, ?_⟩
    · rw [hpre, hg]
      simp only [hkey]
      rw [Sem.run_bind, hK.stays k w hk]
      simp only [Result.andThen_ok, hmod]
      rw [Sem.run_bind, run_setObj w b es c _ hb]
      simp only [Result.andThen_ok, Sem.run_pure, hje, Option.map_some, Option.getD_some]
      rfl
    · rw [hag]; exact he
    · rw [hje]; simp [hek]
end
section
variable {κ β : Type} [DecidableEq κ] {R : Rp β} {P : Program} {T K E : TypeId} {ek : κ → Value} {ok : κ → Prop} {agg : Bool} {w0 w : World} {b : Nat} {m : κ → Option β} {ls : List HP}
/-- A map in which an entry is to be filled: that of the key k, with the stamp q. -/
def HP.me (b : Nat) (ek : κ → Value) (agg : Bool) (R : Rp β) (ok : κ → Prop) (m : κ → Option β) (k : κ) (q : Int) : HP :=
  ⟨fun B w S => (∃ (es : List (κ × (List Value × β))) (m' : κ → Option β) (raw : Array MapEntry) (c i : Nat), EsOk R ok B es m' ∧ (∀ j, j ≠ k → m' j = m j) ∧ w.heap[b]? = some (.map raw c) ∧ raw.toList.map (fun e => (e.key, e.val)) = ment ek agg es ∧ (raw.toList.map (fun e : MapEntry => e.born)).Nodup ∧ (∀ e ∈ raw.toList, e.born < c) ∧ (raw[i]?).map (fun e : MapEntry => (e.key, (e.born : Int))) = some (ek k, q) ∧ (m' k).isSome) ∧ S b,
    fun ⟨⟨es, m', raw, c, i, h1, h2, h3, h4⟩, h5⟩ hS => ⟨⟨es, m', raw, c, i, h1, h2, by rw [hS _ h5]; exact h3, h4⟩, h5⟩, fun ⟨⟨es, m', raw, c, i, h1, h2⟩, h5⟩ hl => ⟨⟨es, m', raw, c, i, h1.mono hl, h2⟩, h5⟩⟩
theorem EsOk.set {B : Base} {es : List (κ × (List Value × β))} {m : κ → Option β} (h : EsOk R ok B es m) {k : κ} (hk : ok k) {cs : List Value} {v : β} (hv : R.rd B cs v) : EsOk R ok B (aset k (cs, v) es) (fset k v m) := by
  have hnd : ((aset k (cs, v) es).map (·.1)).Nodup := by
    rw [aset_keys]
    split
    · exact h.nodup
    · rename_i hn
      exact List.nodup_append.2 ⟨h.nodup, by simp, fun x hx y hy e => by simp at hy; subst hy; subst e; exact hn hx⟩
  refine ⟨hnd, ?_, ?_, ?_⟩
  · intro q hq
    have : q.1 ∈ (aset k (cs, v) es).map (·.1) := List.mem_map.2 ⟨q, hq, rfl⟩
    rw [aset_keys] at this
    have key : ∀ j, j ∈ es.map (·.1) → ok j := fun j hj => by obtain ⟨r, hr, rfl⟩ := List.mem_map.1 hj; exact h.ok r hr
    split at this
    · exact key _ this
    · rcases List.mem_append.1 this with h | h
      · exact key _ h
      · simp at h; rw [h]; exact hk
  · rintro ⟨q1, q2⟩ hq
    have h1 := aget_of_mem (k := q1) (v := q2) hnd hq
    rw [aget_aset] at h1
    split at h1
    · cases h1; exact hv
    · exact h.rd _ (aget_mem' h1)
  · intro j
    show fset k v m j = _
    rw [aget_aset]
    unfold fset
    split
    · rfl
    · exact h.get j
theorem ment_aset (k : κ) (cs : List Value) (v : β) (es : List (κ × (List Value × β))) : ment ek agg (aset k (cs, v) es) = mkv ek (aset k (mkV agg cs) (es.map fun p => (p.1, mkV agg p.2.1))) := by
  unfold ment; rw [← aset_map (vv := fun q : List Value × β => mkV agg q.1) k (cs, v) es]
variable {ops : Array Oper} {rest : List Oper} {o : Oper} {a : Act} {W : List Oper → Act → World → Prop} {N : Fs} {sl : List (Nat × Value)} {d : Nat} {x y z : Operand}
theorem s_mmEntry (kw : Walk P ops W) (F : Fr N a sl) (hg : o.guard = none) (hd : o.dst = some d) (hN : Nat.blt d N.n = true) (hT : P.underlying T = some (.map K E)) (hK : KeyT P K ek ok) {zc : List Value} {z0 : β} (hz : ∀ w, (zeroValue E).run P w = .ok (mkV agg zc) w) (hz0 : ∀ B, R.rd B zc z0) (ho : o.op = .mapEntry T x y) (H : St w0 w ls) (i : Nat) (hi : ls[i]? = some (HP.mm (some b) ek agg R ok m))
    (hx : ev sl x = some (.map (some b))) {k : κ} (hy : ev sl y = some (ek k)) (hkk : ok k)
    (hk : ∀ v q w' a', St w0 w' (ls.set i (HP.me b ek agg R ok m k q)) → Fr N a' ((d, .tuple [v, .int .i64 q].toArray) :: sl) → W rest a' w') : W (o :: rest) a w := by
  obtain ⟨es, H⟩ := H.mmOpen i hi
  have hil : i < ls.length := (List.getElem?_eq_some_iff.1 hi).1
  have hi' : (ls.set i (HP.mx (some b) ek agg R ok es m))[i]? = some (HP.mx (some b) ek agg R ok es m) := by simp [List.getElem?_set, hil]
  obtain ⟨_, _, hes, hm⟩ := H.mxOk i hi'
  obtain ⟨w', v, q, raw, c, j, hr, hc, hh, hkv, hnd, hlt, hst⟩ := run_mapEntryW hT hK hz hm (es_ok hes.ok) k hkk
  refine s_val (v := .tuple [v, .int .i64 q].toArray) (w' := w') kw F hg hd hN (by rw [ho]; rfl) ?_ fun a' F' => hk v q w' a' ?_ F'
  · unfold execOp
    simp only [ho, F.eval hx, F.eval hy, Sem.run_bind, hr, Result.andThen_ok, Sem.run_pure]
  · have hag : aget k (es.map fun p => (p.1, mkV agg p.2.1)) = (aget k es).map fun q => mkV agg q.1 := aget_map (vv := fun q : List Value × β => mkV agg q.1) k es
    have H2 := H.chg (A' := HP.me b ek agg R ok m k q) i hi' (g := b) (fun S hA => hA.2.2) hc (fun {B} S hA => ?_)
    · rw [List.set_set] at H2; exact H2
    · refine ⟨?_, hA.2.2⟩
      cases e : aget k es with
      | some u =>
        rw [hag, e] at hkv
        refine ⟨es, m, raw, c, j, hA.1, fun _ _ => rfl, hh, hkv, hnd, hlt, hst, ?_⟩
        rw [hA.1.get k, e]; rfl
      | none =>
        rw [hag, e] at hkv
        simp only [Option.map_none, Option.isSome_none, if_false, Bool.false_eq_true] at hkv
        refine ⟨aset k (zc, z0) es, fset k z0 m, raw, c, j, hA.1.set hkk (hz0 B), fun j hj => by unfold fset; rw [if_neg hj], hh, ?_, hnd, hlt, hst, by simp [fset]⟩
        rw [ment_aset]; exact hkv
theorem s_entStore (kw : Walk P ops W) (F : Fr N a sl) (hg : o.guard = none) (hd : o.dst = none) (ho : o.op = .entryStore T x y z) (H : St w0 w ls) (i : Nat) {k : κ} {q : Int} (hi : ls[i]? = some (HP.me b ek agg R ok m k q)) (hinj : ∀ j j', ok j → ok j' → ek j = ek j' → j = j') (hkk : ok k)
    (hx : ev sl x = some (.map (some b))) (hy : ev sl y = some (.int .i64 q)) {cs : List Value} (hz : ev sl z = some (mkV agg cs)) {v : β} (hrd : ∀ {B : Base}, (∀ (j : Nat) (C : HP), ls[j]? = some C → ∃ S, C.pr B w S) → R.rd B cs v)
    (hk : ∀ w', St w0 w' (ls.set i (HP.mm (some b) ek agg R ok (fset k v m))) → W rest a w') : W (o :: rest) a w := by
  obtain ⟨B, HB⟩ := H.out
  obtain ⟨S0, ⟨es0, m0, raw, c, j, he0, hm0, hh, hkv, hnd, hlt, hst, hsome⟩, hS0⟩ := HB.at hi
  have hil : i < ls.length := (List.getElem?_eq_some_iff.1 hi).1
  cases hj : raw[j]? with
  | none => rw [hj] at hst; cases hst
  | some e =>
    rw [hj] at hst
    simp only [Option.map_some, Option.some.injEq, Prod.mk.injEq] at hst
    obtain ⟨hek, hq⟩ := hst
    have hjl : j < raw.size := (Array.getElem?_eq_some_iff.1 hj).1
    have hidx : raw.findIdx? (fun e => (e.born : Int) == q) = some j := by
      rw [Array.findIdx?_eq_some_iff_getElem]
      refine ⟨hjl, ?_, fun i hi => ?_⟩
      · rw [(Array.getElem?_eq_some_iff.1 hj).2]; simp [hq]
      · simp only [beq_iff_eq, Bool.not_eq_true]
        intro hb
        have h1 : (raw.toList.map (·.born))[i]? = some e.born := by
          have : i < raw.size := by omega
          simp only [List.getElem?_map, Array.getElem?_toList, Array.getElem?_eq_getElem this, Option.map_some, Option.some.injEq]
          omega
        have h2 : (raw.toList.map (·.born))[j]? = some e.born := by
          simp only [List.getElem?_map, Array.getElem?_toList, hj, Option.map_some]
        obtain ⟨a1, b1⟩ := List.getElem?_eq_some_iff.1 h1
        obtain ⟨a2, b2⟩ := List.getElem?_eq_some_iff.1 h2
        have := (List.getElem_inj (h₀ := a1) (h₁ := a2) hnd).1 (by rw [b1, b2])
        omega
    have hbl : b < w.heap.size := (Array.getElem?_eq_some_iff.1 hh).1
    have hrun : (execOp a.eval o).run P w = .ok .skip (w.putObj b (.map (raw.modify j fun e => { e with val := mkV agg cs }) c)) := by
      unfold execOp
      simp only [ho, F.eval hx, F.eval hy, F.eval hz]
      unfold Instr.entryStore
      simp [run_getObj w b raw c hh, asInt, asIntOf, hidx, run_setObj w b raw c _ hh]
      rfl
    refine s_none kw F hg hd (by rw [ho]; rfl) hrun (hk _ ?_)
    have hcs : R.rd B cs v := hrd fun j C hj => HB.at hj
    refine (HB.chg (A' := HP.mm (some b) ek agg R ok (fset k v m)) i hi (g := b) (fun S hA => hA.2) (chg_putObj w b _) (fun S hA => ?_)).st
    have hget : ∃ u, es0[j]? = some u ∧ u.1 = k := by
      have h1 : (raw.toList.map (fun e => (e.key, e.val)))[j]? = (ment ek agg es0)[j]? := by rw [hkv]
      simp only [ment, mkv, List.map_map, List.getElem?_map, Array.getElem?_toList, hj, Option.map_some, Function.comp] at h1
      cases hes : es0[j]? with
      | none => rw [hes] at h1; cases h1
      | some u =>
        rw [hes] at h1
        have h1' : (e.key, e.val) = (ek u.1, mkV agg u.2.1) := Option.some.inj h1
        exact ⟨u, rfl, hinj _ _ (he0.ok u (List.mem_of_getElem? hes)) hkk (by rw [← hek]; exact (congrArg Prod.fst h1').symm)⟩
    obtain ⟨u, hu, huk⟩ := hget
    have haset : ∀ (es : List (κ × (List Value × β))) (j : Nat) (u : κ × (List Value × β)), (es.map (·.1)).Nodup → es[j]? = some u → u.1 = k → es.modify j (fun _ => (k, (cs, v))) = aset k (cs, v) es := by
      intro es
      induction es with
      | nil => intro j u _ h; simp at h
      | cons p es ih =>
        intro j u hn h hk
        simp only [List.map_cons, List.nodup_cons] at hn
        cases j with
        | zero =>
          simp at h; subst h
          obtain ⟨p1, p2⟩ := p
          simp at hk; subst hk
          simp [aset]
        | succ j =>
          have h' : es[j]? = some u := by simpa using h
          have hne : p.1 ≠ k := fun e => hn.1 (e ▸ hk ▸ List.mem_map.2 ⟨u, List.mem_of_getElem? h', rfl⟩)
          obtain ⟨p1, p2⟩ := p
          simp only [List.modify_succ_cons, aset, if_neg (show ¬ p1 = k from hne)]
          rw [ih j u hn.2 h' hk]
    have hfs : fset k v m0 = fset k v m := by
      funext i; unfold fset; split
      · rfl
      · rename_i h; exact hm0 i h
    refine ⟨aset k (cs, v) es0, ⟨by rw [← hfs]; exact he0.set hkk hcs, ⟨_, c, World.putObj_heap_same hbl, ?_, ?_, ?_⟩, hA.2⟩⟩
    · rw [← haset es0 j u he0.nodup hu huk]
      unfold ment mkv
      rw [List.map_map]
      apply List.ext_getElem?
      intro i
      have h1 : (raw.toList.map (fun e => (e.key, e.val)))[i]? = (ment ek agg es0)[i]? := by rw [hkv]
      simp only [ment, mkv, List.map_map, List.getElem?_map, Array.getElem?_toList, Function.comp] at h1
      simp only [List.getElem?_map, Array.getElem?_toList, Array.getElem?_modify, List.getElem?_modify, Function.comp]
      by_cases hij : j = i
      · subst hij
        rw [hj, hu]
        simp [hek]
      · simp only [hij, if_false]
        cases hr : raw[i]? <;> cases he : es0[i]? <;> simp [hr, he] at h1 ⊢
        exact h1
    · have : (raw.modify j fun e => { e with val := mkV agg cs }).toList.map (·.born) = raw.toList.map (·.born) := by
        apply List.ext_getElem?
        intro i
        simp only [List.getElem?_map, Array.getElem?_toList, Array.getElem?_modify]
        by_cases hij : j = i
        · subst hij; simp [hj]
        · simp [hij]
      rw [this]; exact hnd
    · intro e' he'
      obtain ⟨i, hi'⟩ := List.mem_iff_getElem?.1 he'
      rw [Array.getElem?_toList, Array.getElem?_modify] at hi'
      by_cases hij : j = i
      · subst hij
        rw [hj] at hi'
        simp at hi'; subst hi'
        exact hlt e (List.mem_of_getElem? (by rw [Array.getElem?_toList]; exact hj))
      · simp only [hij, if_false] at hi'
        refine hlt e' (List.mem_of_getElem? (i := i) ?_)
        rw [Array.getElem?_toList]
        simpa using hi'
end
section
variable {κ β : Type} [DecidableEq κ] {R : Rp β} {P : Program} {T K E : TypeId} {ek : κ → Value} {ok : κ → Prop} {agg : Bool} {w0 w : World} {b : Nat} {m : κ → Option β} {ls : List HP} {ops : Array Oper} {rest : List Oper} {o : Oper} {a : Act} {W : List Oper → Act → World → Prop} {N : Fs} {sl : List (Nat × Value)} {x y : Operand}
theorem run_mmDel {t' : TypeId} (hT : P.underlying T = some (.map K E)) (hK : KeyT P K ek ok) (H : St w0 w ls) (i : Nat) (hi : ls[i]? = some (HP.mm (some b) ek agg R ok m)) (k : κ) (hkk : ok k) (ty : TypeId) :
    ∃ w', (Builtin.delete_ #[T, t'] ty #[.map (some b), ek k]).run P w = .ok (.tuple #[]) w' ∧ St w0 w' (ls.set i (HP.mm (some b) ek agg R ok (fdel k m))) := by
  obtain ⟨es, H⟩ := H.mmOpen i hi
  have hil : i < ls.length := (List.getElem?_eq_some_iff.1 hi).1
  have hi' : (ls.set i (HP.mx (some b) ek agg R ok es m))[i]? = some (HP.mx (some b) ek agg R ok es m) := by simp [List.getElem?_set, hil]
  obtain ⟨_, _, hes, hm⟩ := H.mxOk i hi'
  obtain ⟨w', hr, hm', hc⟩ := run_deleteW (t' := t') hT hK hm (es_ok hes.ok) k hkk ty
  refine ⟨w', hr, ?_⟩
  have H2 := H.chg (A' := HP.mm (some b) ek agg R ok (fdel k m)) i hi' (g := b) (fun S hA => hA.2.2) hc (fun S hA => ⟨adel k es, ⟨?_, fun q hq => hA.1.ok q (adel_sub k es q hq), fun q hq => hA.1.rd q (adel_sub k es q hq), fun j => ?_⟩, ?_, hA.2.2⟩)
  · rw [List.set_set] at H2; exact H2
  · rw [adel_keys]; exact hA.1.nodup.erase k
  · show fdel k m j = _
    rw [aget_adel j k es hA.1.nodup]
    unfold fdel
    split
    · rfl
    · exact hA.1.get j
  · have : ment ek agg (adel k es) = mkv ek (adel k (es.map fun p => (p.1, mkV agg p.2.1))) := by
      unfold ment; rw [← adel_map (vv := fun q : List Value × β => mkV agg q.1) k es]
    rw [this]; exact hm'
theorem s_mmDelN (kw : Walk P ops W) (F : Fr N a sl) (hg : o.guard = none) (hd : o.dst = none) {t' : TypeId} (hT : P.underlying T = some (.map K E)) (hK : KeyT P K ek ok) (ho : o.op = .call { callee := .builtin .delete, args := #[x, y], argTypes := #[T, t'] }) (H : St w0 w ls) (i : Nat) (hi : ls[i]? = some (HP.mm (some b) ek agg R ok m))
    (hx : ev sl x = some (.map (some b))) {k : κ} (hy : ev sl y = some (ek k)) (hkk : ok k)
    (hk : ∀ w', St w0 w' (ls.set i (HP.mm (some b) ek agg R ok (fdel k m))) → W rest a w') : W (o :: rest) a w := by
  obtain ⟨w', hr, H'⟩ := run_mmDel (t' := t') hT hK H i hi k hkk o.type
  refine s_valN (v := .tuple #[]) (w' := w') kw F hg hd (by rw [ho]; rfl) ?_ (hk w' H')
  unfold execOp
  simp [ho, resolve, invoke, builtin, F.eval hx, F.eval hy, hr]
end
theorem inj_int {k : IntKind} : ∀ j j' : Int, True → True → Value.int k j = Value.int k j' → j = j' := fun j j' _ _ h => by cases h; rfl
theorem inj_hv {n : Nat} : ∀ j j' : List UInt8, j.length = n → j'.length = n → hv j = hv j' → j = j' := fun j j' _ _ h => hv_inj h
end Go.Tri
