/- Data: maps whose keys and values are plain. -/
import Derived.Test.YtfepdfjhejkemaaDoorD9
import Derived.Test.YtfepdfjhejkemaaDoorM
import Derived.DeepKeys3
import Derived.WideKeyRuns
set_option linter.unusedSimpArgs false
set_option linter.unusedVariables false
namespace Go.Tri
open Go.RowKit
/-- A digest as a value. -/
def hv (h : List UInt8) : Value := .agg (bcells h).toArray
theorem bcells_inj : ∀ {h k : List UInt8}, bcells h = bcells k → h = k
  | [], [], _ => rfl
  | [], _ :: _, e => by simp [bcells] at e
  | _ :: _, [], e => by simp [bcells] at e
  | a :: h, b :: k, e => by
    simp only [bcells, List.map_cons, List.cons.injEq, Value.int.injEq, true_and] at e
    have h1 : a = b := UInt8.toNat_inj.1 (by omega)
    rw [h1, bcells_inj e.2]
theorem hv_inj {h k : List UInt8} (e : hv h = hv k) : h = k := bcells_inj (by simpa [hv] using e)
theorem keyH {P : Program} {K : TypeId} {n : Nat} (h : KeyA P K n) : KeyT P K hv (fun l => l.length = n) where
  check e k w hk := by
    obtain ⟨u, h1, h2, h3⟩ := h.ex
    have := run_checkKey_deep (P := P) e 9997 3 K h.key
    exact this w 3 (hv k) _ (h.form k hk) (by simpa [Value.cells, hv] using keyLits_bytes h1 h2 h3 h.sz 1 k hk)
  find k es l w hk hl he := by
    obtain ⟨u, h1, h2, h3⟩ := h.ex
    rw [run_findKey_eq (P := P) (w := w) (k := K) (by rw [h1])]
    have key : ∀ (es : List MapEntry) (l : List (List UInt8 × Value)) (i : Nat), (∀ p ∈ l, p.1.length = n) → es.map (fun e => (e.key, e.val)) = mkv hv l → (Instr.findAsking K (hv k) es i).run P w = .ok (findI k l i) w := by
      intro es
      induction es with
      | nil =>
        intro l i _ he
        cases l with
        | nil => rfl
        | cons p l => simp [mkv] at he
      | cons e es ih =>
        intro l i hl he
        cases l with
        | nil => simp [mkv] at he
        | cons p l =>
          obtain ⟨k', v'⟩ := p
          simp only [mkv, List.map_cons, List.cons.injEq, Prod.mk.injEq] at he
          obtain ⟨⟨hk', hv'⟩, ht⟩ := he
          have hk'l : k'.length = n := hl (k', v') (by simp)
          obtain ⟨r, hr, hiff⟩ := run_equalIn_deep (P := P) 9997 3 K h.key w 3 3 (hv k) (hv k') _ _ (h.form k hk) (h.form k' hk'l) (by simpa [Value.cells, hv] using keyLits_bytes h1 h2 h3 h.sz 1 k hk) (by simpa [Value.cells, hv] using keyLits_bytes h1 h2 h3 h.sz 1 k' hk'l)
          have hr' : (Op.equal K (hv k) e.key).run P w = .ok r w := by rw [hk']; exact hr
          unfold Instr.findAsking findI
          rw [Sem.run_bind, hr']
          simp only [Result.andThen_ok]
          by_cases hkk : k' = k
          · subst hkk
            have : r = true := hiff.2 rfl
            subst this
            simp [hv']
          · have : r = false := by
              cases r with
              | false => rfl
              | true => exact absurd (lits_inj _ _ (hiff.1 rfl)).symm hkk
            subst this
            rw [if_neg (by simp), if_neg hkk]
            exact ih l (i + 1) (fun p hp => hl p (by simp [hp])) ht
    exact key es l 0 hl he
  stays k w hk := by
    unfold Instr.keyThatStays
    have : Instr.sameBits 10000 (hv k) (hv k) = true := by
      unfold Instr.sameBits hv
      simp only [beq_self_eq_true, Bool.true_and, List.all_eq_true]
      intro p hp
      have h1 : p.1 = p.2 ∧ p.1 ∈ bcells k := by
        have hp' : p ∈ (bcells k).zip (bcells k) := by simpa using hp
        rw [List.zip_eq_zipWith] at hp'
        obtain ⟨i, hi⟩ := List.mem_iff_getElem?.1 hp'
        simp only [List.getElem?_zipWith] at hi
        cases e : (bcells k)[i]? with
        | none => simp [e] at hi
        | some v => simp [e] at hi; subst hi; exact ⟨rfl, List.mem_of_getElem? e⟩
      obtain ⟨h2, h3⟩ := h1
      simp only [bcells, List.mem_map] at h3
      obtain ⟨c, _, hc⟩ := h3
      rw [← h2, ← hc]; simp [Instr.sameBits]
    rw [if_pos this]; rfl
theorem map_eraseIdx {α β : Type} (f : α → β) : ∀ (l : List α) (j : Nat), (l.eraseIdx j).map f = (l.map f).eraseIdx j
  | [], _ => rfl
  | _ :: _, 0 => rfl
  | x :: l, j + 1 => by simp [map_eraseIdx f l j]
/-- Keys are put out of a map. -/
def adel {κ β : Type} [DecidableEq κ] (k : κ) (l : List (κ × β)) : List (κ × β) := match l with
  | [] => []
  | p :: r => if p.1 = k then r else p :: adel k r
section
variable {κ β : Type} [DecidableEq κ] {ek : κ → Value} {ev' : β → Value}
theorem aget_map {vv : β → Value} (k : κ) : ∀ kv : List (κ × β), aget k (kv.map fun p => (p.1, vv p.2)) = (aget k kv).map vv
  | [] => rfl
  | (k', v) :: r => by
    simp only [List.map_cons, aget]
    split
    · rfl
    · exact aget_map k r
theorem aset_map {vv : β → Value} (k : κ) (v : β) : ∀ kv : List (κ × β), aset k (vv v) (kv.map fun p => (p.1, vv p.2)) = (aset k v kv).map fun p => (p.1, vv p.2)
  | [] => rfl
  | (k', u) :: r => by
    simp only [List.map_cons, aset]
    split
    · rfl
    · simp [aset_map k v r]
variable {P : Program} {T K E : TypeId} {ok : κ → Prop} {ov : β → Prop} {vv : β → Value} {w0 w : World} {b : Nat} {kv : List (κ × β)} {ls : List HP} {ops : Array Oper} {rest : List Oper} {o : Oper} {a : Act} {W : List Oper → Act → World → Prop} {N : Fs} {sl : List (Nat × Value)} {d : Nat} {x y z : Operand}
omit [DecidableEq κ] in
theorem adel_map [DecidableEq κ] {vv : β → Value} (k : κ) : ∀ kv : List (κ × β), adel k (kv.map fun p => (p.1, vv p.2)) = (adel k kv).map fun p => (p.1, vv p.2)
  | [] => rfl
  | (k', v) :: r => by
    simp only [List.map_cons, adel]
    split
    · rfl
    · simp [adel_map k r]
theorem adel_sub (k : κ) : ∀ (kv : List (κ × β)) (p : κ × β), p ∈ adel k kv → p ∈ kv
  | [], p, h => h
  | q :: r, p, h => by
    simp only [adel] at h
    split at h
    · exact List.mem_cons_of_mem _ h
    · rcases List.mem_cons.1 h with rfl | h
      · simp
      · exact List.mem_cons_of_mem _ (adel_sub k r p h)
theorem findI_del (k : κ) : ∀ (l : List (κ × Value)) (i : Nat), (∀ j u, findI k l i = some (j, u) → i ≤ j ∧ adel k l = l.eraseIdx (j - i)) ∧ (findI k l i = none → adel k l = l)
  | [], i => ⟨fun j u h => by simp [findI] at h, fun _ => rfl⟩
  | (k', v) :: r, i => by
    simp only [findI, adel]
    split
    · refine ⟨fun j u h => ?_, fun h => by cases h⟩
      cases h
      exact ⟨Nat.le_refl _, by simp⟩
    · obtain ⟨h1, h2⟩ := findI_del k r (i + 1)
      refine ⟨fun j u h => ?_, fun h => by rw [h2 h]⟩
      obtain ⟨h3, h4⟩ := h1 j u h
      refine ⟨by omega, ?_⟩
      rw [h4, show j - i = (j - (i + 1)) + 1 by omega, List.eraseIdx_cons_succ]
theorem run_deleteW {l : List (κ × Value)} {t' : TypeId} (hT : P.underlying T = some (.map K E)) (hK : KeyT P K ek ok) (h : MapW w b (mkv ek l)) (hok : ∀ p ∈ l, ok p.1) (k : κ) (hk : ok k) (ty : TypeId) :
    ∃ w', (Builtin.delete_ #[T, t'] ty #[.map (some b), ek k]).run P w = .ok (.tuple #[]) w' ∧ MapW w' b (mkv ek (adel k l)) ∧ Chg b w w' := by
  obtain ⟨es, c, hb, he, hnd, hlt⟩ := h
  have hbl : b < w.heap.size := (Array.getElem?_eq_some_iff.1 hb).1
  have hf := hK.find k es.toList l w hk hok he
  have hpre : (Builtin.delete_ #[T, t'] ty #[.map (some b), ek k]).run P w = ((match findI k l 0 with
      | some (i, _) => do
        setObj b (.map (es.eraseIdxIfInBounds i) c)
        pure (.tuple #[])
      | none => do
        setObj b (.map es c)
        pure (.tuple #[]) : Sem Value)).run P w := by
    unfold Builtin.delete_
    simp only [List.getElem?_toArray, List.getElem?_cons_zero, List.getElem?_cons_succ]
    rw [Sem.run_bind, run_underlying hT]
    simp only [Result.andThen_ok]
    rw [Sem.run_bind, run_getObj w b es c hb]
    simp only [Result.andThen_ok]
    rw [Sem.run_bind, hK.check _ k w hk]
    simp only [Result.andThen_ok]
    rw [Sem.run_bind, hf]
    simp only [Result.andThen_ok]
    rcases findI k l 0 with _ | ⟨i, u⟩ <;> rfl
  obtain ⟨d1, d2⟩ := findI_del k l 0
  cases hg : findI k l 0 with
  | none =>
    refine ⟨w.putObj b (.map es c), ?_, ⟨es, c, World.putObj_heap_same hbl, by rw [d2 hg]; exact he, hnd, hlt⟩, chg_putObj _ _ _⟩
    rw [hpre, hg]; show Sem.run P (do setObj b (.map es c); pure (Value.tuple #[])) w = _; rw [Sem.run_bind, run_setObj w b es c _ hb]; rfl
  | some p =>
    obtain ⟨j, u⟩ := p
    obtain ⟨_, h4⟩ := d1 j u hg
    rw [Nat.sub_zero] at h4
    have hto : (es.eraseIdxIfInBounds j).toList = es.toList.eraseIdx j := by simp
    refine ⟨w.putObj b (.map (es.eraseIdxIfInBounds j) c), ?_, ⟨_, c, World.putObj_heap_same hbl, ?_, ?_, ?_⟩, chg_putObj _ _ _⟩
    · rw [hpre, hg]; show Sem.run P (do setObj b (.map (es.eraseIdxIfInBounds j) c); pure (Value.tuple #[])) w = _; rw [Sem.run_bind, run_setObj w b es c _ hb]; rfl
    · rw [hto, h4]
      simp only [mkv, map_eraseIdx]
      rw [he]; rfl
    · rw [hto, map_eraseIdx]; exact hnd.sublist (List.eraseIdx_sublist _ _)
    · intro e he'
      rw [hto] at he'
      exact hlt e (List.mem_of_mem_eraseIdx he')
end
end Go.Tri
