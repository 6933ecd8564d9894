import Derived.Test.YtnjemlkcamdbfaaGreatDoorA3
import Derived.Test.YtnjemlkcamdbfaaGreatDoorA2
import Derived.DeepKeys3
import Derived.WideKeyRuns
import Derived.OrdersIn
import Derived.MapKept
import GoSem.Instr.MapEntry
import Derived.Lib.ConvBytes
/- Data: maps whose keys and values are plain. -/
set_option linter.unusedSimpArgs false
set_option linter.unusedVariables false
namespace Go.Tri
open Go.RowKit
/-- A digest as a value. -/
def hv (h : List UInt8) : Value := .agg (bcells h).toArray
theorem keyH {P : Program} {K : TypeId} {n : Nat} (h : KeyA P K n) : KeyT P K hv (fun l => l.length = n) where
  check e k w hk := by
    obtain ⟨u, h1, h2, h3⟩ := h.ex
    have := run_checkKey_deep (P := P) e 9997 3 K h.key
    exact this w 3 (hv k) _ (h.form k hk) (by simpa [Value.cells, hv] using keyLits_bytes h1 h2 h3 h.sz 1 k hk)
  find k es l w hk hl he := by
    obtain ⟨u, h1, h2, h3⟩ := h.ex
    rw [run_findKey_eq (P := P) (w := w) (k := K) (by rw [h1])]
    have key : ∀ (es : List MapEntry) (l : List (List UInt8 × Value)) (i : Nat), (∀ p ∈ l, p.1.length = n) → es.map (fun e => (e.key, e.val)) = mkv hv l → (Instr.findAsking K (hv k) es i).run P w = .ok (findI k l i) w := by
      intro es
      induction es with
      | nil =>
        intro l i _ he
        cases l with
        | nil => rfl
        | cons p l => simp [mkv] at he
      | cons e es ih =>
        intro l i hl he
        cases l with
        | nil => simp [mkv] at he
        | cons p l =>
          obtain ⟨k', v'⟩ := p
          simp only [mkv, List.map_cons, List.cons.injEq, Prod.mk.injEq] at he
          obtain ⟨⟨hk', hv'⟩, ht⟩ := he
          have hk'l : k'.length = n := hl (k', v') (by simp)
          obtain ⟨r, hr, hiff⟩ := run_equalIn_deep (P := P) 9997 3 K h.key w 3 3 (hv k) (hv k') _ _ (h.form k hk) (h.form k' hk'l) (by simpa [Value.cells, hv] using keyLits_bytes h1 h2 h3 h.sz 1 k hk) (by simpa [Value.cells, hv] using keyLits_bytes h1 h2 h3 h.sz 1 k' hk'l)
          have hr' : (Op.equal K (hv k) e.key).run P w = .ok r w := by rw [hk']; exact hr
          unfold Instr.findAsking findI
          rw [Sem.run_bind, hr']
          simp only [Result.andThen_ok]
          by_cases hkk : k' = k
          · subst hkk
            have : r = true := hiff.2 rfl
            subst this
            simp [hv']
          · have : r = false := by
              cases r with
              | false => rfl
              | true => exact absurd (lits_inj _ _ (hiff.1 rfl)).symm hkk
            subst this
            rw [if_neg (by simp), if_neg hkk]
            exact ih l (i + 1) (fun p hp => hl p (by simp [hp])) ht
    exact key es l 0 hl he
  stays k w hk := by
    unfold Instr.keyThatStays
    have : Instr.sameBits 10000 (hv k) (hv k) = true := by
      unfold Instr.sameBits hv
      simp only [beq_self_eq_true, Bool.true_and, List.all_eq_true]
      intro p hp
      have h1 : p.1 = p.2 ∧ p.1 ∈ bcells k := by
        have hp' : p ∈ (bcells k).zip (bcells k) := by simpa using hp
        rw [List.zip_eq_zipWith] at hp'
        obtain ⟨i, hi⟩ := List.mem_iff_getElem?.1 hp'
        simp only [List.getElem?_zipWith] at hi
        cases e : (bcells k)[i]? with
        | none => simp [e] at hi
        | some v => simp [e] at hi; subst hi; exact ⟨rfl, List.mem_of_getElem? e⟩
      obtain ⟨h2, h3⟩ := h1
      simp only [bcells, List.mem_map] at h3
      obtain ⟨c, _, hc⟩ := h3
      rw [← h2, ← hc]; simp [Instr.sameBits]
    rw [if_pos this]; rfl
section
variable {κ β : Type} [DecidableEq κ] {ek : κ → Value} {ev' : β → Value}
theorem aget_map {vv : β → Value} (k : κ) : ∀ kv : List (κ × β), aget k (kv.map fun p => (p.1, vv p.2)) = (aget k kv).map vv
  | [] => rfl
  | (k', v) :: r => by
    simp only [List.map_cons, aget]
    split
    · rfl
    · exact aget_map k r
theorem aset_map {vv : β → Value} (k : κ) (v : β) : ∀ kv : List (κ × β), aset k (vv v) (kv.map fun p => (p.1, vv p.2)) = (aset k v kv).map fun p => (p.1, vv p.2)
  | [] => rfl
  | (k', u) :: r => by
    simp only [List.map_cons, aset]
    split
    · rfl
    · simp [aset_map k v r]
variable {P : Program} {T K E : TypeId} {ok : κ → Prop} {ov : β → Prop} {vv : β → Value} {w0 w : World} {b : Nat} {kv : List (κ × β)} {ls : List HP} {ops : Array Oper} {rest : List Oper} {o : Oper} {a : Act} {W : List Oper → Act → World → Prop} {N : Fs} {sl : List (Nat × Value)} {d : Nat} {x y z : Operand}
end
end Go.Tri

/- Data: noughts behind an owned slice; bytes over an owned slice. -/
set_option linter.unusedSimpArgs false
set_option linter.unusedVariables false
namespace Go.Tri
open Go.RowKit
section
variable {P : Program} {w0 w : World} {ls : List HP} {t ti e : TypeId} {bytes : Nat} {z : Value}
variable {ops : Array Oper} {rest : List Oper} {o : Oper} {a : Act} {W : List Oper → Act → World → Prop} {N : Fs} {sl : List (Nat × Value)} {d : Nat}
end
end Go.Tri

/- The engine: regions, loops and ends of functions that hold a range over a function. -/
set_option linter.unusedSimpArgs false
set_option linter.unusedVariables false
namespace Go.Tri
open Go.RowKit
/-- Out of the fence, and into it. -/
theorem outF {P : Program} {c : Code} {Q : Exit → Act → World → Prop} {a : Act} {w : World} (h : c.wp P Q a w) : c.wpIn (FN none) 0 P Q a w := (wpIn_wide (n := 0)).2 h
theorem inF {P : Program} {c : Code} {Q : Exit → Act → World → Prop} {a : Act} {w : World} (h : c.wpIn (FN none) 0 P Q a w) : c.wp P Q a w := (wpIn_wide (n := 0)).1 h

/-! ### Marks that such loops leave -/
def marks (Ds : List Nat) : List Deferred := Ds.map mark
def HP.mks (Ds : List Nat) : HP := HP.of (fun _ w S => Ds.Nodup ∧ ∀ D ∈ Ds, w.heap[D]? = some (.deferred (some [])) ∧ S D)
    (fun h hS => ⟨h.1, fun D hD => ⟨by rw [hS D (h.2 D hD).2]; exact (h.2 D hD).1, (h.2 D hD).2⟩⟩)
    (fun h _ => h)
theorem St.mks0 {w0 w : World} {l : List HP} (H : St w0 w l) : St w0 w (HP.mks [] :: l) := H.more fun _ _ _ => ⟨List.nodup_nil, fun D h => by simp at h⟩
theorem St.mks1 {w0 w : World} {l : List HP} {D : Nat} {Ds : List Nat} (H : St w0 w (HP.obj D (.deferred (some [])) :: HP.mks Ds :: l)) : St w0 w (HP.mks (D :: Ds) :: l) :=
  H.join fun S T h1 h2 hd => ⟨List.nodup_cons.2 ⟨fun hm => hd D h1.2 (h2.2 D hm).2, h2.1⟩, fun E hE => by
    rcases List.mem_cons.1 hE with rfl | hE
    · exact ⟨h1.1, .inl h1.2⟩
    · exact ⟨(h2.2 E hE).1, .inr (h2.2 E hE).2⟩⟩
theorem Sub.put {B : Base} {w : World} (h : Sub B w) {D : Nat} (hB : B D = none) (o : Obj) : Sub B (w.putObj D o) := by
  intro b x hb
  show (w.heap.setIfInBounds D o)[b]? = _
  rw [Array.getElem?_setIfInBounds, if_neg (fun e => by subst e; rw [hB] at hb; cases hb)]
  exact h b x hb
theorem leaves_marks {P : Program} {fn : Func} {R : Ending → World → Prop} {tmps : Array Value} {w0 : World} {l : List HP} {v : Value} : ∀ (Ds : List Nat) (w : World), St w0 w (HP.mks Ds :: l) → (∀ w, St w0 w l → (results fn tmps).run P w = .ok v w) → (∀ w, St w0 w l → R (.returned v) w) → LeavesInM (FN none) 0 P fn tmps R (marks Ds) .returning w
  | [], w, H, hr, h => ⟨v, hr w H.tail, h w H.tail⟩
  | D :: Ds, w, H, hr, h => by
    obtain ⟨hv, B, f, hs, h1, h2, h3⟩ := H
    have hm := h1 0 _ rfl
    have hD := hm.2 D (by simp)
    have hf0 := h3 0 D (by simp) hD.2
    have hnd := List.nodup_cons.1 hm.1
    have H2 : St w0 (w.putObj D (.deferred none)) (HP.mks Ds :: l) := by
      have hc := chg_putObj w D (.deferred none)
      refine ⟨⟨hc.os.trans hv.1, hc.tape.trans hv.2.1, hc.output.trans hv.2.2.1, by rw [hc.size]; exact hv.2.2.2⟩, B, fun i => match i with | 0 => fun b => b ≠ D ∧ f 0 b | i + 1 => f (i + 1), hs.put hf0.2.1 _, ?_, ?_, ?_⟩
      · intro i A hi
        cases i with
        | zero =>
          simp at hi; subst hi
          refine ⟨hnd.2, fun E hE => ⟨?_, fun e => hnd.1 (e ▸ hE), (hm.2 E (by simp [hE])).2⟩⟩
          rw [hc.oth E (fun e => hnd.1 (e ▸ hE))]; exact (hm.2 E (by simp [hE])).1
        | succ i =>
          have hi' : (HP.mks (D :: Ds) :: l)[i + 1]? = some A := by simpa using hi
          have hil := (List.getElem?_eq_some_iff.1 hi').1
          exact A.loc (h1 (i + 1) A hi') fun b hb => hc.oth b fun e => by subst e; have := h2 0 (i + 1) b (by simp) hil hD.2 hb; omega
      · intro i j b hi hj hfi hfj
        refine h2 i j b (by simpa using hi) (by simpa using hj) ?_ ?_
        · cases i with
          | zero => exact hfi.2
          | succ i => exact hfi
        · cases j with
          | zero => exact hfj.2
          | succ j => exact hfj
      · intro i b hi hf
        rw [hc.size]
        refine h3 i b (by simpa using hi) ?_
        cases i with
        | zero => exact hf.2
        | succ i => exact hf
    refine ⟨by simp, .inl ⟨D, _, rfl, run_takeDeferred hD.1, ?_⟩⟩
    exact leaves_marks Ds _ H2 hr h
section
variable {P : Program} {fn : Func} {R : Ending → World → Prop} {a : Act} {w0 w : World} {N : Nat} {Ds : List Nat} {l : List (Nat × Value)} {ls : List HP}
theorem xk_leave {v : Value} (F : Fr ⟨N, marks Ds⟩ a l) (H : St w0 w (HP.mks Ds :: ls)) (hr : ∀ w, St w0 w ls → (results fn a.tmps).run P w = .ok v w) (h : ∀ w, St w0 w ls → R (.returned v) w) : LeavesInM (FN none) 0 P fn a.tmps R a.defers .returning w := by
  rw [F.defers]; exact leaves_marks Ds w H hr h
theorem xk_ret1 (F : Fr ⟨N, marks Ds⟩ a l) {t : Tmp} (hr : fn.results = #[.tmp t]) {v : Value} (hv : lk t l = some v) (H : St w0 w (HP.mks Ds :: ls)) (h : ∀ w, St w0 w ls → R (.returned v) w) : bodyPostM (FN none) 0 P fn R .ret a w :=
  xk_leave F H (fun _ _ => run_ret1 F hr hv) h
end
/-- A function with such loops. -/
theorem xk_enter {P : Program} {f : FuncId} {fn : Func} {c : Code} {args : List Value} {w : World} {R : Ending → World → Prop} {N : Nat}
    (hf : P.funcs[f]? = some fn) (hb : fn.body = some c) (hN : fn.ntmps = N) (hle : Nat.ble args.length N = true)
    (h : ∀ a, Fr ⟨N, marks []⟩ a (numL 0 args) → c.wp P (bodyPostM (FN none) 0 P fn R) a w) : Calls P f args.toArray w R :=
  xi_enter hf hb hN hle fun a F => outF (h a F)

/-! ### A range over a function, told by a fold -/
def foldO {σ β ρ : Type} (f : σ → β → Option (σ ⊕ ρ)) : σ → List β → Option (σ ⊕ ρ)
  | s, [] => some (.inl s)
  | s, x :: xs => (f s x).bind fun o => match o with | .inl s' => foldO f s' xs | .inr r => some (.inr r)
theorem perm_m {A B C : List HP} {m : HP} : (A ++ (B ++ m :: C)).Perm (m :: (A ++ (B ++ C))) := by
  rw [← List.append_assoc, ← List.append_assoc]; exact List.perm_middle
/-! ### Results, in slots or in cells -/
def RV (P : Program) (l : List (Nat × Value)) (w : World) : ResultVar → Value → Prop
  | .tmp t, v => lk t l = some v
  | .cell t ty, v => ∃ ad, lk t l = some (.pointer (some ad)) ∧ (loadVar ty ad).run P w = .ok v w
def rvSem (tmps : Array Value) : ResultVar → Sem Value
  | .tmp t => pure (tmps.getD t undef)
  | .cell a t => do loadVar t (← asAddr (tmps.getD a undef))
section
variable {P : Program} {fn : Func} {a : Act} {w : World} {M : Fs} {l : List (Nat × Value)}
theorem RV.run (F : Fr M a l) {r : ResultVar} {v : Value} (h : RV P l w r v) : (rvSem a.tmps r).run P w = .ok v w := by
  cases r with
  | tmp t =>
    have := F.get t v h
    simp [rvSem, this]
  | cell t ty =>
    obtain ⟨ad, h1, h2⟩ := h
    have := F.get t _ h1
    simp [rvSem, this, asAddr, h2]
theorem run_res1 (F : Fr M a l) {r : ResultVar} {v : Value} (hr : fn.results = #[r]) (h : RV P l w r v) : (results fn a.tmps).run P w = .ok v w := by
  have h1 := h.run F
  have : results fn a.tmps = (do let x ← rvSem a.tmps r; pure x) := by
    unfold results; rw [hr]; simp [rvSem]; cases r <;> rfl
  rw [this]; simpa using h1
theorem run_resC2 (F : Fr M a l) {r s : ResultVar} {v u : Value} (hr : fn.results = #[r, s]) (h : RV P l w r v) (k : RV P l w s u) : (results fn a.tmps).run P w = .ok (.tuple [v, u].toArray) w := by
  have h1 := h.run F
  have h2 := k.run F
  have : results fn a.tmps = (do let x ← rvSem a.tmps r; let y ← rvSem a.tmps s; pure (.tuple #[x, y])) := by
    unfold results; rw [hr]; simp [rvSem]; cases r <;> cases s <;> rfl
  rw [this, Sem.run_bind, h1]
  simp only [Result.andThen_ok]
  rw [Sem.run_bind, h2]; rfl
theorem run_resC3 (F : Fr M a l) {r s t : ResultVar} {v u x : Value} (hr : fn.results = #[r, s, t]) (h : RV P l w r v) (k : RV P l w s u) (k3 : RV P l w t x) : (results fn a.tmps).run P w = .ok (.tuple [v, u, x].toArray) w := by
  have h1 := h.run F
  have h2 := k.run F
  have h3 := k3.run F
  have : results fn a.tmps = (do let x ← rvSem a.tmps r; let y ← rvSem a.tmps s; let z ← rvSem a.tmps t; pure (.tuple #[x, y, z])) := by
    unfold results; rw [hr]; simp [rvSem]; cases r <;> cases s <;> cases t <;> rfl
  rw [this, Sem.run_bind, h1]
  simp only [Result.andThen_ok]
  rw [Sem.run_bind, h2]
  simp only [Result.andThen_ok]
  rw [Sem.run_bind, h3]; rfl
theorem ld1 {t : TypeId} {b off : Nat} {v : Value} (hP : Plain P t) (hc : w.cell? ⟨b, off, none⟩ = some v) : (loadVar t ⟨b, off, none⟩).run P w = .ok v w := by
  simp [loadVar, hP.run_isAgg, run_load, hc]
end
section
variable {P : Program} {fn : Func} {R : Ending → World → Prop} {a : Act} {w0 w : World} {N : Nat} {Ds : List Nat} {l : List (Nat × Value)} {ls : List HP} {r s t : ResultVar} {v u x : Value}
theorem x_resC1 (F : Fr ⟨N, []⟩ a l) (hr : fn.results = #[r]) (h1 : RV P l w r v) (h : R (.returned v) w) : bodyPost P fn R .ret a w := bodyPost_ret (run_res1 F hr h1) F.defers h
theorem x_resC2 (F : Fr ⟨N, []⟩ a l) (hr : fn.results = #[r, s]) (h1 : RV P l w r v) (h2 : RV P l w s u) (h : R (.returned (.tuple [v, u].toArray)) w) : bodyPost P fn R .ret a w := bodyPost_ret (run_resC2 F hr h1 h2) F.defers h
theorem x_resC3 (F : Fr ⟨N, []⟩ a l) (hr : fn.results = #[r, s, t]) (h1 : RV P l w r v) (h2 : RV P l w s u) (h3 : RV P l w t x) (h : R (.returned (.tuple [v, u, x].toArray)) w) : bodyPost P fn R .ret a w := bodyPost_ret (run_resC3 F hr h1 h2 h3) F.defers h
end
/-! ### Slices from the end -/
section
variable {σ ι ρ κ : Type} {w0 w : World} {J : σ → ι → List HP} {K : ρ → κ → List HP} {jmp : ρ → Code} {fr : List HP} {a : Act}
end
theorem flatK_at {K : Nat} : ∀ {css : List (List Value)}, (∀ c ∈ css, c.length = K) → ∀ {j : Nat} {cj : List Value}, css[j]? = some cj → (css.flatten.drop (j * K)).take K = cj
  | [], _, j, cj, h => by simp at h
  | c :: css, hk, 0, cj, h => by
    simp at h; subst h
    have := hk c (by simp)
    simp [List.take_append, this]
  | c :: css, hk, j + 1, cj, h => by
    have h1 := hk c (by simp)
    have ih := flatK_at (css := css) (fun d hd => hk d (by simp [hd])) (j := j) (by simpa using h)
    rw [Nat.succ_mul, List.flatten_cons, Nat.add_comm, ← List.drop_drop, List.drop_left' h1]
    exact ih
end Go.Tri

/- Data: maps as functions; their values read as anything. -/
set_option linter.unusedSimpArgs false
set_option linter.unusedVariables false
namespace Go.Tri
open Go.RowKit
/-! ### Lists of pairs as functions -/
section
variable {κ β : Type} [DecidableEq κ]
theorem aget_aset {β : Type} (j k : κ) (v : β) : ∀ l : List (κ × β), aget j (aset k v l) = if j = k then some v else aget j l
  | [] => by
    simp only [aset, aget]
    by_cases h : j = k
    · subst h; simp
    · simp [h, Ne.symm h]
  | (k', u) :: l => by
    simp only [aset]
    by_cases hk : k' = k
    · subst hk
      simp only [if_true, aget]
      by_cases h : j = k'
      · subst h; simp
      · simp [h, Ne.symm h]
    · simp only [if_neg hk, aget]
      rw [aget_aset j k v l]
      by_cases h : k' = j
      · subst h; simp [hk]
      · simp [h]
theorem aset_keys {β : Type} (k : κ) (v : β) : ∀ l : List (κ × β), (aset k v l).map (·.1) = if k ∈ l.map (·.1) then l.map (·.1) else l.map (·.1) ++ [k]
  | [] => by simp [aset]
  | (k', u) :: l => by
    simp only [aset]
    by_cases hk : k' = k
    · subst hk; simp
    · simp only [if_neg hk, List.map_cons, aset_keys k v l]
      have : ¬ k = k' := fun e => hk e.symm
      by_cases hm : k ∈ l.map (·.1)
      · simp only [hm, if_true]; simp [hm]
      · simp only [hm, if_false]; simp [hm, this]
theorem aget_none {β : Type} {k : κ} : ∀ {l : List (κ × β)}, k ∉ l.map (·.1) → aget k l = none
  | [], _ => rfl
  | (k', u) :: l, h => by
    simp only [List.map_cons, List.mem_cons, not_or] at h
    simp only [aget, if_neg (fun e : k' = k => h.1 e.symm)]
    exact aget_none h.2
theorem aget_mem' {β : Type} {k : κ} {v : β} : ∀ {l : List (κ × β)}, aget k l = some v → (k, v) ∈ l
  | [], h => by simp [aget] at h
  | (k', u) :: l, h => by
    simp only [aget] at h
    split at h
    · rename_i e; subst e; cases h; simp
    · exact List.mem_cons_of_mem _ (aget_mem' h)
theorem aget_of_mem {β : Type} {k : κ} {v : β} : ∀ {l : List (κ × β)}, (l.map (·.1)).Nodup → (k, v) ∈ l → aget k l = some v
  | [], _, h => by simp at h
  | (k', u) :: l, hn, h => by
    simp only [List.map_cons, List.nodup_cons] at hn
    rcases List.mem_cons.1 h with h | h
    · cases h; simp [aget]
    · simp only [aget]
      rw [if_neg, aget_of_mem hn.2 h]
      intro e; subst e
      exact hn.1 (List.mem_map.2 ⟨_, h, rfl⟩)
/-- A map with a key more, and with one less. -/
def fset (k : κ) (x : β) (m : κ → Option β) : κ → Option β := fun j => if j = k then some x else m j
def fnil : κ → Option β := fun _ => none
/-- The pairs of a map, in some order. -/
def Enum (m : κ → Option β) (kv : List (κ × β)) : Prop := (kv.map (·.1)).Nodup ∧ ∀ k, m k = aget k kv
theorem Enum.perm {m : κ → Option β} {l l' : List (κ × β)} (h : Enum m l) (h' : Enum m l') : l.Perm l' := by
  have nd : ∀ {l : List (κ × β)}, (l.map (·.1)).Nodup → l.Nodup := fun {l} h => (List.pairwise_map.1 h).imp fun hne e => hne (by rw [e])
  refine (List.perm_ext_iff_of_nodup (nd h.1) (nd h'.1)).2 fun p => ?_
  obtain ⟨k, v⟩ := p
  constructor
  · intro hm
    exact aget_mem' (by rw [← h'.2, h.2]; exact aget_of_mem h.1 hm)
  · intro hm
    exact aget_mem' (by rw [← h.2, h'.2]; exact aget_of_mem h'.1 hm)
open Classical in
/-- How many keys a map has. -/
noncomputable def flen (m : κ → Option β) : Nat := if h : ∃ kv, Enum m kv then (Classical.choose h).length else 0
theorem flen_eq {m : κ → Option β} {kv : List (κ × β)} (h : Enum m kv) : flen m = kv.length := by
  unfold flen
  rw [dif_pos ⟨kv, h⟩]
  exact ((Classical.choose_spec (⟨kv, h⟩ : ∃ kv, Enum m kv)).perm h).length_eq
open Classical in
/-- What is the same in whatever order the pairs come. -/
noncomputable def detM {ρ : Type} (m : κ → Option β) (f : List (κ × β) → Option ρ) : Option ρ :=
  if h : (∃ kv, Enum m kv) ∧ ∃ r, ∀ kv, Enum m kv → f kv = some r then some (Classical.choose h.2) else none
theorem detM_some {ρ : Type} {m : κ → Option β} {f : List (κ × β) → Option ρ} {r : ρ} (h : detM m f = some r) : (∃ kv, Enum m kv) ∧ ∀ kv, Enum m kv → f kv = some r := by
  unfold detM at h
  split at h
  · rename_i hx
    cases h
    exact ⟨hx.1, Classical.choose_spec hx.2⟩
  · cases h
theorem detM_of {ρ : Type} {m : κ → Option β} {f : List (κ × β) → Option ρ} {r : ρ} {kv : List (κ × β)} (he : Enum m kv) (h : ∀ kv, Enum m kv → f kv = some r) : detM m f = some r := by
  have hx : (∃ kv, Enum m kv) ∧ ∃ r, ∀ kv, Enum m kv → f kv = some r := ⟨⟨kv, he⟩, r, h⟩
  unfold detM
  rw [dif_pos hx]
  have := Classical.choose_spec hx.2 kv he
  rw [h kv he] at this
  exact this.symm
end
/-! ### The piece -/
def mkV (agg : Bool) (cs : List Value) : Value := match agg with | true => .agg cs.toArray | false => cs.headD undef
section
variable {κ β : Type} [DecidableEq κ]
def ment (ek : κ → Value) (agg : Bool) (es : List (κ × (List Value × β))) : List (Value × Value) := mkv ek (es.map fun p => (p.1, mkV agg p.2.1))
structure EsOk (R : Rp β) (ok : κ → Prop) (B : Base) (es : List (κ × (List Value × β))) (m : κ → Option β) : Prop where
  nodup : (es.map (·.1)).Nodup
  ok : ∀ p ∈ es, ok p.1
  rd : ∀ p ∈ es, R.rd B p.2.1 p.2.2
  get : ∀ k, m k = (aget k es).map (·.2)
theorem EsOk.mono {R : Rp β} {ok : κ → Prop} {B B' : Base} {es : List (κ × (List Value × β))} {m : κ → Option β} (h : EsOk R ok B es m) (hl : B.le B') : EsOk R ok B' es m := ⟨h.nodup, h.ok, fun p hp => R.mono (h.rd p hp) hl, h.get⟩
/-- A map with these entries. -/
def HP.mx (p : Option Nat) (ek : κ → Value) (agg : Bool) (R : Rp β) (ok : κ → Prop) (es : List (κ × (List Value × β))) (m : κ → Option β) : HP :=
  HP.of (fun B w S => EsOk R ok B es m ∧ match p with | none => es = [] | some b => MapW w b (ment ek agg es) ∧ S b)
    (fun {B w w' S} h hS => by
    refine ⟨h.1, ?_⟩
    cases p with
    | none => exact h.2
    | some b =>
      obtain ⟨_, ⟨es, c, h1, h2⟩, h3⟩ := h
      exact ⟨⟨es, c, by rw [hS _ h3]; exact h1, h2⟩, h3⟩)
    (fun h hl => ⟨h.1.mono hl, h.2⟩)
def HP.mm (p : Option Nat) (ek : κ → Value) (agg : Bool) (R : Rp β) (ok : κ → Prop) (m : κ → Option β) : HP :=
  HP.of (fun B w S => ∃ es, (HP.mx p ek agg R ok es m).pr B w S)
    (fun ⟨es, h⟩ hS => ⟨es, HP.loc _ h hS⟩)
    (fun ⟨es, h⟩ hl => ⟨es, HP.mono _ h hl⟩)
variable {R : Rp β} {P : Program} {T K E : TypeId} {ek : κ → Value} {ok : κ → Prop} {agg : Bool} {w0 w : World} {b : Nat} {p : Option Nat} {m : κ → Option β} {es : List (κ × (List Value × β))} {ls : List HP}
theorem St.mmOpen (H : St w0 w ls) (i : Nat) (hi : ls[i]? = some (HP.mm p ek agg R ok m)) : ∃ es, St w0 w (ls.set i (HP.mx p ek agg R ok es m)) := by
  obtain ⟨B, H⟩ := H.out
  obtain ⟨hv, hs, f, h1, h2, h3⟩ := H
  obtain ⟨es, h4⟩ := h1 i _ hi
  have hil : i < ls.length := (List.getElem?_eq_some_iff.1 hi).1
  refine ⟨es, hv, B, f, hs, fun j E hj => ?_, by simpa using h2, by simpa using h3⟩
  rw [List.getElem?_set] at hj
  by_cases ee : i = j
  · subst ee; rw [if_pos rfl, if_pos hil] at hj; cases hj; exact h4
  · rw [if_neg ee] at hj; exact h1 j E hj
theorem St.mxShut (H : St w0 w ls) (i : Nat) (hi : ls[i]? = some (HP.mx p ek agg R ok es m)) : St w0 w (ls.set i (HP.mm p ek agg R ok m)) :=
  H.convAt i hi fun S h => ⟨es, h⟩
theorem St.mxOk (H : St w0 w ls) (i : Nat) (hi : ls[i]? = some (HP.mx p ek agg R ok es m)) : ∃ B, Sub B w ∧ EsOk R ok B es m ∧ match p with | none => es = [] | some b => MapW w b (ment ek agg es) := by
  obtain ⟨B, S, hs, h, _⟩ := H.get i hi
  refine ⟨B, hs, h.1, ?_⟩
  have h2 := h.2
  cases p with
  | none => exact h2
  | some b => exact h2.1
/-- What stands at a key, as cells. -/
def esGet (es : List (κ × (List Value × β))) (k : κ) (zc : List Value) : List Value := ((aget k es).map (·.1)).getD zc
theorem St.mxGet (H : St w0 w ls) (i : Nat) (hi : ls[i]? = some (HP.mx p ek agg R ok es m)) (k : κ) {zc : List Value} {z0 : β} (hz : ∀ B, R.rd B zc z0) : ∃ cs, esGet es k zc = cs ∧ St w0 w (HP.rc R cs ((m k).getD z0) :: ls) := by
  obtain ⟨B, H⟩ := H.out
  obtain ⟨S, h⟩ := H.at hi
  refine ⟨_, rfl, (H.more (A := HP.rc R (esGet es k zc) ((m k).getD z0)) ?_).st⟩
  show R.rd B _ _
  rw [h.1.get k]
  unfold esGet
  cases e : aget k es with
  | none => exact hz B
  | some q => exact h.1.rd _ (aget_mem' e)
variable {ops : Array Oper} {rest : List Oper} {o : Oper} {a : Act} {W : List Oper → Act → World → Prop} {N : Fs} {sl : List (Nat × Value)} {d : Nat} {x y z : Operand}
theorem s_mmNew (ek : κ → Value) (agg : Bool) (R : Rp β) (ok : κ → Prop) (k : Walk P ops W) (F : Fr N a sl) (hg : o.guard = none) (hd : o.dst = some d) (hN : Nat.blt d N.n = true) (ho : o.op = .makeMap T none) (H : St w0 w ls)
    (hk : ∀ b w' a', St w0 w' (HP.mm (some b) ek agg R ok fnil :: ls) → Fr N a' ((d, .map (some b)) :: sl) → W rest a' w') : W (o :: rest) a w :=
  s_makeMap k F hg hd hN ho H fun b w' a' H' F' => hk b w' a' (H'.conv fun S h => ⟨[], ⟨List.nodup_nil, by simp, by simp, fun k => rfl⟩, h⟩) F'
theorem St.mmNil (H : St w0 w ls) (ek : κ → Value) (agg : Bool) (R : Rp β) (ok : κ → Prop) : St w0 w (HP.mm none ek agg R ok fnil :: ls) :=
  H.more fun B _ _ => ⟨[], ⟨List.nodup_nil, by simp, by simp, fun k => rfl⟩, rfl⟩
omit [DecidableEq κ] in
theorem es_ok (h : ∀ q ∈ es, ok q.1) : ∀ q ∈ es.map (fun p => (p.1, mkV agg p.2.1)), ok q.1 := fun q hq => by
  obtain ⟨r, hr, rfl⟩ := List.mem_map.1 hq; exact h r hr
theorem s_mmSet (kw : Walk P ops W) (F : Fr N a sl) (hg : o.guard = none) (hd : o.dst = none) (hT : P.underlying T = some (.map K E)) (hK : KeyT P K ek ok) (ho : o.op = .mapUpdate T x y z) (H : St w0 w ls) (i : Nat) (hi : ls[i]? = some (HP.mm (some b) ek agg R ok m))
    (hx : ev sl x = some (.map (some b))) {k : κ} (hy : ev sl y = some (ek k)) {cs : List Value} (hz : ev sl z = some (mkV agg cs)) (hkk : ok k) {v : β} (hrd : ∀ {B : Base}, (∀ (j : Nat) (C : HP), ls[j]? = some C → ∃ S, C.pr B w S) → R.rd B cs v)
    (hk : ∀ w', St w0 w' (ls.set i (HP.mm (some b) ek agg R ok (fset k v m))) → W rest a w') : W (o :: rest) a w := by
  obtain ⟨es, H⟩ := H.mmOpen i hi
  have hil : i < ls.length := (List.getElem?_eq_some_iff.1 hi).1
  have hi' : (ls.set i (HP.mx (some b) ek agg R ok es m))[i]? = some (HP.mx (some b) ek agg R ok es m) := by simp [List.getElem?_set, hil]
  obtain ⟨_, _, hes, hm⟩ := H.mxOk i hi'
  obtain ⟨w', hr, hm', hc⟩ := run_mapUpdateW hT hK hm (es_ok hes.ok) k hkk (mkV agg cs)
  have hrun : (execOp a.eval o).run P w = .ok .skip w' := by
    unfold execOp
    simp only [ho, F.eval hx, F.eval hy, F.eval hz, Sem.run_bind, hr, Result.andThen_ok, Sem.run_pure]
  refine s_none kw F hg hd (by rw [ho]; rfl) hrun ?_
  obtain ⟨B, HB⟩ := H.out
  have hcs : R.rd B cs v := hrd (B := B) fun j C hj => by
    by_cases e : i = j
    · subst e
      rw [hi] at hj; cases hj
      obtain ⟨S, h⟩ := HB.at hi'
      exact ⟨S, es, h⟩
    · exact HB.at (by rw [List.getElem?_set, if_neg e]; exact hj)
  have H2 := (HB.chg (A' := HP.mm (some b) ek agg R ok (fset k v m)) i hi' (g := b) (fun S hA => hA.2.2) hc (fun S hA => ⟨aset k (cs, v) es, ⟨?_, ?_, ?_, ?_⟩, ?_, hA.2.2⟩)).st
  · rw [List.set_set] at H2; exact hk w' H2
  · rw [aset_keys]
    split
    · exact hA.1.nodup
    · rename_i hn
      exact List.nodup_append.2 ⟨hA.1.nodup, by simp, fun x hx y hy e => by simp at hy; subst hy; subst e; exact hn hx⟩
  · intro q hq
    have : q.1 ∈ (aset k (cs, v) es).map (·.1) := List.mem_map.2 ⟨q, hq, rfl⟩
    rw [aset_keys] at this
    have key : ∀ j, j ∈ es.map (·.1) → ok j := fun j hj => by obtain ⟨r, hr, rfl⟩ := List.mem_map.1 hj; exact hA.1.ok r hr
    split at this
    · exact key _ this
    · rcases List.mem_append.1 this with h | h
      · exact key _ h
      · simp at h; rw [h]; exact hkk
  · rintro ⟨q1, q2⟩ hq
    have hnd : ((aset k (cs, v) es).map (·.1)).Nodup := by
      rw [aset_keys]
      split
      · exact hA.1.nodup
      · rename_i hn
        exact List.nodup_append.2 ⟨hA.1.nodup, by simp, fun x hx y hy e => by simp at hy; subst hy; subst e; exact hn hx⟩
    have h1 := aget_of_mem (k := q1) (v := q2) hnd hq
    rw [aget_aset] at h1
    split at h1
    · cases h1; exact hcs
    · exact hA.1.rd _ (aget_mem' h1)
  · intro j
    show fset k v m j = _
    rw [aget_aset]
    unfold fset
    split
    · rfl
    · exact hA.1.get j
  · have : ment ek agg (aset k (cs, v) es) = mkv ek (aset k (mkV agg cs) (es.map fun p => (p.1, mkV agg p.2.1))) := by
      unfold ment; rw [← aset_map (vv := fun q : List Value × β => mkV agg q.1) k (cs, v) es]
    rw [this]; exact hm'
theorem mx_look {p : Option Nat} (hT : P.underlying T = some (.map K E)) (hK : KeyT P K ek ok) {zc : List Value} (hz : ∀ w, (zeroValue E).run P w = .ok (mkV agg zc) w) (H : St w0 w ls) (i : Nat) (hi : ls[i]? = some (HP.mx p ek agg R ok es m)) (k : κ) (hkk : ok k) (c : Bool) :
    (Instr.lookup T (.map p) (ek k) c).run P w = .ok (if c then .tuple #[mkV agg (esGet es k zc), .bool (m k).isSome] else mkV agg (esGet es k zc)) w := by
  obtain ⟨B, _, hes, hm⟩ := H.mxOk i hi
  cases p with
  | some b =>
    rw [run_lookupW hT hK hz hm (es_ok hes.ok) k hkk]
    rw [hes.get k]
    unfold esGet
    have := aget_map (vv := fun q : List Value × β => mkV agg q.1) k es
    rw [this]
    cases aget k es <;> cases c <;> rfl
  | none =>
    have hm : es = [] := hm
    have h1 := hK.check true k w hkk
    have h2 := hK.find k [] [] w hkk (by simp) rfl
    rw [hes.get k]
    unfold Instr.lookup
    rw [Sem.run_bind, run_underlying hT]
    simp only [Result.andThen_ok]
    cases c <;> simp [h1, h2, findI, hz, aget, esGet, hm]
theorem y_mxGet {p : Option Nat} {zc cs : List Value} (F : Fr N a sl) (hT : P.underlying T = some (.map K E)) (hK : KeyT P K ek ok) (hz : ∀ w, (zeroValue E).run P w = .ok (mkV agg zc) w) (ho : o.op = .lookup T x y false) (H : St w0 w ls) (i : Nat) (hi : ls[i]? = some (HP.mx p ek agg R ok es m)) (hx : ev sl x = some (.map p)) {k : κ} (hy : ev sl y = some (ek k)) (hkk : ok k) (hcs : esGet es k zc = cs) :
    (execOp a.eval o).run P w = .ok (.value (mkV agg cs)) w := by
  unfold execOp
  simp only [ho, F.eval hx, F.eval hy, Sem.run_bind, mx_look hT hK hz H i hi k hkk false, Result.andThen_ok, Sem.run_pure, hcs]
  rfl
theorem aget_mapG {β γ : Type} (g : β → γ) (k : κ) : ∀ kv : List (κ × β), aget k (kv.map fun p => (p.1, g p.2)) = (aget k kv).map g
  | [] => rfl
  | (k', v) :: r => by
    simp only [List.map_cons, aget]
    split
    · rfl
    · exact aget_mapG g k r
theorem EsOk.enum {B : Base} (h : EsOk R ok B es m) : Enum m (es.map fun p => (p.1, p.2.2)) := by
  refine ⟨by rw [List.map_map]; exact h.nodup, fun k => ?_⟩
  rw [h.get k, ← aget_mapG (fun q : List Value × β => q.2) k es]
theorem y_mxLen (F : Fr N a sl) (ho : o.op = .call { callee := .builtin .len, args := #[x], argTypes := #[T] }) (hT : P.underlying T = some (.map K E)) (H : St w0 w ls) (i : Nat) (hi : ls[i]? = some (HP.mx p ek agg R ok es m)) (hx : ev sl x = some (.map p)) : (execOp a.eval o).run P w = .ok (.value (.int .i64 (flen m : Nat))) w := by
  obtain ⟨_, _, hes, hm⟩ := H.mxOk i hi
  have hl : flen m = es.length := by rw [flen_eq hes.enum]; simp
  cases p with
  | some b =>
    have := run_lenMapW hT hm o.type
    unfold execOp
    simp [ho, resolve, invoke, builtin, F.eval hx, this, ment, mkv, hl]
  | none =>
    have hm : es = [] := hm
    have h0 : flen m = 0 := by rw [hl, hm]; rfl
    unfold execOp
    simp [ho, resolve, invoke, builtin, F.eval hx, Builtin.len_, Go.run_underlying hT, goInt, h0]
theorem y_mmLen (F : Fr N a sl) (ho : o.op = .call { callee := .builtin .len, args := #[x], argTypes := #[T] }) (hT : P.underlying T = some (.map K E)) (H : St w0 w ls) (i : Nat) (hi : ls[i]? = some (HP.mm p ek agg R ok m)) (hx : ev sl x = some (.map p)) : (execOp a.eval o).run P w = .ok (.value (.int .i64 (flen m : Nat))) w := by
  obtain ⟨es, H⟩ := H.mmOpen i hi
  have hil : i < ls.length := (List.getElem?_eq_some_iff.1 hi).1
  have hi' : (ls.set i (HP.mx p ek agg R ok es m))[i]? = some (HP.mx p ek agg R ok es m) := by simp [List.getElem?_set, hil]
  obtain ⟨_, _, hes, hm⟩ := H.mxOk i hi'
  have hl : flen m = es.length := by rw [flen_eq hes.enum]; simp
  cases p with
  | some b =>
    have := run_lenMapW hT hm o.type
    unfold execOp
    simp [ho, resolve, invoke, builtin, F.eval hx, this, ment, mkv, hl]
  | none =>
    have hm : es = [] := hm
    have h0 : flen m = 0 := by rw [hl, hm]; rfl
    unfold execOp
    simp [ho, resolve, invoke, builtin, F.eval hx, Builtin.len_, Go.run_underlying hT, goInt, h0]
end
/-! ### Strings as keys -/
theorem rSl_nil {α : Type} (R : Rp α) (B : Base) : (rSl R).rd B [.slice none 0 0] [] := ⟨none, 0, rfl, [], trivial, fun w _ => .inl ⟨rfl, rfl, rfl⟩⟩
end Go.Tri

/- Data: entries of maps that are laid first and filled later; facts as pieces. -/
set_option linter.unusedSimpArgs false
set_option linter.unusedVariables false
namespace Go.Tri
open Go.RowKit
/-- What a call comes to is there. -/
theorem calls_ex {P : Program} {f : FuncId} {args : Array Value} {w : World} {R : Ending → World → Prop} (h : Calls P f args w R) : ∃ e w', R e w' := by
  obtain ⟨e, w', _, hr, _⟩ := h []
  exact ⟨e, w', hr⟩
theorem St.addFact {w0 w : World} {l : List HP} (H : St w0 w l) {p : Prop} (h : p) : St w0 w (HP.fact p :: l) := H.more fun _ _ _ => h
section
variable {P : Program} {T K E : TypeId} {κ : Type} [DecidableEq κ] {ek : κ → Value} {ok : κ → Prop} {w : World} {b : Nat} {l : List (κ × Value)}
end
section
variable {κ β : Type} [DecidableEq κ] {R : Rp β} {P : Program} {T K E : TypeId} {ek : κ → Value} {ok : κ → Prop} {agg : Bool} {w0 w : World} {b : Nat} {m : κ → Option β} {ls : List HP}
theorem EsOk.set {B : Base} {es : List (κ × (List Value × β))} {m : κ → Option β} (h : EsOk R ok B es m) {k : κ} (hk : ok k) {cs : List Value} {v : β} (hv : R.rd B cs v) : EsOk R ok B (aset k (cs, v) es) (fset k v m) := by
  have hnd : ((aset k (cs, v) es).map (·.1)).Nodup := by
    rw [aset_keys]
    split
    · exact h.nodup
    · rename_i hn
      exact List.nodup_append.2 ⟨h.nodup, by simp, fun x hx y hy e => by simp at hy; subst hy; subst e; exact hn hx⟩
  refine ⟨hnd, ?_, ?_, ?_⟩
  · intro q hq
    have : q.1 ∈ (aset k (cs, v) es).map (·.1) := List.mem_map.2 ⟨q, hq, rfl⟩
    rw [aset_keys] at this
    have key : ∀ j, j ∈ es.map (·.1) → ok j := fun j hj => by obtain ⟨r, hr, rfl⟩ := List.mem_map.1 hj; exact h.ok r hr
    split at this
    · exact key _ this
    · rcases List.mem_append.1 this with h | h
      · exact key _ h
      · simp at h; rw [h]; exact hk
  · rintro ⟨q1, q2⟩ hq
    have h1 := aget_of_mem (k := q1) (v := q2) hnd hq
    rw [aget_aset] at h1
    split at h1
    · cases h1; exact hv
    · exact h.rd _ (aget_mem' h1)
  · intro j
    show fset k v m j = _
    rw [aget_aset]
    unfold fset
    split
    · rfl
    · exact h.get j
variable {ops : Array Oper} {rest : List Oper} {o : Oper} {a : Act} {W : List Oper → Act → World → Prop} {N : Fs} {sl : List (Nat × Value)} {d : Nat} {x y z : Operand}
/-- A map, behind or before its entry k is made: what is found at k is told. -/
def HP.mi (b : Nat) (ek : κ → Value) (agg : Bool) (R : Rp β) (ok : κ → Prop) (m : κ → Option β) (k : κ) (z0 : β) : HP :=
  HP.of (fun B w S => (∃ (es : List (κ × (List Value × β))) (m' : κ → Option β), EsOk R ok B es m' ∧ (m' k).getD z0 = (m k).getD z0 ∧ MapW w b (ment ek agg es)) ∧ S b)
    (fun ⟨⟨es, m', h1, h2, raw, c, h3, h4⟩, h5⟩ hS => ⟨⟨es, m', h1, h2, raw, c, by rw [hS _ h5]; exact h3, h4⟩, h5⟩)
    (fun ⟨⟨es, m', h1, h2⟩, h5⟩ hl => ⟨⟨es, m', h1.mono hl, h2⟩, h5⟩)
end
section
variable {κ β : Type} [DecidableEq κ] {R : Rp β} {P : Program} {T K E : TypeId} {ek : κ → Value} {ok : κ → Prop} {agg : Bool} {w0 w : World} {b : Nat} {m : κ → Option β} {ls : List HP} {ops : Array Oper} {rest : List Oper} {o : Oper} {a : Act} {W : List Oper → Act → World → Prop} {N : Fs} {sl : List (Nat × Value)} {x y : Operand}
end
end Go.Tri

/- Data: more conversions; bytes over an owned slice. -/
set_option linter.unusedSimpArgs false
set_option linter.unusedVariables false
namespace Go.Tri
open Go.RowKit
section
variable {P : Program} {T E e : TypeId} {w0 w : World} {ls : List HP} {ops : Array Oper} {rest : List Oper} {o : Oper} {a : Act} {W : List Oper → Act → World → Prop} {N : Fs} {sl : List (Nat × Value)} {d : Nat} {x y z : Operand}
theorem run_convSl (hT : P.underlying T = some (.slice E)) (hE : P.underlying E = some (.int .u8)) {b n c k : Nat} {u : TypeId} (hs : w.shape? b = some (u, k)) : (convert T T (.slice (some ⟨b, 0, none⟩) n c)).run P w = .ok (.slice (some ⟨b, 0, none⟩) n c) (w.freeze ⟨b, k, none⟩ 1) := by
  unfold convert
  rw [Sem.run_bind, Go.Tri.run_underlying hT]
  simp only [Result.andThen_ok]
  rw [Sem.run_bind, Go.Tri.run_underlying hT]
  simp only [Result.andThen_ok]
  rw [Sem.run_bind, Go.Tri.run_underlying hE]
  simp [markStringish, hs]
theorem freeze_oth {w : World} {b k j : Nat} (h : j ≠ b) : (w.freeze ⟨b, k, none⟩ 1).heap[j]? = w.heap[j]? := by
  unfold World.freeze
  rw [if_neg (by decide)]
  simp [Array.getElem?_modify, Ne.symm h]
theorem freeze_at {w : World} {b k : Nat} {c : Array Value} {u : TypeId} {r : Nat × Nat} (h : w.heap[b]? = some (.cells c u r)) : ∃ r', (w.freeze ⟨b, k, none⟩ 1).heap[b]? = some (.cells c u r') := by
  unfold World.freeze
  rw [if_neg (by decide)]
  simp only [Array.getElem?_modify, if_true, h, Option.map_some]
  obtain ⟨lo, hi⟩ := r
  exact ⟨_, rfl⟩
theorem freeze_rest (w : World) (b k : Nat) : (w.freeze ⟨b, k, none⟩ 1).os = w.os ∧ (w.freeze ⟨b, k, none⟩ 1).tape = w.tape ∧ (w.freeze ⟨b, k, none⟩ 1).output = w.output ∧ (w.freeze ⟨b, k, none⟩ 1).heap.size = w.heap.size := by
  unfold World.freeze
  rw [if_neg (by decide)]
  simp
/-- A block of bytes that may be marked. -/
def HP.bm (b cap : Nat) (xs : List UInt8) : HP := HP.of (fun _ w S => (∃ (c : Array Value) (u : TypeId) (r : Nat × Nat), w.heap[b]? = some (.cells c u r) ∧ xs.length ≤ cap ∧ c.toList.take xs.length = bcells xs) ∧ S b)
    (fun ⟨⟨c, u, r, h1, h2⟩, h3⟩ hS => ⟨⟨c, u, r, by rw [hS _ h3]; exact h1, h2⟩, h3⟩)
    (fun h _ => h)
theorem St.bmFrz {b cap : Nat} {xs : List UInt8} (H : St w0 w (HP.bm b cap xs :: ls)) : St w0 w (HP.sl rByte (some ⟨b, 0, none⟩) cap xs :: ls) :=
  H.freezeH fun {B B'} S h _ hw => ⟨_, rdl_bytes B' xs, fun w' hw' => by
    obtain ⟨⟨c, u, r, h1, h2, h3⟩, hS⟩ := h
    have hb := hw w' hw' b hS
    rw [rdl_bytes_flat (rdl_bytes B' xs)]
    refine .inr (.inr ⟨b, 0, cap, rfl, h2, fun j v hj => ?_⟩)
    have hj2 : c[j]? = some v := by
      rw [← h3, List.getElem?_take] at hj
      split at hj
      · simpa using hj
      · cases hj
    unfold World.cell?
    rw [hb, h1]; simpa using hj2⟩
theorem s_convSl (kw : Walk P ops W) (F : Fr N a sl) (hg : o.guard = none) (hd : o.dst = some d) (hN : Nat.blt d N.n = true) (hT : P.underlying T = some (.slice E)) (hE : P.underlying E = some (.int .u8)) (ho : o.op = .convert T T x) {b cap : Nat} {xs : List UInt8} (hx : ev sl x = some (.slice (some ⟨b, 0, none⟩) xs.length cap))
    (H : St w0 w ls) (i : Nat) (hi : ls[i]? = some (HP.ow rByte e (some ⟨b, 0, none⟩) cap xs))
    (hk : ∀ w' a', St w0 w' (HP.sl rByte (some ⟨b, 0, none⟩) cap xs :: ls.eraseIdx i) → Fr N a' ((d, .slice (some ⟨b, 0, none⟩) xs.length cap) :: sl) → W rest a' w') : W (o :: rest) a w := by
  have H1 := H.mv i hi
  obtain ⟨B, S, hs, ⟨css, h1, ⟨hl, hh⟩, hS⟩, _⟩ := H1.get 0 rfl
  rw [rdl_bytes_flat h1] at hh hl
  have hshape : ∃ c, w.heap[b]? = some (.cells c e (0, 0)) ∧ xs.length ≤ cap ∧ c.toList.take xs.length = bcells xs := by
    rcases hh with ⟨h, _⟩ | ⟨g, cap', cur, h, _, hg', hnc, _, _, ht⟩
    · cases h
    · cases h
      have e1 : rByte.n = 1 := rfl
      rw [e1, Nat.mul_one] at ht
      exact ⟨cur, hg', hnc, ht⟩
  obtain ⟨c, hc, hcap, htk⟩ := hshape
  have hsh : w.shape? b = some (e, c.size) := by simp [World.shape?, hc]
  refine s_val (w' := w.freeze ⟨b, c.size, none⟩ 1) (v := .slice (some ⟨b, 0, none⟩) xs.length cap) kw F hg hd hN (by rw [ho]; rfl) ?_ fun a' F' => hk _ a' ?_ F'
  · unfold execOp
    simp only [ho, F.eval hx]
    rw [Sem.run_bind, run_convSl hT hE hsh]; rfl
  · obtain ⟨r1, r2, r3, r4⟩ := freeze_rest w b c.size
    refine St.bmFrz (H1.upd 0 (A' := HP.bm b cap xs) rfl (fun {B} S hA hS => ⟨S, ?_, fun b hb => .inl hb, fun b hb => by rw [r4]; exact (hS b hb).1, fun j _ hn => ?_⟩) r1 r2 r3 (by rw [r4]; exact Nat.le_refl _))
    · obtain ⟨css, _, _, hSb⟩ := hA
      obtain ⟨r', hr'⟩ := freeze_at (k := c.size) hc
      exact ⟨⟨c, e, r', hr', hcap, htk⟩, hSb b rfl⟩
    · refine freeze_oth fun e2 => hn ?_
      obtain ⟨css, _, _, hSb⟩ := hA
      rw [e2]; exact hSb b rfl
end
section
variable {P : Program} {ops : Array Oper} {C : World → Prop} {K : Act → World → Prop} {N : Fs} {a : Act} {l : List (Nat × Value)} {w : World} {i d : Nat} {o : Oper} {r : Sc} {v : Value}
theorem heavy_on {M : Act → World → Prop} (hw : Region.wanted o (yielded ops a.tmps) = true) (h : wpList P ops (Exit.then M (fun _ _ _ => False)) [o] a w) : o.wp P a w M (fun _ _ _ => False) := by
  unfold wpList at h
  rw [if_pos hw] at h
  rcases h with h | ⟨_, _, _, h⟩
  · unfold Oper.wp at *
    generalize (execOp a.eval o).run P w = r at *
    cases r with
    | ok n w' =>
      cases n <;> simp only [Oper.upon] at h ⊢
      case value v => exact h
      case skip => exact h
      case defer d => exact h
      case enter f args =>
        refine Calls.mono h fun e w'' he => ?_
        cases e with
        | returned u => exact he
        | panicked c => exact he
        | outgrown => obtain ⟨_, _, h⟩ := he; exact h.elim
      case row row args => exact h
    | halt x w' =>
      cases x <;> simp only [Oper.upon] at h ⊢
      case panic v => exact h
  · exact h.elim
theorem m_heavyOn {s : Nat} {bb : Bool} {g : Nat} {og : Oper} (F : Fr N a l) (hi : ops[i]? = some o) (hgd : o.guard = some (g, bb)) (hog : ops[g]? = some og) (hog2 : og.dst = some s) (hv : lk s l = some (.bool bb)) (h : wpList P ops (Exit.then (fun a' w' => C w' ∧ wpMix P ops C K r a' w') (fun _ _ _ => False)) [o] a w) : wpMix P ops C K (.step 2 i r) a w :=
  ⟨o, hi, fun hw => heavy_on hw h, fun hw => by rw [want_on F hgd hog hog2 hv] at hw; cases hw⟩
end
section
variable {P : Program} {t t' e : TypeId} {o : Oper} {a : Act} {w : World} {N : Fs} {sl : List (Nat × Value)} {x y : Operand}
end
end Go.Tri

