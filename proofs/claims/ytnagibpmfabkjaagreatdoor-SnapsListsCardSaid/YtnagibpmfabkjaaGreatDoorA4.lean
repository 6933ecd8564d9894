import Derived.Test.YtnagibpmfabkjaaGreatDoorA3
import Derived.Test.YtnagibpmfabkjaaGreatDoorA2
import Derived.DeepKeys3
import Derived.WideKeyRuns
import Derived.OrdersIn
import Derived.MapKept
import GoSem.Instr.MapEntry
import Derived.Lib.ConvBytes
/- Data: maps whose keys and values are plain. -/
set_option linter.unusedSimpArgs false
set_option linter.unusedVariables false
namespace Go.Tri
open Go.RowKit
/-- A digest as a value. -/
def hv (h : List UInt8) : Value := .agg (bcells h).toArray
theorem map_eraseIdx {α β : Type} (f : α → β) : ∀ (l : List α) (j : Nat), (l.eraseIdx j).map f = (l.map f).eraseIdx j
  | [], _ => rfl
  | _ :: _, 0 => rfl
  | x :: l, j + 1 => by simp [map_eraseIdx f l j]
/-- Keys are put out of a map. -/
def adel {κ β : Type} [DecidableEq κ] (k : κ) (l : List (κ × β)) : List (κ × β) := match l with
  | [] => []
  | p :: r => if p.1 = k then r else p :: adel k r
section
variable {κ β : Type} [DecidableEq κ] {ek : κ → Value} {ev' : β → Value}
theorem aget_map {vv : β → Value} (k : κ) : ∀ kv : List (κ × β), aget k (kv.map fun p => (p.1, vv p.2)) = (aget k kv).map vv
  | [] => rfl
  | (k', v) :: r => by
    simp only [List.map_cons, aget]
    split
    · rfl
    · exact aget_map k r
theorem aset_map {vv : β → Value} (k : κ) (v : β) : ∀ kv : List (κ × β), aset k (vv v) (kv.map fun p => (p.1, vv p.2)) = (aset k v kv).map fun p => (p.1, vv p.2)
  | [] => rfl
  | (k', u) :: r => by
    simp only [List.map_cons, aset]
    split
    · rfl
    · simp [aset_map k v r]
variable {P : Program} {T K E : TypeId} {ok : κ → Prop} {ov : β → Prop} {vv : β → Value} {w0 w : World} {b : Nat} {kv : List (κ × β)} {ls : List HP} {ops : Array Oper} {rest : List Oper} {o : Oper} {a : Act} {W : List Oper → Act → World → Prop} {N : Fs} {sl : List (Nat × Value)} {d : Nat} {x y z : Operand}
omit [DecidableEq κ] in
theorem adel_map [DecidableEq κ] {vv : β → Value} (k : κ) : ∀ kv : List (κ × β), adel k (kv.map fun p => (p.1, vv p.2)) = (adel k kv).map fun p => (p.1, vv p.2)
  | [] => rfl
  | (k', v) :: r => by
    simp only [List.map_cons, adel]
    split
    · rfl
    · simp [adel_map k r]
theorem adel_sub (k : κ) : ∀ (kv : List (κ × β)) (p : κ × β), p ∈ adel k kv → p ∈ kv
  | [], p, h => h
  | q :: r, p, h => by
    simp only [adel] at h
    split at h
    · exact List.mem_cons_of_mem _ h
    · rcases List.mem_cons.1 h with rfl | h
      · simp
      · exact List.mem_cons_of_mem _ (adel_sub k r p h)
theorem findI_del (k : κ) : ∀ (l : List (κ × Value)) (i : Nat), (∀ j u, findI k l i = some (j, u) → i ≤ j ∧ adel k l = l.eraseIdx (j - i)) ∧ (findI k l i = none → adel k l = l)
  | [], i => ⟨fun j u h => by simp [findI] at h, fun _ => rfl⟩
  | (k', v) :: r, i => by
    simp only [findI, adel]
    split
    · refine ⟨fun j u h => ?_, fun h => by cases h⟩
      cases h
      exact ⟨Nat.le_refl _, by simp⟩
    · obtain ⟨h1, h2⟩ := findI_del k r (i + 1)
      refine ⟨fun j u h => ?_, fun h => by rw [h2 h]⟩
      obtain ⟨h3, h4⟩ := h1 j u h
      refine ⟨by omega, ?_⟩
      rw [h4, show j - i = (j - (i + 1)) + 1 by omega, List.eraseIdx_cons_succ]
theorem run_deleteW {l : List (κ × Value)} {t' : TypeId} (hT : P.underlying T = some (.map K E)) (hK : KeyT P K ek ok) (h : MapW w b (mkv ek l)) (hok : ∀ p ∈ l, ok p.1) (k : κ) (hk : ok k) (ty : TypeId) :
    ∃ w', (Builtin.delete_ #[T, t'] ty #[.map (some b), ek k]).run P w = .ok (.tuple #[]) w' ∧ MapW w' b (mkv ek (adel k l)) ∧ Chg b w w' := by
  obtain ⟨es, c, hb, he, hnd, hlt⟩ := h
  have hbl : b < w.heap.size := (Array.getElem?_eq_some_iff.1 hb).1
  have hf := hK.find k es.toList l w hk hok he
  have hpre : (Builtin.delete_ #[T, t'] ty #[.map (some b), ek k]).run P w = ((match findI k l 0 with
      | some (i, _) => do
        setObj b (.map (es.eraseIdxIfInBounds i) c)
        pure (.tuple #[])
      | none => do
        setObj b (.map es c)
        pure (.tuple #[]) : Sem Value)).run P w := by
    unfold Builtin.delete_
    simp only [List.getElem?_toArray, List.getElem?_cons_zero, List.getElem?_cons_succ]
    rw [Sem.run_bind, run_underlying hT]
    simp only [Result.andThen_ok]
    rw [Sem.run_bind, run_getObj w b es c hb]
    simp only [Result.andThen_ok]
    rw [Sem.run_bind, hK.check _ k w hk]
    simp only [Result.andThen_ok]
    rw [Sem.run_bind, hf]
    simp only [Result.andThen_ok]
    rcases findI k l 0 with _ | ⟨i, u⟩ <;> rfl
  obtain ⟨d1, d2⟩ := findI_del k l 0
  cases hg : findI k l 0 with
  | none =>
    refine ⟨w.putObj b (.map es c), ?_, ⟨es, c, World.putObj_heap_same hbl, by rw [d2 hg]; exact he, hnd, hlt⟩, chg_putObj _ _ _⟩
    rw [hpre, hg]; show Sem.run P (do setObj b (.map es c); pure (Value.tuple #[])) w = _; rw [Sem.run_bind, run_setObj w b es c _ hb]; rfl
  | some p =>
    obtain ⟨j, u⟩ := p
    obtain ⟨_, h4⟩ := d1 j u hg
    rw [Nat.sub_zero] at h4
    have hto : (es.eraseIdxIfInBounds j).toList = es.toList.eraseIdx j := by simp
    refine ⟨w.putObj b (.map (es.eraseIdxIfInBounds j) c), ?_, ⟨_, c, World.putObj_heap_same hbl, ?_, ?_, ?_⟩, chg_putObj _ _ _⟩
    · rw [hpre, hg]; show Sem.run P (do setObj b (.map (es.eraseIdxIfInBounds j) c); pure (Value.tuple #[])) w = _; rw [Sem.run_bind, run_setObj w b es c _ hb]; rfl
    · rw [hto, h4]
      simp only [mkv, map_eraseIdx]
      rw [he]; rfl
    · rw [hto, map_eraseIdx]; exact hnd.sublist (List.eraseIdx_sublist _ _)
    · intro e he'
      rw [hto] at he'
      exact hlt e (List.mem_of_mem_eraseIdx he')
end
end Go.Tri

/- Data: noughts behind an owned slice; bytes over an owned slice. -/
set_option linter.unusedSimpArgs false
set_option linter.unusedVariables false
namespace Go.Tri
open Go.RowKit
section
variable {P : Program} {w0 w : World} {ls : List HP} {t ti e : TypeId} {bytes : Nat} {z : Value}
variable {ops : Array Oper} {rest : List Oper} {o : Oper} {a : Act} {W : List Oper → Act → World → Prop} {N : Fs} {sl : List (Nat × Value)} {d : Nat}
end
end Go.Tri

/- The engine: regions, loops and ends of functions that hold a range over a function. -/
set_option linter.unusedSimpArgs false
set_option linter.unusedVariables false
namespace Go.Tri
open Go.RowKit
theorem rows_in {P : Program} {row : String} {args : Array Value} {w : World} {R : Value → World → Prop} (ro : Option Nat) (h : Rows P row args w R) : RowsIn (FN ro) 0 P row args w R :=
  fun c cs _ => let ⟨v, w', r, s⟩ := h c cs; ⟨v, w', r, stepsIn_wide.2 s⟩
theorem oper_in {P : Program} {o : Oper} {a : Act} {w : World} {K : Act → World → Prop} {Q : Exit → Act → World → Prop} (ro : Option Nat) (hd : notDefer o.op = true) (h : o.wp P a w K Q) : o.wpIn (FN ro) 0 P a w K Q := by
  refine ⟨fun _ _ => trivial, ?_⟩
  rw [Oper.semAt_eq _ _ _ (notDefer_spec hd)]
  unfold Oper.wp at h
  generalize (execOp a.eval o).run P w = r at h ⊢
  cases r with
  | ok n w' =>
    cases n with
    | value v => exact h
    | skip => exact h
    | defer d => exact h
    | enter f args => exact ⟨(fun h => by cases h), callsI ro h⟩
    | row row args => exact ⟨(fun h => by cases h), rows_in ro h⟩
    | round l f tmps assign body => exact h.elim
    | _ => exact h.elim
  | halt x w' =>
    cases x <;> first | exact h | exact h.elim
theorem any_in {P : Program} {md : Region.Mode} {ops : Array Oper} {Q : Exit → Act → World → Prop} (ro : Option Nat) (hQ : ∀ a w, ¬ Q .outgrown a w) (hnd : ∀ (i : Nat) (o : Oper), ops[i]? = some o → notDefer o.op = true) :
    ∀ (f : Nat) (listed : Array Bool) (a : Act) (w : World), wpAny P md ops Q f listed a w → wpAnyIn (FN ro) 0 P md ops Q f listed a w
  | 0, _, _, _, h => h
  | f + 1, listed, a, w, h => by
    refine ⟨h.1, fun i hi => ?_⟩
    have h1 := h.2 i hi
    unfold wpOp at h1
    unfold wpOpIn
    cases ho : ops[i]? with
    | none => rw [ho] at h1; exact any_in ro hQ hnd f _ _ _ h1
    | some o =>
      rw [ho] at h1
      simp only at h1 ⊢
      by_cases hw : Region.wanted o (yielded ops a.tmps) = true
      · rw [if_pos hw] at h1 ⊢
        rcases h1 with h1 | ⟨_, x, y, h1⟩
        · exact oper_in ro (hnd i o ho) (Oper.wp_mono (fun a w => any_in ro hQ hnd f _ a w) h1)
        · exact (hQ _ _ h1).elim
      · rw [if_neg hw] at h1 ⊢
        exact ⟨fun _ _ => trivial, any_in ro hQ hnd f _ _ _ h1⟩
/-- A region in a round, by one order. -/
theorem mix_regionI {P : Program} {ro : Option Nat} {id : Nat} {Q : Exit → Act → World → Prop} {a : Act} {w : World} {l : List Oper} (hs hz : List Nat) (s : Sc) (C : World → Prop) (hm : P.follows .mixedOrders = true)
    (hB : (l.all (fun o => notDefer o.op) && (Region.noSelect l.toArray && schedB .any l.toArray (fun i => hs.contains i) (fun i => hz.contains i) s (Array.replicate l.toArray.size false) && (s.len == l.toArray.size))) = true) (hC : C w.drew)
    (h : wpMix P l.toArray C (Q .normal) s a w.drew) : (Code.region id l.toArray true).wpIn (FN ro) 0 P Q a w := by
  simp only [Bool.and_eq_true, beq_iff_eq] at hB
  obtain ⟨h0, ⟨h1, h2⟩, h3⟩ := hB
  have hnd : ∀ (i : Nat) (o : Oper), l.toArray[i]? = some o → notDefer o.op = true := by
    intro i o ho
    refine List.all_eq_true.1 h0 o ?_
    simp at ho
    exact List.mem_of_getElem? ho
  refine Go.wpIn_mono (Q := fun e a w => match e with | .normal => Q .normal a w | _ => False) (wpIn_region_any hm ?_) fun e a w h => by cases e <;> first | exact h | exact h.elim
  have := any_of_S (Q := fun e a w => match e with | .normal => Q .normal a w | _ => False) (fun a w h => h) _ _ _ _ (anyS_of_mix h1 s _ a w.drew h2 (.inr hC) h)
  rw [h3] at this
  exact any_in ro (fun _ _ h => h) hnd _ _ _ _ this
theorem xi_mid {P : Program} {ro : Option Nat} {x : Code} {Q : Exit → Act → World → Prop} {a : Act} {w : World} (M : Act → World → Prop) (hx : x.wpIn (FN ro) 0 P (Exit.then M Q) a w) (hy : ∀ a w, M a w → Q .normal a w) : x.wpIn (FN ro) 0 P Q a w :=
  Go.wpIn_mono hx fun e a w h => by cases e <;> first | exact hy a w h | exact h
/-- Out of the fence, and into it. -/
theorem outF {P : Program} {c : Code} {Q : Exit → Act → World → Prop} {a : Act} {w : World} (h : c.wp P Q a w) : c.wpIn (FN none) 0 P Q a w := (wpIn_wide (n := 0)).2 h
theorem inF {P : Program} {c : Code} {Q : Exit → Act → World → Prop} {a : Act} {w : World} (h : c.wpIn (FN none) 0 P Q a w) : c.wp P Q a w := (wpIn_wide (n := 0)).1 h

/-! ### Marks that such loops leave -/
def marks (Ds : List Nat) : List Deferred := Ds.map mark
def HP.mks (Ds : List Nat) : HP := HP.of (fun _ w S => Ds.Nodup ∧ ∀ D ∈ Ds, w.heap[D]? = some (.deferred (some [])) ∧ S D)
    (fun h hS => ⟨h.1, fun D hD => ⟨by rw [hS D (h.2 D hD).2]; exact (h.2 D hD).1, (h.2 D hD).2⟩⟩)
    (fun h _ => h)
theorem St.mks0 {w0 w : World} {l : List HP} (H : St w0 w l) : St w0 w (HP.mks [] :: l) := H.more fun _ _ _ => ⟨List.nodup_nil, fun D h => by simp at h⟩
theorem St.mks1 {w0 w : World} {l : List HP} {D : Nat} {Ds : List Nat} (H : St w0 w (HP.obj D (.deferred (some [])) :: HP.mks Ds :: l)) : St w0 w (HP.mks (D :: Ds) :: l) :=
  H.join fun S T h1 h2 hd => ⟨List.nodup_cons.2 ⟨fun hm => hd D h1.2 (h2.2 D hm).2, h2.1⟩, fun E hE => by
    rcases List.mem_cons.1 hE with rfl | hE
    · exact ⟨h1.1, .inl h1.2⟩
    · exact ⟨(h2.2 E hE).1, .inr (h2.2 E hE).2⟩⟩
theorem Sub.put {B : Base} {w : World} (h : Sub B w) {D : Nat} (hB : B D = none) (o : Obj) : Sub B (w.putObj D o) := by
  intro b x hb
  show (w.heap.setIfInBounds D o)[b]? = _
  rw [Array.getElem?_setIfInBounds, if_neg (fun e => by subst e; rw [hB] at hb; cases hb)]
  exact h b x hb
theorem leaves_marks {P : Program} {fn : Func} {R : Ending → World → Prop} {tmps : Array Value} {w0 : World} {l : List HP} {v : Value} : ∀ (Ds : List Nat) (w : World), St w0 w (HP.mks Ds :: l) → (∀ w, St w0 w l → (results fn tmps).run P w = .ok v w) → (∀ w, St w0 w l → R (.returned v) w) → LeavesInM (FN none) 0 P fn tmps R (marks Ds) .returning w
  | [], w, H, hr, h => ⟨v, hr w H.tail, h w H.tail⟩
  | D :: Ds, w, H, hr, h => by
    obtain ⟨hv, B, f, hs, h1, h2, h3⟩ := H
    have hm := h1 0 _ rfl
    have hD := hm.2 D (by simp)
    have hf0 := h3 0 D (by simp) hD.2
    have hnd := List.nodup_cons.1 hm.1
    have H2 : St w0 (w.putObj D (.deferred none)) (HP.mks Ds :: l) := by
      have hc := chg_putObj w D (.deferred none)
      refine ⟨⟨hc.os.trans hv.1, hc.tape.trans hv.2.1, hc.output.trans hv.2.2.1, by rw [hc.size]; exact hv.2.2.2⟩, B, fun i => match i with | 0 => fun b => b ≠ D ∧ f 0 b | i + 1 => f (i + 1), hs.put hf0.2.1 _, ?_, ?_, ?_⟩
      · intro i A hi
        cases i with
        | zero =>
          simp at hi; subst hi
          refine ⟨hnd.2, fun E hE => ⟨?_, fun e => hnd.1 (e ▸ hE), (hm.2 E (by simp [hE])).2⟩⟩
          rw [hc.oth E (fun e => hnd.1 (e ▸ hE))]; exact (hm.2 E (by simp [hE])).1
        | succ i =>
          have hi' : (HP.mks (D :: Ds) :: l)[i + 1]? = some A := by simpa using hi
          have hil := (List.getElem?_eq_some_iff.1 hi').1
          exact A.loc (h1 (i + 1) A hi') fun b hb => hc.oth b fun e => by subst e; have := h2 0 (i + 1) b (by simp) hil hD.2 hb; omega
      · intro i j b hi hj hfi hfj
        refine h2 i j b (by simpa using hi) (by simpa using hj) ?_ ?_
        · cases i with
          | zero => exact hfi.2
          | succ i => exact hfi
        · cases j with
          | zero => exact hfj.2
          | succ j => exact hfj
      · intro i b hi hf
        rw [hc.size]
        refine h3 i b (by simpa using hi) ?_
        cases i with
        | zero => exact hf.2
        | succ i => exact hf
    refine ⟨by simp, .inl ⟨D, _, rfl, run_takeDeferred hD.1, ?_⟩⟩
    exact leaves_marks Ds _ H2 hr h
section
variable {P : Program} {fn : Func} {R : Ending → World → Prop} {a : Act} {w0 w : World} {N : Nat} {Ds : List Nat} {l : List (Nat × Value)} {ls : List HP}
theorem xk_leave {v : Value} (F : Fr ⟨N, marks Ds⟩ a l) (H : St w0 w (HP.mks Ds :: ls)) (hr : ∀ w, St w0 w ls → (results fn a.tmps).run P w = .ok v w) (h : ∀ w, St w0 w ls → R (.returned v) w) : LeavesInM (FN none) 0 P fn a.tmps R a.defers .returning w := by
  rw [F.defers]; exact leaves_marks Ds w H hr h
end
/-- A function with such loops. -/
theorem xk_enter {P : Program} {f : FuncId} {fn : Func} {c : Code} {args : List Value} {w : World} {R : Ending → World → Prop} {N : Nat}
    (hf : P.funcs[f]? = some fn) (hb : fn.body = some c) (hN : fn.ntmps = N) (hle : Nat.ble args.length N = true)
    (h : ∀ a, Fr ⟨N, marks []⟩ a (numL 0 args) → c.wp P (bodyPostM (FN none) 0 P fn R) a w) : Calls P f args.toArray w R :=
  xi_enter hf hb hN hle fun a F => outF (h a F)

/-! ### A range over a function, told by a fold -/
def foldO {σ β ρ : Type} (f : σ → β → Option (σ ⊕ ρ)) : σ → List β → Option (σ ⊕ ρ)
  | s, [] => some (.inl s)
  | s, x :: xs => (f s x).bind fun o => match o with | .inl s' => foldO f s' xs | .inr r => some (.inr r)
theorem foldO_rn {σ ι α β ρ : Type} {f : σ → β → Option (σ ⊕ ρ)} {pj : α → β} : ∀ {pre post : List α} {g0 g : σ × ι}, Rn (fun (g : σ × ι) x (g' : σ × ι) => f g.1 (pj x) = some (.inl g'.1)) g0 pre g → foldO f g0.1 ((pre ++ post).map pj) = foldO f g.1 (post.map pj)
  | [], _, _, _, h => by cases h; rfl
  | x :: pre, post, g0, g, ⟨g1, h1, h2⟩ => by
    show (f g0.1 (pj x)).bind _ = _
    rw [h1]
    exact foldO_rn h2
def roundQ {σ ι ρ κ : Type} (w0 : World) (J : σ → ι → List HP) (K : ρ → κ → List HP) (jmp : ρ → Code) (o : σ ⊕ ρ) (fr : List HP) : Exit → Act → World → Prop
  | .normal, _, w => ∃ s i, o = .inl s ∧ St w0 w (J s i ++ fr)
  | .ret, _, w => ∃ r i, o = .inr r ∧ jmp r = .ret ∧ St w0 w (K r i ++ fr)
  | .exit n, _, w => ∃ r i, o = .inr r ∧ jmp r = .exit n ∧ St w0 w (K r i ++ fr)
  | _, _, _ => False
theorem perm_m {A B C : List HP} {m : HP} : (A ++ (B ++ m :: C)).Perm (m :: (A ++ (B ++ C))) := by
  rw [← List.append_assoc, ← List.append_assoc]; exact List.perm_middle
theorem x_range {P : Program} {N : Nat} {Ds : List Nat} {a : Act} {l : List (Nat × Value)} {w0 w : World} {g : Operand} {ps : List Nat} {assign body : Code} {Q : Exit → Act → World → Prop} {gf : FuncId} {lb : List Value} {σ ι ρ κ α β Mid : Type} {enc : α → List Value} {own fr : List HP} {zs : List α} (pj : α → β)
    (F : Fr ⟨N, marks Ds⟩ a l) (hg : ev l g = some (.func (.func gf) #[] lb.toArray)) (eg : ∀ args w, (callFunc gf args).run P w = .ok (.enter gf args) w) (hS : SeqC P gf lb enc own (fun xs x => ∃ ys, zs = xs ++ x :: ys) (fun xs => xs = zs))
    (J : σ → ι → List HP) (K : ρ → κ → List HP) (jmp : ρ → Code) (f : σ → β → Option (σ ⊕ ρ)) (s0 : σ) (i0 : ι) {o : σ ⊕ ρ} (hm : foldO f s0 (zs.map pj) = some o)
    (H : St w0 w (HP.mks Ds :: (J s0 i0 ++ (own ++ fr)))) (hps : ∀ x, (enc x).length = ps.length) (hpN : ps.all (Nat.blt · N) = true)
    (ml : σ → ι → α → Mid → List (Nat × Value)) (mi : σ → ι → α → Mid → List HP)
    (hassign : ∀ L s i x a1 W fr, x ∈ zs → Fr ⟨N, []⟩ a1 (bindL ps (enc x) l) → St w0 W (J s i ++ fr) →
      assign.wpIn (FN (some L)) 0 P (Exit.then (fun a2 w2 => ∃ m, Fr ⟨N, []⟩ a2 (ml s i x m) ∧ St w0 w2 (mi s i x m ++ fr)) (fun _ _ _ => False)) a1 W)
    (hbody : ∀ L s i x m o a1 W fr, x ∈ zs → f s (pj x) = some o → Fr ⟨N, []⟩ a1 (ml s i x m) → St w0 W (mi s i x m ++ fr) → body.wpIn (FN (some L)) 0 P (roundQ w0 J K jmp o fr) a1 W)
    (hdone : ∀ s i Ds a1 W, o = .inl s → Fr ⟨N, marks Ds⟩ a1 l → St w0 W (HP.mks Ds :: (J s i ++ (own ++ fr))) → Q .normal a1 W)
    (hstop : ∀ r i Ds a1 W, o = .inr r → Fr ⟨N, marks Ds⟩ a1 l → St w0 W (HP.mks Ds :: (K r i ++ (own ++ fr))) → (jmp r).wp P Q a1 W) :
    (Code.rangeFunc g ps.toArray assign body).wp P Q a w := by
  refine inF (xi_range (G := σ × ι) (E := ρ × κ) (fr := HP.mks Ds :: fr) F hg eg hS (fun g => J g.1 g.2) (fun k => K k.1 k.2) (fun k => jmp k.1) (fun g x g' => f g.1 (pj x) = some (.inl g'.1)) (fun g x k => f g.1 (pj x) = some (.inr k.1)) (s0, i0) (H.perm perm_m.symm) hps hpN (fun g x m => ml g.1 g.2 x m) (fun g x m => mi g.1 g.2 x m) ?_ ?_ ?_ ?_)
  · rintro L xs g x a1 W fr ⟨ys, hz⟩ _ F1 H1
    exact hassign L g.1 g.2 x a1 W fr (by rw [hz]; simp) F1 H1
  · rintro L xs g x m a1 W fr ⟨ys, hz⟩ hrn F1 H1
    have hf : ∃ o1, f g.1 (pj x) = some o1 := by
      rw [hz, foldO_rn hrn] at hm
      simp only [List.map_cons, foldO] at hm
      obtain ⟨o1, h1, _⟩ := ob hm
      exact ⟨o1, h1⟩
    obtain ⟨o1, hf⟩ := hf
    refine Go.wpIn_mono (hbody L g.1 g.2 x m o1 a1 W fr (by rw [hz]; simp) hf F1 H1) fun e a2 w2 h => ?_
    cases e with
    | normal => obtain ⟨s, i, rfl, h⟩ := h; exact ⟨(s, i), hf, h⟩
    | ret => obtain ⟨r, i, rfl, hj, h⟩ := h; exact ⟨(r, i), hf, hj, h⟩
    | exit n => obtain ⟨r, i, rfl, hj, h⟩ := h; exact ⟨(r, i), hf, hj, h⟩
    | _ => exact h.elim
  · rintro D xs g a1 W rfl hrn F1 H1
    have := foldO_rn (post := []) hrn
    rw [List.append_nil, hm] at this
    exact hdone g.1 g.2 (D :: Ds) a1 W (Option.some.inj this) F1 (St.mks1 (H1.perm (List.Perm.cons _ perm_m)))
  · rintro D xs g x k a1 W ⟨ys, hz⟩ hrn hst F1 H1
    have h1 := hm
    rw [hz, foldO_rn hrn] at h1
    simp only [List.map_cons, foldO, hst] at h1
    exact outF (hstop k.1 k.2 (D :: Ds) a1 W (Option.some.inj h1).symm F1 (St.mks1 (H1.perm (List.Perm.cons _ perm_m))))

/-! ### Results, in slots or in cells -/
def RV (P : Program) (l : List (Nat × Value)) (w : World) : ResultVar → Value → Prop
  | .tmp t, v => lk t l = some v
  | .cell t ty, v => ∃ ad, lk t l = some (.pointer (some ad)) ∧ (loadVar ty ad).run P w = .ok v w
def rvSem (tmps : Array Value) : ResultVar → Sem Value
  | .tmp t => pure (tmps.getD t undef)
  | .cell a t => do loadVar t (← asAddr (tmps.getD a undef))
section
variable {P : Program} {fn : Func} {a : Act} {w : World} {M : Fs} {l : List (Nat × Value)}
theorem RV.run (F : Fr M a l) {r : ResultVar} {v : Value} (h : RV P l w r v) : (rvSem a.tmps r).run P w = .ok v w := by
  cases r with
  | tmp t =>
    have := F.get t v h
    simp [rvSem, this]
  | cell t ty =>
    obtain ⟨ad, h1, h2⟩ := h
    have := F.get t _ h1
    simp [rvSem, this, asAddr, h2]
theorem run_res1 (F : Fr M a l) {r : ResultVar} {v : Value} (hr : fn.results = #[r]) (h : RV P l w r v) : (results fn a.tmps).run P w = .ok v w := by
  have h1 := h.run F
  have : results fn a.tmps = (do let x ← rvSem a.tmps r; pure x) := by
    unfold results; rw [hr]; simp [rvSem]; cases r <;> rfl
  rw [this]; simpa using h1
theorem run_resC2 (F : Fr M a l) {r s : ResultVar} {v u : Value} (hr : fn.results = #[r, s]) (h : RV P l w r v) (k : RV P l w s u) : (results fn a.tmps).run P w = .ok (.tuple [v, u].toArray) w := by
  have h1 := h.run F
  have h2 := k.run F
  have : results fn a.tmps = (do let x ← rvSem a.tmps r; let y ← rvSem a.tmps s; pure (.tuple #[x, y])) := by
    unfold results; rw [hr]; simp [rvSem]; cases r <;> cases s <;> rfl
  rw [this, Sem.run_bind, h1]
  simp only [Result.andThen_ok]
  rw [Sem.run_bind, h2]; rfl
theorem ld1 {t : TypeId} {b off : Nat} {v : Value} (hP : Plain P t) (hc : w.cell? ⟨b, off, none⟩ = some v) : (loadVar t ⟨b, off, none⟩).run P w = .ok v w := by
  simp [loadVar, hP.run_isAgg, run_load, hc]
end
section
variable {P : Program} {fn : Func} {R : Ending → World → Prop} {a : Act} {w0 w : World} {N : Nat} {Ds : List Nat} {l : List (Nat × Value)} {ls : List HP} {r s t : ResultVar} {v u x : Value}
theorem x_resC1 (F : Fr ⟨N, []⟩ a l) (hr : fn.results = #[r]) (h1 : RV P l w r v) (h : R (.returned v) w) : bodyPost P fn R .ret a w := bodyPost_ret (run_res1 F hr h1) F.defers h
theorem x_resC2 (F : Fr ⟨N, []⟩ a l) (hr : fn.results = #[r, s]) (h1 : RV P l w r v) (h2 : RV P l w s u) (h : R (.returned (.tuple [v, u].toArray)) w) : bodyPost P fn R .ret a w := bodyPost_ret (run_resC2 F hr h1 h2) F.defers h
theorem xk_resC1 (F : Fr ⟨N, marks Ds⟩ a l) (hr : fn.results = #[r]) (H : St w0 w (HP.mks Ds :: ls)) (h1 : ∀ w, St w0 w ls → RV P l w r v) (h : ∀ w, St w0 w ls → R (.returned v) w) : bodyPostM (FN none) 0 P fn R .ret a w := xk_leave F H (fun w H => run_res1 F hr (h1 w H)) h
end
/-! ### Slices from the end -/
section
variable {σ ι ρ κ : Type} {w0 w : World} {J : σ → ι → List HP} {K : ρ → κ → List HP} {jmp : ρ → Code} {fr : List HP} {a : Act}
theorem rq_n {o : σ ⊕ ρ} (s : σ) (i : ι) (h : o = .inl s) (H : St w0 w (J s i ++ fr)) : roundQ w0 J K jmp o fr .normal a w := ⟨s, i, h, H⟩
end
theorem flatK_at {K : Nat} : ∀ {css : List (List Value)}, (∀ c ∈ css, c.length = K) → ∀ {j : Nat} {cj : List Value}, css[j]? = some cj → (css.flatten.drop (j * K)).take K = cj
  | [], _, j, cj, h => by simp at h
  | c :: css, hk, 0, cj, h => by
    simp at h; subst h
    have := hk c (by simp)
    simp [List.take_append, this]
  | c :: css, hk, j + 1, cj, h => by
    have h1 := hk c (by simp)
    have ih := flatK_at (css := css) (fun d hd => hk d (by simp [hd])) (j := j) (by simpa using h)
    rw [Nat.succ_mul, List.flatten_cons, Nat.add_comm, ← List.drop_drop, List.drop_left' h1]
    exact ih
end Go.Tri

/- Data: maps as functions; their values read as anything. -/
set_option linter.unusedSimpArgs false
set_option linter.unusedVariables false
namespace Go.Tri
open Go.RowKit
/-! ### Lists of pairs as functions -/
section
variable {κ β : Type} [DecidableEq κ]
theorem aget_aset {β : Type} (j k : κ) (v : β) : ∀ l : List (κ × β), aget j (aset k v l) = if j = k then some v else aget j l
  | [] => by
    simp only [aset, aget]
    by_cases h : j = k
    · subst h; simp
    · simp [h, Ne.symm h]
  | (k', u) :: l => by
    simp only [aset]
    by_cases hk : k' = k
    · subst hk
      simp only [if_true, aget]
      by_cases h : j = k'
      · subst h; simp
      · simp [h, Ne.symm h]
    · simp only [if_neg hk, aget]
      rw [aget_aset j k v l]
      by_cases h : k' = j
      · subst h; simp [hk]
      · simp [h]
theorem aset_keys {β : Type} (k : κ) (v : β) : ∀ l : List (κ × β), (aset k v l).map (·.1) = if k ∈ l.map (·.1) then l.map (·.1) else l.map (·.1) ++ [k]
  | [] => by simp [aset]
  | (k', u) :: l => by
    simp only [aset]
    by_cases hk : k' = k
    · subst hk; simp
    · simp only [if_neg hk, List.map_cons, aset_keys k v l]
      have : ¬ k = k' := fun e => hk e.symm
      by_cases hm : k ∈ l.map (·.1)
      · simp only [hm, if_true]; simp [hm]
      · simp only [hm, if_false]; simp [hm, this]
theorem aget_none {β : Type} {k : κ} : ∀ {l : List (κ × β)}, k ∉ l.map (·.1) → aget k l = none
  | [], _ => rfl
  | (k', u) :: l, h => by
    simp only [List.map_cons, List.mem_cons, not_or] at h
    simp only [aget, if_neg (fun e : k' = k => h.1 e.symm)]
    exact aget_none h.2
theorem aget_mem' {β : Type} {k : κ} {v : β} : ∀ {l : List (κ × β)}, aget k l = some v → (k, v) ∈ l
  | [], h => by simp [aget] at h
  | (k', u) :: l, h => by
    simp only [aget] at h
    split at h
    · rename_i e; subst e; cases h; simp
    · exact List.mem_cons_of_mem _ (aget_mem' h)
theorem aget_of_mem {β : Type} {k : κ} {v : β} : ∀ {l : List (κ × β)}, (l.map (·.1)).Nodup → (k, v) ∈ l → aget k l = some v
  | [], _, h => by simp at h
  | (k', u) :: l, hn, h => by
    simp only [List.map_cons, List.nodup_cons] at hn
    rcases List.mem_cons.1 h with h | h
    · cases h; simp [aget]
    · simp only [aget]
      rw [if_neg, aget_of_mem hn.2 h]
      intro e; subst e
      exact hn.1 (List.mem_map.2 ⟨_, h, rfl⟩)
theorem aget_adel {β : Type} (j k : κ) : ∀ l : List (κ × β), (l.map (·.1)).Nodup → aget j (adel k l) = if j = k then none else aget j l
  | [], _ => by simp [adel, aget]
  | (k', u) :: l, hn => by
    simp only [List.map_cons, List.nodup_cons] at hn
    simp only [adel]
    by_cases hk : k' = k
    · subst hk
      simp only [if_true, aget]
      by_cases h : j = k'
      · subst h; simp [aget_none hn.1]
      · simp [h, Ne.symm h]
    · simp only [if_neg hk, aget]
      rw [aget_adel j k l hn.2]
      by_cases h : k' = j
      · subst h; simp [hk]
      · simp [h]
theorem adel_keys {β : Type} (k : κ) : ∀ l : List (κ × β), (adel k l).map (·.1) = (l.map (·.1)).erase k
  | [] => by simp [adel]
  | (k', u) :: l => by
    simp only [adel]
    by_cases hk : k' = k
    · subst hk; simp
    · simp [hk, adel_keys k l, List.erase_cons]
/-- A map with a key more, and with one less. -/
def fset (k : κ) (x : β) (m : κ → Option β) : κ → Option β := fun j => if j = k then some x else m j
def fdel (k : κ) (m : κ → Option β) : κ → Option β := fun j => if j = k then none else m j
def fnil : κ → Option β := fun _ => none
/-- The pairs of a map, in some order. -/
def Enum (m : κ → Option β) (kv : List (κ × β)) : Prop := (kv.map (·.1)).Nodup ∧ ∀ k, m k = aget k kv
theorem Enum.perm {m : κ → Option β} {l l' : List (κ × β)} (h : Enum m l) (h' : Enum m l') : l.Perm l' := by
  have nd : ∀ {l : List (κ × β)}, (l.map (·.1)).Nodup → l.Nodup := fun {l} h => (List.pairwise_map.1 h).imp fun hne e => hne (by rw [e])
  refine (List.perm_ext_iff_of_nodup (nd h.1) (nd h'.1)).2 fun p => ?_
  obtain ⟨k, v⟩ := p
  constructor
  · intro hm
    exact aget_mem' (by rw [← h'.2, h.2]; exact aget_of_mem h.1 hm)
  · intro hm
    exact aget_mem' (by rw [← h.2, h'.2]; exact aget_of_mem h'.1 hm)
open Classical in
/-- How many keys a map has. -/
noncomputable def flen (m : κ → Option β) : Nat := if h : ∃ kv, Enum m kv then (Classical.choose h).length else 0
open Classical in
/-- What is the same in whatever order the pairs come. -/
noncomputable def detM {ρ : Type} (m : κ → Option β) (f : List (κ × β) → Option ρ) : Option ρ :=
  if h : (∃ kv, Enum m kv) ∧ ∃ r, ∀ kv, Enum m kv → f kv = some r then some (Classical.choose h.2) else none
theorem detM_some {ρ : Type} {m : κ → Option β} {f : List (κ × β) → Option ρ} {r : ρ} (h : detM m f = some r) : (∃ kv, Enum m kv) ∧ ∀ kv, Enum m kv → f kv = some r := by
  unfold detM at h
  split at h
  · rename_i hx
    cases h
    exact ⟨hx.1, Classical.choose_spec hx.2⟩
  · cases h
theorem detM_of {ρ : Type} {m : κ → Option β} {f : List (κ × β) → Option ρ} {r : ρ} {kv : List (κ × β)} (he : Enum m kv) (h : ∀ kv, Enum m kv → f kv = some r) : detM m f = some r := by
  have hx : (∃ kv, Enum m kv) ∧ ∃ r, ∀ kv, Enum m kv → f kv = some r := ⟨⟨kv, he⟩, r, h⟩
  unfold detM
  rw [dif_pos hx]
  have := Classical.choose_spec hx.2 kv he
  rw [h kv he] at this
  exact this.symm
end
/-! ### The piece -/
def mkV (agg : Bool) (cs : List Value) : Value := match agg with | true => .agg cs.toArray | false => cs.headD undef
section
variable {κ β : Type} [DecidableEq κ]
def ment (ek : κ → Value) (agg : Bool) (es : List (κ × (List Value × β))) : List (Value × Value) := mkv ek (es.map fun p => (p.1, mkV agg p.2.1))
structure EsOk (R : Rp β) (ok : κ → Prop) (B : Base) (es : List (κ × (List Value × β))) (m : κ → Option β) : Prop where
  nodup : (es.map (·.1)).Nodup
  ok : ∀ p ∈ es, ok p.1
  rd : ∀ p ∈ es, R.rd B p.2.1 p.2.2
  get : ∀ k, m k = (aget k es).map (·.2)
theorem EsOk.mono {R : Rp β} {ok : κ → Prop} {B B' : Base} {es : List (κ × (List Value × β))} {m : κ → Option β} (h : EsOk R ok B es m) (hl : B.le B') : EsOk R ok B' es m := ⟨h.nodup, h.ok, fun p hp => R.mono (h.rd p hp) hl, h.get⟩
/-- A map with these entries. -/
def HP.mx (p : Option Nat) (ek : κ → Value) (agg : Bool) (R : Rp β) (ok : κ → Prop) (es : List (κ × (List Value × β))) (m : κ → Option β) : HP :=
  HP.of (fun B w S => EsOk R ok B es m ∧ match p with | none => es = [] | some b => MapW w b (ment ek agg es) ∧ S b)
    (fun {B w w' S} h hS => by
    refine ⟨h.1, ?_⟩
    cases p with
    | none => exact h.2
    | some b =>
      obtain ⟨_, ⟨es, c, h1, h2⟩, h3⟩ := h
      exact ⟨⟨es, c, by rw [hS _ h3]; exact h1, h2⟩, h3⟩)
    (fun h hl => ⟨h.1.mono hl, h.2⟩)
def HP.mm (p : Option Nat) (ek : κ → Value) (agg : Bool) (R : Rp β) (ok : κ → Prop) (m : κ → Option β) : HP :=
  HP.of (fun B w S => ∃ es, (HP.mx p ek agg R ok es m).pr B w S)
    (fun ⟨es, h⟩ hS => ⟨es, HP.loc _ h hS⟩)
    (fun ⟨es, h⟩ hl => ⟨es, HP.mono _ h hl⟩)
variable {R : Rp β} {P : Program} {T K E : TypeId} {ek : κ → Value} {ok : κ → Prop} {agg : Bool} {w0 w : World} {b : Nat} {p : Option Nat} {m : κ → Option β} {es : List (κ × (List Value × β))} {ls : List HP}
theorem St.mmOpen (H : St w0 w ls) (i : Nat) (hi : ls[i]? = some (HP.mm p ek agg R ok m)) : ∃ es, St w0 w (ls.set i (HP.mx p ek agg R ok es m)) := by
  obtain ⟨B, H⟩ := H.out
  obtain ⟨hv, hs, f, h1, h2, h3⟩ := H
  obtain ⟨es, h4⟩ := h1 i _ hi
  have hil : i < ls.length := (List.getElem?_eq_some_iff.1 hi).1
  refine ⟨es, hv, B, f, hs, fun j E hj => ?_, by simpa using h2, by simpa using h3⟩
  rw [List.getElem?_set] at hj
  by_cases ee : i = j
  · subst ee; rw [if_pos rfl, if_pos hil] at hj; cases hj; exact h4
  · rw [if_neg ee] at hj; exact h1 j E hj
theorem St.mxShut (H : St w0 w ls) (i : Nat) (hi : ls[i]? = some (HP.mx p ek agg R ok es m)) : St w0 w (ls.set i (HP.mm p ek agg R ok m)) :=
  H.convAt i hi fun S h => ⟨es, h⟩
theorem St.mxOk (H : St w0 w ls) (i : Nat) (hi : ls[i]? = some (HP.mx p ek agg R ok es m)) : ∃ B, Sub B w ∧ EsOk R ok B es m ∧ match p with | none => es = [] | some b => MapW w b (ment ek agg es) := by
  obtain ⟨B, S, hs, h, _⟩ := H.get i hi
  refine ⟨B, hs, h.1, ?_⟩
  have h2 := h.2
  cases p with
  | none => exact h2
  | some b => exact h2.1
/-- What stands at a key, as cells. -/
def esGet (es : List (κ × (List Value × β))) (k : κ) (zc : List Value) : List Value := ((aget k es).map (·.1)).getD zc
theorem St.mxGet (H : St w0 w ls) (i : Nat) (hi : ls[i]? = some (HP.mx p ek agg R ok es m)) (k : κ) {zc : List Value} {z0 : β} (hz : ∀ B, R.rd B zc z0) : ∃ cs, esGet es k zc = cs ∧ St w0 w (HP.rc R cs ((m k).getD z0) :: ls) := by
  obtain ⟨B, H⟩ := H.out
  obtain ⟨S, h⟩ := H.at hi
  refine ⟨_, rfl, (H.more (A := HP.rc R (esGet es k zc) ((m k).getD z0)) ?_).st⟩
  show R.rd B _ _
  rw [h.1.get k]
  unfold esGet
  cases e : aget k es with
  | none => exact hz B
  | some q => exact h.1.rd _ (aget_mem' e)
variable {ops : Array Oper} {rest : List Oper} {o : Oper} {a : Act} {W : List Oper → Act → World → Prop} {N : Fs} {sl : List (Nat × Value)} {d : Nat} {x y z : Operand}
theorem s_mmNew (ek : κ → Value) (agg : Bool) (R : Rp β) (ok : κ → Prop) (k : Walk P ops W) (F : Fr N a sl) (hg : o.guard = none) (hd : o.dst = some d) (hN : Nat.blt d N.n = true) (ho : o.op = .makeMap T none) (H : St w0 w ls)
    (hk : ∀ b w' a', St w0 w' (HP.mm (some b) ek agg R ok fnil :: ls) → Fr N a' ((d, .map (some b)) :: sl) → W rest a' w') : W (o :: rest) a w :=
  s_makeMap k F hg hd hN ho H fun b w' a' H' F' => hk b w' a' (H'.conv fun S h => ⟨[], ⟨List.nodup_nil, by simp, by simp, fun k => rfl⟩, h⟩) F'
omit [DecidableEq κ] in
theorem es_ok (h : ∀ q ∈ es, ok q.1) : ∀ q ∈ es.map (fun p => (p.1, mkV agg p.2.1)), ok q.1 := fun q hq => by
  obtain ⟨r, hr, rfl⟩ := List.mem_map.1 hq; exact h r hr
theorem s_mmSet (kw : Walk P ops W) (F : Fr N a sl) (hg : o.guard = none) (hd : o.dst = none) (hT : P.underlying T = some (.map K E)) (hK : KeyT P K ek ok) (ho : o.op = .mapUpdate T x y z) (H : St w0 w ls) (i : Nat) (hi : ls[i]? = some (HP.mm (some b) ek agg R ok m))
    (hx : ev sl x = some (.map (some b))) {k : κ} (hy : ev sl y = some (ek k)) {cs : List Value} (hz : ev sl z = some (mkV agg cs)) (hkk : ok k) {v : β} (hrd : ∀ {B : Base}, (∀ (j : Nat) (C : HP), ls[j]? = some C → ∃ S, C.pr B w S) → R.rd B cs v)
    (hk : ∀ w', St w0 w' (ls.set i (HP.mm (some b) ek agg R ok (fset k v m))) → W rest a w') : W (o :: rest) a w := by
  obtain ⟨es, H⟩ := H.mmOpen i hi
  have hil : i < ls.length := (List.getElem?_eq_some_iff.1 hi).1
  have hi' : (ls.set i (HP.mx (some b) ek agg R ok es m))[i]? = some (HP.mx (some b) ek agg R ok es m) := by simp [List.getElem?_set, hil]
  obtain ⟨_, _, hes, hm⟩ := H.mxOk i hi'
  obtain ⟨w', hr, hm', hc⟩ := run_mapUpdateW hT hK hm (es_ok hes.ok) k hkk (mkV agg cs)
  have hrun : (execOp a.eval o).run P w = .ok .skip w' := by
    unfold execOp
    simp only [ho, F.eval hx, F.eval hy, F.eval hz, Sem.run_bind, hr, Result.andThen_ok, Sem.run_pure]
  refine s_none kw F hg hd (by rw [ho]; rfl) hrun ?_
  obtain ⟨B, HB⟩ := H.out
  have hcs : R.rd B cs v := hrd (B := B) fun j C hj => by
    by_cases e : i = j
    · subst e
      rw [hi] at hj; cases hj
      obtain ⟨S, h⟩ := HB.at hi'
      exact ⟨S, es, h⟩
    · exact HB.at (by rw [List.getElem?_set, if_neg e]; exact hj)
  have H2 := (HB.chg (A' := HP.mm (some b) ek agg R ok (fset k v m)) i hi' (g := b) (fun S hA => hA.2.2) hc (fun S hA => ⟨aset k (cs, v) es, ⟨?_, ?_, ?_, ?_⟩, ?_, hA.2.2⟩)).st
  · rw [List.set_set] at H2; exact hk w' H2
  · rw [aset_keys]
    split
    · exact hA.1.nodup
    · rename_i hn
      exact List.nodup_append.2 ⟨hA.1.nodup, by simp, fun x hx y hy e => by simp at hy; subst hy; subst e; exact hn hx⟩
  · intro q hq
    have : q.1 ∈ (aset k (cs, v) es).map (·.1) := List.mem_map.2 ⟨q, hq, rfl⟩
    rw [aset_keys] at this
    have key : ∀ j, j ∈ es.map (·.1) → ok j := fun j hj => by obtain ⟨r, hr, rfl⟩ := List.mem_map.1 hj; exact hA.1.ok r hr
    split at this
    · exact key _ this
    · rcases List.mem_append.1 this with h | h
      · exact key _ h
      · simp at h; rw [h]; exact hkk
  · rintro ⟨q1, q2⟩ hq
    have hnd : ((aset k (cs, v) es).map (·.1)).Nodup := by
      rw [aset_keys]
      split
      · exact hA.1.nodup
      · rename_i hn
        exact List.nodup_append.2 ⟨hA.1.nodup, by simp, fun x hx y hy e => by simp at hy; subst hy; subst e; exact hn hx⟩
    have h1 := aget_of_mem (k := q1) (v := q2) hnd hq
    rw [aget_aset] at h1
    split at h1
    · cases h1; exact hcs
    · exact hA.1.rd _ (aget_mem' h1)
  · intro j
    show fset k v m j = _
    rw [aget_aset]
    unfold fset
    split
    · rfl
    · exact hA.1.get j
  · have : ment ek agg (aset k (cs, v) es) = mkv ek (aset k (mkV agg cs) (es.map fun p => (p.1, mkV agg p.2.1))) := by
      unfold ment; rw [← aset_map (vv := fun q : List Value × β => mkV agg q.1) k (cs, v) es]
    rw [this]; exact hm'
theorem s_mmIns (kw : Walk P ops W) (F : Fr N a sl) (hg : o.guard = none) (hd : o.dst = none) (hT : P.underlying T = some (.map K E)) (hK : KeyT P K ek ok) (ho : o.op = .insert T x y z) (H : St w0 w ls) (i : Nat) (hi : ls[i]? = some (HP.mm (some b) ek agg R ok m))
    (hx : ev sl x = some (.map (some b))) {k : κ} (hy : ev sl y = some (ek k)) {cs : List Value} (hz : ev sl z = some (mkV agg cs)) (hkk : ok k) {v : β} (hrd : ∀ {B : Base}, (∀ (j : Nat) (C : HP), ls[j]? = some C → ∃ S, C.pr B w S) → R.rd B cs v)
    (hk : ∀ w', St w0 w' (ls.set i (HP.mm (some b) ek agg R ok (fset k v m))) → W rest a w') : W (o :: rest) a w := by
  obtain ⟨es, H⟩ := H.mmOpen i hi
  have hil : i < ls.length := (List.getElem?_eq_some_iff.1 hi).1
  have hi' : (ls.set i (HP.mx (some b) ek agg R ok es m))[i]? = some (HP.mx (some b) ek agg R ok es m) := by simp [List.getElem?_set, hil]
  obtain ⟨_, _, hes, hm⟩ := H.mxOk i hi'
  obtain ⟨w', hr, hm', hc⟩ := run_mapUpdateW hT hK hm (es_ok hes.ok) k hkk (mkV agg cs)
  have hrun : (execOp a.eval o).run P w = .ok .skip w' := by
    unfold execOp
    simp only [ho, F.eval hx, F.eval hy, F.eval hz, Sem.run_bind, hr, Result.andThen_ok, Sem.run_pure]
  refine s_none kw F hg hd (by rw [ho]; rfl) hrun ?_
  obtain ⟨B, HB⟩ := H.out
  have hcs : R.rd B cs v := hrd (B := B) fun j C hj => by
    by_cases e : i = j
    · subst e
      rw [hi] at hj; cases hj
      obtain ⟨S, h⟩ := HB.at hi'
      exact ⟨S, es, h⟩
    · exact HB.at (by rw [List.getElem?_set, if_neg e]; exact hj)
  have H2 := (HB.chg (A' := HP.mm (some b) ek agg R ok (fset k v m)) i hi' (g := b) (fun S hA => hA.2.2) hc (fun S hA => ⟨aset k (cs, v) es, ⟨?_, ?_, ?_, ?_⟩, ?_, hA.2.2⟩)).st
  · rw [List.set_set] at H2; exact hk w' H2
  · rw [aset_keys]
    split
    · exact hA.1.nodup
    · rename_i hn
      exact List.nodup_append.2 ⟨hA.1.nodup, by simp, fun x hx y hy e => by simp at hy; subst hy; subst e; exact hn hx⟩
  · intro q hq
    have : q.1 ∈ (aset k (cs, v) es).map (·.1) := List.mem_map.2 ⟨q, hq, rfl⟩
    rw [aset_keys] at this
    have key : ∀ j, j ∈ es.map (·.1) → ok j := fun j hj => by obtain ⟨r, hr, rfl⟩ := List.mem_map.1 hj; exact hA.1.ok r hr
    split at this
    · exact key _ this
    · rcases List.mem_append.1 this with h | h
      · exact key _ h
      · simp at h; rw [h]; exact hkk
  · rintro ⟨q1, q2⟩ hq
    have hnd : ((aset k (cs, v) es).map (·.1)).Nodup := by
      rw [aset_keys]
      split
      · exact hA.1.nodup
      · rename_i hn
        exact List.nodup_append.2 ⟨hA.1.nodup, by simp, fun x hx y hy e => by simp at hy; subst hy; subst e; exact hn hx⟩
    have h1 := aget_of_mem (k := q1) (v := q2) hnd hq
    rw [aget_aset] at h1
    split at h1
    · cases h1; exact hcs
    · exact hA.1.rd _ (aget_mem' h1)
  · intro j
    show fset k v m j = _
    rw [aget_aset]
    unfold fset
    split
    · rfl
    · exact hA.1.get j
  · have : ment ek agg (aset k (cs, v) es) = mkv ek (aset k (mkV agg cs) (es.map fun p => (p.1, mkV agg p.2.1))) := by
      unfold ment; rw [← aset_map (vv := fun q : List Value × β => mkV agg q.1) k (cs, v) es]
    rw [this]; exact hm'
theorem mx_look {p : Option Nat} (hT : P.underlying T = some (.map K E)) (hK : KeyT P K ek ok) {zc : List Value} (hz : ∀ w, (zeroValue E).run P w = .ok (mkV agg zc) w) (H : St w0 w ls) (i : Nat) (hi : ls[i]? = some (HP.mx p ek agg R ok es m)) (k : κ) (hkk : ok k) (c : Bool) :
    (Instr.lookup T (.map p) (ek k) c).run P w = .ok (if c then .tuple #[mkV agg (esGet es k zc), .bool (m k).isSome] else mkV agg (esGet es k zc)) w := by
  obtain ⟨B, _, hes, hm⟩ := H.mxOk i hi
  cases p with
  | some b =>
    rw [run_lookupW hT hK hz hm (es_ok hes.ok) k hkk]
    rw [hes.get k]
    unfold esGet
    have := aget_map (vv := fun q : List Value × β => mkV agg q.1) k es
    rw [this]
    cases aget k es <;> cases c <;> rfl
  | none =>
    have hm : es = [] := hm
    have h1 := hK.check true k w hkk
    have h2 := hK.find k [] [] w hkk (by simp) rfl
    rw [hes.get k]
    unfold Instr.lookup
    rw [Sem.run_bind, run_underlying hT]
    simp only [Result.andThen_ok]
    cases c <;> simp [h1, h2, findI, hz, aget, esGet, hm]
theorem y_mxGet {p : Option Nat} {zc cs : List Value} (F : Fr N a sl) (hT : P.underlying T = some (.map K E)) (hK : KeyT P K ek ok) (hz : ∀ w, (zeroValue E).run P w = .ok (mkV agg zc) w) (ho : o.op = .lookup T x y false) (H : St w0 w ls) (i : Nat) (hi : ls[i]? = some (HP.mx p ek agg R ok es m)) (hx : ev sl x = some (.map p)) {k : κ} (hy : ev sl y = some (ek k)) (hkk : ok k) (hcs : esGet es k zc = cs) :
    (execOp a.eval o).run P w = .ok (.value (mkV agg cs)) w := by
  unfold execOp
  simp only [ho, F.eval hx, F.eval hy, Sem.run_bind, mx_look hT hK hz H i hi k hkk false, Result.andThen_ok, Sem.run_pure, hcs]
  rfl
theorem y_mxGet2 {p : Option Nat} {zc cs : List Value} (F : Fr N a sl) (hT : P.underlying T = some (.map K E)) (hK : KeyT P K ek ok) (hz : ∀ w, (zeroValue E).run P w = .ok (mkV agg zc) w) (ho : o.op = .lookup T x y true) (H : St w0 w ls) (i : Nat) (hi : ls[i]? = some (HP.mx p ek agg R ok es m)) (hx : ev sl x = some (.map p)) {k : κ} (hy : ev sl y = some (ek k)) (hkk : ok k) (hcs : esGet es k zc = cs) :
    (execOp a.eval o).run P w = .ok (.value (.tuple [mkV agg cs, .bool (m k).isSome].toArray)) w := by
  unfold execOp
  simp only [ho, F.eval hx, F.eval hy, Sem.run_bind, mx_look hT hK hz H i hi k hkk true, Result.andThen_ok, Sem.run_pure, hcs]
  rfl
theorem aget_mapG {β γ : Type} (g : β → γ) (k : κ) : ∀ kv : List (κ × β), aget k (kv.map fun p => (p.1, g p.2)) = (aget k kv).map g
  | [] => rfl
  | (k', v) :: r => by
    simp only [List.map_cons, aget]
    split
    · rfl
    · exact aget_mapG g k r
theorem EsOk.enum {B : Base} (h : EsOk R ok B es m) : Enum m (es.map fun p => (p.1, p.2.2)) := by
  refine ⟨by rw [List.map_map]; exact h.nodup, fun k => ?_⟩
  rw [h.get k, ← aget_mapG (fun q : List Value × β => q.2) k es]
end
/-! ### Strings as keys -/
def ekStr (l : List UInt8) : Value := .string (txb l)
theorem findNow_strs (k : List UInt8) : ∀ (es : List MapEntry) (l : List (List UInt8 × Value)) (i : Nat), es.map (fun e => (e.key, e.val)) = mkv ekStr l → Instr.findNow .string (ekStr k) es i = some (findI k l i)
  | [], l, i, h => by
    cases l with
    | nil => rfl
    | cons p l => simp [mkv] at h
  | e :: es, l, i, h => by
    cases l with
    | nil => simp [mkv] at h
    | cons p l =>
      obtain ⟨k', v'⟩ := p
      simp only [mkv, List.map_cons, List.cons.injEq, Prod.mk.injEq] at h
      obtain ⟨⟨hk, hv⟩, ht⟩ := h
      have ih := findNow_strs k es l (i + 1) ht
      unfold Instr.findNow findI
      by_cases hkk : k' = k
      · subst hkk; simp only [hk, hv, ekStr, Instr.sameNow, (Go.MapKept.bytes_beq (txb k') (txb k')).2 rfl, if_true]
      · have hne : (txb k == txb k') = false := by
          rw [← Bool.not_eq_true, Go.MapKept.bytes_beq]; exact fun hh => hkk (txb_inj hh).symm
        simp [Instr.sameNow, hk, ekStr, hne, hkk]
        exact ih
theorem keyStr {P : Program} {K : TypeId} (hK : P.underlying K = some .string) : KeyT P K ekStr (fun _ => True) where
  check e k w _ := Go.MapKept.run_checkKey hK (by trivial) e 9999
  find k es l w _ _ h := Go.MapKept.run_findKey hK (findNow_strs k es l 0 h)
  stays k w _ := by
    unfold Instr.keyThatStays
    have : Instr.sameBits 10000 (ekStr k) (ekStr k) = true := by unfold Instr.sameBits ekStr; exact (Go.MapKept.bytes_beq (txb k) (txb k)).2 rfl
    rw [if_pos this]; rfl
theorem rSl_nil {α : Type} (R : Rp α) (B : Base) : (rSl R).rd B [.slice none 0 0] [] := ⟨none, 0, rfl, [], trivial, fun w _ => .inl ⟨rfl, rfl, rfl⟩⟩
end Go.Tri

/- Data: entries of maps that are laid first and filled later; facts as pieces. -/
set_option linter.unusedSimpArgs false
set_option linter.unusedVariables false
namespace Go.Tri
open Go.RowKit
theorem St.addFact {w0 w : World} {l : List HP} (H : St w0 w l) {p : Prop} (h : p) : St w0 w (HP.fact p :: l) := H.more fun _ _ _ => h
section
variable {P : Program} {T K E : TypeId} {κ : Type} [DecidableEq κ] {ek : κ → Value} {ok : κ → Prop} {w : World} {b : Nat} {l : List (κ × Value)}
end
section
variable {κ β : Type} [DecidableEq κ] {R : Rp β} {P : Program} {T K E : TypeId} {ek : κ → Value} {ok : κ → Prop} {agg : Bool} {w0 w : World} {b : Nat} {m : κ → Option β} {ls : List HP}
theorem EsOk.set {B : Base} {es : List (κ × (List Value × β))} {m : κ → Option β} (h : EsOk R ok B es m) {k : κ} (hk : ok k) {cs : List Value} {v : β} (hv : R.rd B cs v) : EsOk R ok B (aset k (cs, v) es) (fset k v m) := by
  have hnd : ((aset k (cs, v) es).map (·.1)).Nodup := by
    rw [aset_keys]
    split
    · exact h.nodup
    · rename_i hn
      exact List.nodup_append.2 ⟨h.nodup, by simp, fun x hx y hy e => by simp at hy; subst hy; subst e; exact hn hx⟩
  refine ⟨hnd, ?_, ?_, ?_⟩
  · intro q hq
    have : q.1 ∈ (aset k (cs, v) es).map (·.1) := List.mem_map.2 ⟨q, hq, rfl⟩
    rw [aset_keys] at this
    have key : ∀ j, j ∈ es.map (·.1) → ok j := fun j hj => by obtain ⟨r, hr, rfl⟩ := List.mem_map.1 hj; exact h.ok r hr
    split at this
    · exact key _ this
    · rcases List.mem_append.1 this with h | h
      · exact key _ h
      · simp at h; rw [h]; exact hk
  · rintro ⟨q1, q2⟩ hq
    have h1 := aget_of_mem (k := q1) (v := q2) hnd hq
    rw [aget_aset] at h1
    split at h1
    · cases h1; exact hv
    · exact h.rd _ (aget_mem' h1)
  · intro j
    show fset k v m j = _
    rw [aget_aset]
    unfold fset
    split
    · rfl
    · exact h.get j
variable {ops : Array Oper} {rest : List Oper} {o : Oper} {a : Act} {W : List Oper → Act → World → Prop} {N : Fs} {sl : List (Nat × Value)} {d : Nat} {x y z : Operand}
/-- A map, behind or before its entry k is made: what is found at k is told. -/
def HP.mi (b : Nat) (ek : κ → Value) (agg : Bool) (R : Rp β) (ok : κ → Prop) (m : κ → Option β) (k : κ) (z0 : β) : HP :=
  HP.of (fun B w S => (∃ (es : List (κ × (List Value × β))) (m' : κ → Option β), EsOk R ok B es m' ∧ (m' k).getD z0 = (m k).getD z0 ∧ MapW w b (ment ek agg es)) ∧ S b)
    (fun ⟨⟨es, m', h1, h2, raw, c, h3, h4⟩, h5⟩ hS => ⟨⟨es, m', h1, h2, raw, c, by rw [hS _ h5]; exact h3, h4⟩, h5⟩)
    (fun ⟨⟨es, m', h1, h2⟩, h5⟩ hl => ⟨⟨es, m', h1.mono hl, h2⟩, h5⟩)
end
section
variable {κ β : Type} [DecidableEq κ] {R : Rp β} {P : Program} {T K E : TypeId} {ek : κ → Value} {ok : κ → Prop} {agg : Bool} {w0 w : World} {b : Nat} {m : κ → Option β} {ls : List HP} {ops : Array Oper} {rest : List Oper} {o : Oper} {a : Act} {W : List Oper → Act → World → Prop} {N : Fs} {sl : List (Nat × Value)} {x y : Operand}
theorem run_mmDel {t' : TypeId} (hT : P.underlying T = some (.map K E)) (hK : KeyT P K ek ok) (H : St w0 w ls) (i : Nat) (hi : ls[i]? = some (HP.mm (some b) ek agg R ok m)) (k : κ) (hkk : ok k) (ty : TypeId) :
    ∃ w', (Builtin.delete_ #[T, t'] ty #[.map (some b), ek k]).run P w = .ok (.tuple #[]) w' ∧ St w0 w' (ls.set i (HP.mm (some b) ek agg R ok (fdel k m))) := by
  obtain ⟨es, H⟩ := H.mmOpen i hi
  have hil : i < ls.length := (List.getElem?_eq_some_iff.1 hi).1
  have hi' : (ls.set i (HP.mx (some b) ek agg R ok es m))[i]? = some (HP.mx (some b) ek agg R ok es m) := by simp [List.getElem?_set, hil]
  obtain ⟨_, _, hes, hm⟩ := H.mxOk i hi'
  obtain ⟨w', hr, hm', hc⟩ := run_deleteW (t' := t') hT hK hm (es_ok hes.ok) k hkk ty
  refine ⟨w', hr, ?_⟩
  have H2 := H.chg (A' := HP.mm (some b) ek agg R ok (fdel k m)) i hi' (g := b) (fun S hA => hA.2.2) hc (fun S hA => ⟨adel k es, ⟨?_, fun q hq => hA.1.ok q (adel_sub k es q hq), fun q hq => hA.1.rd q (adel_sub k es q hq), fun j => ?_⟩, ?_, hA.2.2⟩)
  · rw [List.set_set] at H2; exact H2
  · rw [adel_keys]; exact hA.1.nodup.erase k
  · show fdel k m j = _
    rw [aget_adel j k es hA.1.nodup]
    unfold fdel
    split
    · rfl
    · exact hA.1.get j
  · have : ment ek agg (adel k es) = mkv ek (adel k (es.map fun p => (p.1, mkV agg p.2.1))) := by
      unfold ment; rw [← adel_map (vv := fun q : List Value × β => mkV agg q.1) k es]
    rw [this]; exact hm'
theorem s_mmDelN (kw : Walk P ops W) (F : Fr N a sl) (hg : o.guard = none) (hd : o.dst = none) {t' : TypeId} (hT : P.underlying T = some (.map K E)) (hK : KeyT P K ek ok) (ho : o.op = .call { callee := .builtin .delete, args := #[x, y], argTypes := #[T, t'] }) (H : St w0 w ls) (i : Nat) (hi : ls[i]? = some (HP.mm (some b) ek agg R ok m))
    (hx : ev sl x = some (.map (some b))) {k : κ} (hy : ev sl y = some (ek k)) (hkk : ok k)
    (hk : ∀ w', St w0 w' (ls.set i (HP.mm (some b) ek agg R ok (fdel k m))) → W rest a w') : W (o :: rest) a w := by
  obtain ⟨w', hr, H'⟩ := run_mmDel (t' := t') hT hK H i hi k hkk o.type
  refine s_valN (v := .tuple #[]) (w' := w') kw F hg hd (by rw [ho]; rfl) ?_ (hk w' H')
  unfold execOp
  simp [ho, resolve, invoke, builtin, F.eval hx, F.eval hy, hr]
end
end Go.Tri

/- Data: more conversions; bytes over an owned slice. -/
set_option linter.unusedSimpArgs false
set_option linter.unusedVariables false
namespace Go.Tri
open Go.RowKit
section
variable {P : Program} {T E e : TypeId} {w0 w : World} {ls : List HP} {ops : Array Oper} {rest : List Oper} {o : Oper} {a : Act} {W : List Oper → Act → World → Prop} {N : Fs} {sl : List (Nat × Value)} {d : Nat} {x y z : Operand}
end
section
variable {P : Program} {ops : Array Oper} {C : World → Prop} {K : Act → World → Prop} {N : Fs} {a : Act} {l : List (Nat × Value)} {w : World} {i d : Nat} {o : Oper} {r : Sc} {v : Value}
theorem heavy_on {M : Act → World → Prop} (hw : Region.wanted o (yielded ops a.tmps) = true) (h : wpList P ops (Exit.then M (fun _ _ _ => False)) [o] a w) : o.wp P a w M (fun _ _ _ => False) := by
  unfold wpList at h
  rw [if_pos hw] at h
  rcases h with h | ⟨_, _, _, h⟩
  · unfold Oper.wp at *
    generalize (execOp a.eval o).run P w = r at *
    cases r with
    | ok n w' =>
      cases n <;> simp only [Oper.upon] at h ⊢
      case value v => exact h
      case skip => exact h
      case defer d => exact h
      case enter f args =>
        refine Calls.mono h fun e w'' he => ?_
        cases e with
        | returned u => exact he
        | panicked c => exact he
        | outgrown => obtain ⟨_, _, h⟩ := he; exact h.elim
      case row row args => exact h
    | halt x w' =>
      cases x <;> simp only [Oper.upon] at h ⊢
      case panic v => exact h
  · exact h.elim
theorem m_heavyOn {s : Nat} {bb : Bool} {g : Nat} {og : Oper} (F : Fr N a l) (hi : ops[i]? = some o) (hgd : o.guard = some (g, bb)) (hog : ops[g]? = some og) (hog2 : og.dst = some s) (hv : lk s l = some (.bool bb)) (h : wpList P ops (Exit.then (fun a' w' => C w' ∧ wpMix P ops C K r a' w') (fun _ _ _ => False)) [o] a w) : wpMix P ops C K (.step 2 i r) a w :=
  ⟨o, hi, fun hw => heavy_on hw h, fun hw => by rw [want_on F hgd hog hog2 hv] at hw; cases hw⟩
end
section
variable {P : Program} {t t' e : TypeId} {o : Oper} {a : Act} {w : World} {N : Fs} {sl : List (Nat × Value)} {x y : Operand}
end
end Go.Tri

