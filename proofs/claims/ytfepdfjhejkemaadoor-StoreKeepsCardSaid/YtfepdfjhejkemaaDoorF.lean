/- The engine: regions, loops and ends of functions that hold a range over a function. -/
import Derived.Test.YtfepdfjhejkemaaDoorG
import Derived.Test.YtfepdfjhejkemaaDoorD11
import Derived.OrdersIn
set_option linter.unusedSimpArgs false
set_option linter.unusedVariables false
namespace Go.Tri
open Go.RowKit
/-- Out of the fence, and into it. -/
theorem outF {P : Program} {c : Code} {Q : Exit → Act → World → Prop} {a : Act} {w : World} (h : c.wp P Q a w) : c.wpIn (FN none) 0 P Q a w := (wpIn_wide (n := 0)).2 h
theorem inF {P : Program} {c : Code} {Q : Exit → Act → World → Prop} {a : Act} {w : World} (h : c.wpIn (FN none) 0 P Q a w) : c.wp P Q a w := (wpIn_wide (n := 0)).1 h

/-! ### Marks that such loops leave -/
def marks (Ds : List Nat) : List Deferred := Ds.map mark
def HP.mks (Ds : List Nat) : HP := ⟨fun _ w S => Ds.Nodup ∧ ∀ D ∈ Ds, w.heap[D]? = some (.deferred (some [])) ∧ S D, fun h hS => ⟨h.1, fun D hD => ⟨by rw [hS D (h.2 D hD).2]; exact (h.2 D hD).1, (h.2 D hD).2⟩⟩, fun h _ => h⟩
theorem St.mks0 {w0 w : World} {l : List HP} (H : St w0 w l) : St w0 w (HP.mks [] :: l) := H.more fun _ _ _ => ⟨List.nodup_nil, fun D h => by simp at h⟩
theorem St.mks1 {w0 w : World} {l : List HP} {D : Nat} {Ds : List Nat} (H : St w0 w (HP.obj D (.deferred (some [])) :: HP.mks Ds :: l)) : St w0 w (HP.mks (D :: Ds) :: l) :=
  H.join fun S T h1 h2 hd => ⟨List.nodup_cons.2 ⟨fun hm => hd D h1.2 (h2.2 D hm).2, h2.1⟩, fun E hE => by
    rcases List.mem_cons.1 hE with rfl | hE
    · exact ⟨h1.1, .inl h1.2⟩
    · exact ⟨(h2.2 E hE).1, .inr (h2.2 E hE).2⟩⟩
theorem Sub.put {B : Base} {w : World} (h : Sub B w) {D : Nat} (hB : B D = none) (o : Obj) : Sub B (w.putObj D o) := by
  intro b x hb
  show (w.heap.setIfInBounds D o)[b]? = _
  rw [Array.getElem?_setIfInBounds, if_neg (fun e => by subst e; rw [hB] at hb; cases hb)]
  exact h b x hb
theorem leaves_marks {P : Program} {fn : Func} {R : Ending → World → Prop} {tmps : Array Value} {w0 : World} {l : List HP} {v : Value} : ∀ (Ds : List Nat) (w : World), St w0 w (HP.mks Ds :: l) → (∀ w, St w0 w l → (results fn tmps).run P w = .ok v w) → (∀ w, St w0 w l → R (.returned v) w) → LeavesInM (FN none) 0 P fn tmps R (marks Ds) .returning w
  | [], w, H, hr, h => ⟨v, hr w H.tail, h w H.tail⟩
  | D :: Ds, w, H, hr, h => by
    obtain ⟨hv, B, f, hs, h1, h2, h3⟩ := H
    have hm := h1 0 _ rfl
    have hD := hm.2 D (by simp)
    have hf0 := h3 0 D (by simp) hD.2
    have hnd := List.nodup_cons.1 hm.1
    have H2 : St w0 (w.putObj D (.deferred none)) (HP.mks Ds :: l) := by
      have hc := chg_putObj w D (.deferred none)
      refine ⟨⟨hc.os.trans hv.1, hc.tape.trans hv.2.1, hc.output.trans hv.2.2.1, by rw [hc.size]; exact hv.2.2.2⟩, B, fun i => match i with | 0 => fun b => b ≠ D ∧ f 0 b | i + 1 => f (i + 1), hs.put hf0.2.1 _, ?_, ?_, ?_⟩
      · intro i A hi
        cases i with
        | zero =>
          simp at hi; subst hi
          refine ⟨hnd.2, fun E hE => ⟨?_, fun e => hnd.1 (e ▸ hE), (hm.2 E (by simp [hE])).2⟩⟩
          rw [hc.oth E (fun e => hnd.1 (e ▸ hE))]; exact (hm.2 E (by simp [hE])).1
        | succ i =>
          have hi' : (HP.mks (D :: Ds) :: l)[i + 1]? = some A := by simpa using hi
          have hil := (List.getElem?_eq_some_iff.1 hi').1
          exact A.loc (h1 (i + 1) A hi') fun b hb => hc.oth b fun e => by subst e; have := h2 0 (i + 1) b (by simp) hil hD.2 hb; omega
      · intro i j b hi hj hfi hfj
        refine h2 i j b (by simpa using hi) (by simpa using hj) ?_ ?_
        · cases i with
          | zero => exact hfi.2
          | succ i => exact hfi
        · cases j with
          | zero => exact hfj.2
          | succ j => exact hfj
      · intro i b hi hf
        rw [hc.size]
        refine h3 i b (by simpa using hi) ?_
        cases i with
        | zero => exact hf.2
        | succ i => exact hf
    refine ⟨by simp, .inl ⟨D, _, rfl, run_takeDeferred hD.1, ?_⟩⟩
    exact leaves_marks Ds _ H2 hr h
section
variable {P : Program} {fn : Func} {R : Ending → World → Prop} {a : Act} {w0 w : World} {N : Nat} {Ds : List Nat} {l : List (Nat × Value)} {ls : List HP}
theorem xk_leave {v : Value} (F : Fr ⟨N, marks Ds⟩ a l) (H : St w0 w (HP.mks Ds :: ls)) (hr : ∀ w, St w0 w ls → (results fn a.tmps).run P w = .ok v w) (h : ∀ w, St w0 w ls → R (.returned v) w) : LeavesInM (FN none) 0 P fn a.tmps R a.defers .returning w := by
  rw [F.defers]; exact leaves_marks Ds w H hr h
end
/-- A function with such loops. -/
theorem xk_enter {P : Program} {f : FuncId} {fn : Func} {c : Code} {args : List Value} {w : World} {R : Ending → World → Prop} {N : Nat}
    (hf : P.funcs[f]? = some fn) (hb : fn.body = some c) (hN : fn.ntmps = N) (hle : Nat.ble args.length N = true)
    (h : ∀ a, Fr ⟨N, marks []⟩ a (numL 0 args) → c.wp P (bodyPostM (FN none) 0 P fn R) a w) : Calls P f args.toArray w R :=
  xi_enter hf hb hN hle fun a F => outF (h a F)

/-! ### A range over a function, told by a fold -/
def foldO {σ β ρ : Type} (f : σ → β → Option (σ ⊕ ρ)) : σ → List β → Option (σ ⊕ ρ)
  | s, [] => some (.inl s)
  | s, x :: xs => (f s x).bind fun o => match o with | .inl s' => foldO f s' xs | .inr r => some (.inr r)
theorem foldO_rn {σ ι α β ρ : Type} {f : σ → β → Option (σ ⊕ ρ)} {pj : α → β} : ∀ {pre post : List α} {g0 g : σ × ι}, Rn (fun (g : σ × ι) x (g' : σ × ι) => f g.1 (pj x) = some (.inl g'.1)) g0 pre g → foldO f g0.1 ((pre ++ post).map pj) = foldO f g.1 (post.map pj)
  | [], _, _, _, h => by cases h; rfl
  | x :: pre, post, g0, g, ⟨g1, h1, h2⟩ => by
    show (f g0.1 (pj x)).bind _ = _
    rw [h1]
    exact foldO_rn h2
def roundQ {σ ι ρ κ : Type} (w0 : World) (J : σ → ι → List HP) (K : ρ → κ → List HP) (jmp : ρ → Code) (o : σ ⊕ ρ) (fr : List HP) : Exit → Act → World → Prop
  | .normal, _, w => ∃ s i, o = .inl s ∧ St w0 w (J s i ++ fr)
  | .ret, _, w => ∃ r i, o = .inr r ∧ jmp r = .ret ∧ St w0 w (K r i ++ fr)
  | .exit n, _, w => ∃ r i, o = .inr r ∧ jmp r = .exit n ∧ St w0 w (K r i ++ fr)
  | _, _, _ => False
theorem perm_m {A B C : List HP} {m : HP} : (A ++ (B ++ m :: C)).Perm (m :: (A ++ (B ++ C))) := by
  rw [← List.append_assoc, ← List.append_assoc]; exact List.perm_middle
theorem x_range {P : Program} {N : Nat} {Ds : List Nat} {a : Act} {l : List (Nat × Value)} {w0 w : World} {g : Operand} {ps : List Nat} {assign body : Code} {Q : Exit → Act → World → Prop} {gf : FuncId} {lb : List Value} {σ ι ρ κ α β Mid : Type} {enc : α → List Value} {own fr : List HP} {zs : List α} (pj : α → β)
    (F : Fr ⟨N, marks Ds⟩ a l) (hg : ev l g = some (.func (.func gf) #[] lb.toArray)) (eg : ∀ args w, (callFunc gf args).run P w = .ok (.enter gf args) w) (hS : SeqC P gf lb enc own (fun xs x => ∃ ys, zs = xs ++ x :: ys) (fun xs => xs = zs))
    (J : σ → ι → List HP) (K : ρ → κ → List HP) (jmp : ρ → Code) (f : σ → β → Option (σ ⊕ ρ)) (s0 : σ) (i0 : ι) {o : σ ⊕ ρ} (hm : foldO f s0 (zs.map pj) = some o)
    (H : St w0 w (HP.mks Ds :: (J s0 i0 ++ (own ++ fr)))) (hps : ∀ x, (enc x).length = ps.length) (hpN : ps.all (Nat.blt · N) = true)
    (ml : σ → ι → α → Mid → List (Nat × Value)) (mi : σ → ι → α → Mid → List HP)
    (hassign : ∀ L s i x a1 W fr, x ∈ zs → Fr ⟨N, []⟩ a1 (bindL ps (enc x) l) → St w0 W (J s i ++ fr) →
      assign.wpIn (FN (some L)) 0 P (Exit.then (fun a2 w2 => ∃ m, Fr ⟨N, []⟩ a2 (ml s i x m) ∧ St w0 w2 (mi s i x m ++ fr)) (fun _ _ _ => False)) a1 W)
    (hbody : ∀ L s i x m o a1 W fr, x ∈ zs → f s (pj x) = some o → Fr ⟨N, []⟩ a1 (ml s i x m) → St w0 W (mi s i x m ++ fr) → body.wpIn (FN (some L)) 0 P (roundQ w0 J K jmp o fr) a1 W)
    (hdone : ∀ s i Ds a1 W, o = .inl s → Fr ⟨N, marks Ds⟩ a1 l → St w0 W (HP.mks Ds :: (J s i ++ (own ++ fr))) → Q .normal a1 W)
    (hstop : ∀ r i Ds a1 W, o = .inr r → Fr ⟨N, marks Ds⟩ a1 l → St w0 W (HP.mks Ds :: (K r i ++ (own ++ fr))) → (jmp r).wp P Q a1 W) :
    (Code.rangeFunc g ps.toArray assign body).wp P Q a w := by
  refine inF (xi_range (G := σ × ι) (E := ρ × κ) (fr := HP.mks Ds :: fr) F hg eg hS (fun g => J g.1 g.2) (fun k => K k.1 k.2) (fun k => jmp k.1) (fun g x g' => f g.1 (pj x) = some (.inl g'.1)) (fun g x k => f g.1 (pj x) = some (.inr k.1)) (s0, i0) (H.perm perm_m.symm) hps hpN (fun g x m => ml g.1 g.2 x m) (fun g x m => mi g.1 g.2 x m) ?_ ?_ ?_ ?_)
  · rintro L xs g x a1 W fr ⟨ys, hz⟩ _ F1 H1
    exact hassign L g.1 g.2 x a1 W fr (by rw [hz]; simp) F1 H1
  · rintro L xs g x m a1 W fr ⟨ys, hz⟩ hrn F1 H1
    have hf : ∃ o1, f g.1 (pj x) = some o1 := by
      rw [hz, foldO_rn hrn] at hm
      simp only [List.map_cons, foldO] at hm
      obtain ⟨o1, h1, _⟩ := ob hm
      exact ⟨o1, h1⟩
    obtain ⟨o1, hf⟩ := hf
    refine Go.wpIn_mono (hbody L g.1 g.2 x m o1 a1 W fr (by rw [hz]; simp) hf F1 H1) fun e a2 w2 h => ?_
    cases e with
    | normal => obtain ⟨s, i, rfl, h⟩ := h; exact ⟨(s, i), hf, h⟩
    | ret => obtain ⟨r, i, rfl, hj, h⟩ := h; exact ⟨(r, i), hf, hj, h⟩
    | exit n => obtain ⟨r, i, rfl, hj, h⟩ := h; exact ⟨(r, i), hf, hj, h⟩
    | _ => exact h.elim
  · rintro D xs g a1 W rfl hrn F1 H1
    have := foldO_rn (post := []) hrn
    rw [List.append_nil, hm] at this
    exact hdone g.1 g.2 (D :: Ds) a1 W (Option.some.inj this) F1 (St.mks1 (H1.perm (List.Perm.cons _ perm_m)))
  · rintro D xs g x k a1 W ⟨ys, hz⟩ hrn hst F1 H1
    have h1 := hm
    rw [hz, foldO_rn hrn] at h1
    simp only [List.map_cons, foldO, hst] at h1
    exact outF (hstop k.1 k.2 (D :: Ds) a1 W (Option.some.inj h1).symm F1 (St.mks1 (H1.perm (List.Perm.cons _ perm_m))))

/-! ### Results, in slots or in cells -/
def RV (P : Program) (l : List (Nat × Value)) (w : World) : ResultVar → Value → Prop
  | .tmp t, v => lk t l = some v
  | .cell t ty, v => ∃ ad, lk t l = some (.pointer (some ad)) ∧ (loadVar ty ad).run P w = .ok v w
def rvSem (tmps : Array Value) : ResultVar → Sem Value
  | .tmp t => pure (tmps.getD t undef)
  | .cell a t => do loadVar t (← asAddr (tmps.getD a undef))
section
variable {P : Program} {fn : Func} {a : Act} {w : World} {M : Fs} {l : List (Nat × Value)}
theorem RV.run (F : Fr M a l) {r : ResultVar} {v : Value} (h : RV P l w r v) : (rvSem a.tmps r).run P w = .ok v w := by
  cases r with
  | tmp t =>
    have := F.get t v h
    simp [rvSem, this]
  | cell t ty =>
    obtain ⟨ad, h1, h2⟩ := h
    have := F.get t _ h1
    simp [rvSem, this, asAddr, h2]
theorem run_res1 (F : Fr M a l) {r : ResultVar} {v : Value} (hr : fn.results = #[r]) (h : RV P l w r v) : (results fn a.tmps).run P w = .ok v w := by
  have h1 := h.run F
  have : results fn a.tmps = (do let x ← rvSem a.tmps r; pure x) := by
    unfold results; rw [hr]; simp [rvSem]; cases r <;> rfl
  rw [this]; simpa using h1
theorem run_resC2 (F : Fr M a l) {r s : ResultVar} {v u : Value} (hr : fn.results = #[r, s]) (h : RV P l w r v) (k : RV P l w s u) : (results fn a.tmps).run P w = .ok (.tuple [v, u].toArray) w := by
  have h1 := h.run F
  have h2 := k.run F
  have : results fn a.tmps = (do let x ← rvSem a.tmps r; let y ← rvSem a.tmps s; pure (.tuple #[x, y])) := by
    unfold results; rw [hr]; simp [rvSem]; cases r <;> cases s <;> rfl
  rw [this, Sem.run_bind, h1]
  simp only [Result.andThen_ok]
  rw [Sem.run_bind, h2]; rfl
theorem ld1 {t : TypeId} {b off : Nat} {v : Value} (hP : Plain P t) (hc : w.cell? ⟨b, off, none⟩ = some v) : (loadVar t ⟨b, off, none⟩).run P w = .ok v w := by
  simp [loadVar, hP.run_isAgg, run_load, hc]
end
section
variable {P : Program} {fn : Func} {R : Ending → World → Prop} {a : Act} {w0 w : World} {N : Nat} {Ds : List Nat} {l : List (Nat × Value)} {ls : List HP} {r s t : ResultVar} {v u x : Value}
theorem x_resC1 (F : Fr ⟨N, []⟩ a l) (hr : fn.results = #[r]) (h1 : RV P l w r v) (h : R (.returned v) w) : bodyPost P fn R .ret a w := bodyPost_ret (run_res1 F hr h1) F.defers h
theorem x_resC2 (F : Fr ⟨N, []⟩ a l) (hr : fn.results = #[r, s]) (h1 : RV P l w r v) (h2 : RV P l w s u) (h : R (.returned (.tuple [v, u].toArray)) w) : bodyPost P fn R .ret a w := bodyPost_ret (run_resC2 F hr h1 h2) F.defers h
theorem xk_resC2 (F : Fr ⟨N, marks Ds⟩ a l) (hr : fn.results = #[r, s]) (H : St w0 w (HP.mks Ds :: ls)) (h1 : ∀ w, St w0 w ls → RV P l w r v) (h2 : ∀ w, St w0 w ls → RV P l w s u) (h : ∀ w, St w0 w ls → R (.returned (.tuple [v, u].toArray)) w) : bodyPostM (FN none) 0 P fn R .ret a w := xk_leave F H (fun w H => run_resC2 F hr (h1 w H) (h2 w H)) h
end
/-! ### Slices from the end -/
def backL {γ : Type} (xs : List γ) : List (Int × γ) := (xs.zipIdx.map fun p => ((p.2 : Int), p.1)).reverse
def backZ {γ : Type} (css : List (List Value)) (xs : List γ) : List ((Nat × List Value) × γ) := ((css.zip xs).zipIdx.map fun p => ((p.2, p.1.1), p.1.2)).reverse
theorem backZ_pj {γ : Type} (css : List (List Value)) (xs : List γ) (h : css.length = xs.length) : (backZ css xs).map (fun z => ((z.1.1 : Int), z.2)) = backL xs := by
  unfold backZ backL
  rw [List.map_reverse, List.map_map]
  congr 1
  apply List.ext_getElem?
  intro i
  simp only [List.getElem?_map, List.getElem?_zipIdx, Function.comp]
  by_cases hi : i < xs.length
  · have h1 : i < css.length := by omega
    simp [List.getElem?_eq_getElem hi, List.getElem?_eq_getElem h1, List.zip, List.getElem?_zipWith]
  · simp [List.getElem?_eq_none (Nat.le_of_not_lt hi), List.zip, List.getElem?_zipWith, List.getElem?_eq_none (show css.length ≤ i by omega)]
theorem backZ_len {γ : Type} (css : List (List Value)) (xs : List γ) (h : css.length = xs.length) : (backZ css xs).length = xs.length := by simp [backZ, h]
theorem backZ_at {γ : Type} {css : List (List Value)} {xs : List γ} (h : css.length = xs.length) {j : Nat} {c : List Value} {y : γ} (hj : j < xs.length) (hc : css[j]? = some c) (hy : xs[j]? = some y) : (backZ css xs)[xs.length - 1 - j]? = some ((j, c), y) := by
  unfold backZ
  rw [List.getElem?_reverse (by simp [h]; omega)]
  simp only [List.length_map, List.length_zipIdx, List.length_zip, h, Nat.min_self]
  rw [show xs.length - 1 - (xs.length - 1 - j) = j by omega]
  simp [List.getElem?_zipIdx, List.zip, List.getElem?_zipWith, hc, hy]
theorem backZ_mem {γ : Type} {css : List (List Value)} {xs : List γ} {k : Nat} {c : List Value} {y : γ} (h : ((k, c), y) ∈ backZ css xs) : css[k]? = some c ∧ xs[k]? = some y := by
  unfold backZ at h
  rw [List.mem_reverse, List.mem_map] at h
  obtain ⟨p, hp, he⟩ := h
  obtain ⟨⟨q1, q2⟩, i⟩ := p
  obtain ⟨hi, e⟩ := List.mem_zipIdx' hp
  simp only [Prod.mk.injEq] at he
  obtain ⟨⟨rfl, rfl⟩, rfl⟩ := he
  simp only [List.getElem_zip, Prod.mk.injEq] at e
  obtain ⟨e1, e2⟩ := e
  simp at hi
  exact ⟨by rw [e1]; exact List.getElem?_eq_getElem _, by rw [e2]; exact List.getElem?_eq_getElem _⟩
theorem St.rdlEl {α : Type} {R : Rp α} {w0 w : World} {l : List HP} {css : List (List Value)} {xs : List α} (H : St w0 w l) (i : Nat) (hi : l[i]? = some (HP.rdl R css xs)) {k : Nat} {c : List Value} {x : α} (hc : css[k]? = some c) (hx : xs[k]? = some x) : c.length = R.n ∧ Flat c ∧ St w0 w (HP.rc R c x :: l) := by
  obtain ⟨B, H⟩ := H.out
  obtain ⟨S, h⟩ := H.at hi
  have h : RdL R B css xs := h
  obtain ⟨c', hc', hr⟩ := RdL.at h hx
  obtain rfl : c = c' := by rw [hc] at hc'; exact Option.some.inj hc'
  exact ⟨R.len hr, R.flat hr, (H.more (A := HP.rc R c x) hr).st⟩
theorem pers_rdl {α : Type} {R : Rp α} {css : List (List Value)} {xs : List α} : Pers (HP.rdl R css xs) := fun h => h
section
variable {σ ι ρ κ : Type} {w0 w : World} {J : σ → ι → List HP} {K : ρ → κ → List HP} {jmp : ρ → Code} {fr : List HP} {a : Act}
theorem rq_n {o : σ ⊕ ρ} (s : σ) (i : ι) (h : o = .inl s) (H : St w0 w (J s i ++ fr)) : roundQ w0 J K jmp o fr .normal a w := ⟨s, i, h, H⟩
theorem rq_r {o : σ ⊕ ρ} (r : ρ) (i : κ) (h : o = .inr r) (hj : jmp r = .ret) (H : St w0 w (K r i ++ fr)) : roundQ w0 J K jmp o fr .ret a w := ⟨r, i, h, hj, H⟩
end
theorem St.rdlLen {α : Type} {R : Rp α} {w0 w : World} {l : List HP} {css : List (List Value)} {xs : List α} (H : St w0 w l) (i : Nat) (hi : l[i]? = some (HP.rdl R css xs)) : css.length = xs.length ∧ ∀ c ∈ css, c.length = R.n := by
  obtain ⟨B, H⟩ := H.out
  obtain ⟨S, h⟩ := H.at hi
  have h : RdL R B css xs := h
  refine ⟨h.len, fun c hc => ?_⟩
  obtain ⟨k, hk⟩ := List.mem_iff_getElem?.1 hc
  have hkl := (List.getElem?_eq_some_iff.1 hk).1
  have hkl2 : k < xs.length := by rw [← h.len]; exact hkl
  have hx : xs[k]? = some xs[k] := List.getElem?_eq_getElem hkl2
  obtain ⟨c', h1, h2⟩ := RdL.at h hx
  rw [hk] at h1; cases h1
  exact R.len h2
theorem flatK_at {K : Nat} : ∀ {css : List (List Value)}, (∀ c ∈ css, c.length = K) → ∀ {j : Nat} {cj : List Value}, css[j]? = some cj → (css.flatten.drop (j * K)).take K = cj
  | [], _, j, cj, h => by simp at h
  | c :: css, hk, 0, cj, h => by
    simp at h; subst h
    have := hk c (by simp)
    simp [List.take_append, this]
  | c :: css, hk, j + 1, cj, h => by
    have h1 := hk c (by simp)
    have ih := flatK_at (css := css) (fun d hd => hk d (by simp [hd])) (j := j) (by simpa using h)
    rw [Nat.succ_mul, List.flatten_cons, Nat.add_comm, ← List.drop_drop, List.drop_left' h1]
    exact ih
theorem ownMax {w0 w : World} {l : List HP} (H : St w0 w l) (i : Nat) {e : TypeId} {size n : Nat} {v : Value} {cs : List Value} (hi : l[i]? = some (HP.own e size v n cs)) : n ≤ maxLen := by
  obtain ⟨_, h | ⟨g, cap, cur, _, _, _, h1, h2, _⟩⟩ := H.owns i hi
  · rw [h.2]; exact Nat.zero_le _
  · omega
end Go.Tri
