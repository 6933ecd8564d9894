/- The engine: a region that draws its order, in which memory is written or made: operations that give one value whenever they are carried out come first. -/
import Derived.Test.YtfepdfjhejkemaaDoorZ
set_option linter.unusedSimpArgs false
set_option linter.unusedVariables false
namespace Go.Tri
open Go.RowKit
section
variable {P : Program} {md : Region.Mode} {ops : Array Oper} {hv hl : Nat → Bool} {C : World → Prop} {K : Act → World → Prop}
/-- In this world the operation leaves v in its slot, and nothing else. -/
def Yat (P : Program) (ops : Array Oper) (o : Oper) (v : Value) (a : Act) (w : World) : Prop :=
  (Region.wanted o (yielded ops a.tmps) = true ∧ (execOp a.eval o).run P w = .ok (.value v) w) ∨ (Region.wanted o (yielded ops a.tmps) = false ∧ v = undef)
/-- Whatever order is picked: the operations hv turn the world and keep to C, all others leave it. -/
def AnyS (P : Program) (md : Region.Mode) (ops : Array Oper) (hv hl : Nat → Bool) (C : World → Prop) (K : Act → World → Prop) : Nat → Array Bool → Act → World → Prop
  | 0, listed, a, w => Region.ready md ops listed = [] ∧ K a w
  | f + 1, listed, a, w => (Region.ready md ops listed = [] → K a w) ∧ ∀ i ∈ Region.ready md ops listed, ∃ o, ops[i]? = some o ∧
      ((hv i = true ∧ ((Region.wanted o (yielded ops a.tmps) = true ∧ o.wp P a w (fun a' w' => (hl i = true ∨ C w') ∧ AnyS P md ops hv hl C K f (listed.setIfInBounds i true) a' w') (fun _ _ _ => False)) ∨
          (Region.wanted o (yielded ops a.tmps) = false ∧ AnyS P md ops hv hl C K f (listed.setIfInBounds i true) (a.put o.dst undef) w))) ∨
       (hv i = false ∧ ∃ v, Yat P ops o v a w ∧ AnyS P md ops hv hl C K f (listed.setIfInBounds i true) (a.put o.dst v) w))
theorem wp_false_mono {o : Oper} {a : Act} {w : World} {J J' : Act → World → Prop} {Q : Exit → Act → World → Prop} (h : o.wp P a w J (fun _ _ _ => False)) (hj : ∀ a w, J a w → J' a w) : o.wp P a w J' Q := by
  unfold Oper.wp at *
  generalize (execOp a.eval o).run P w = r at *
  cases r with
  | ok n w' =>
    cases n <;> simp only [Oper.upon] at h ⊢
    case value v => exact hj _ _ h
    case skip => exact hj _ _ h
    case defer d => exact hj _ _ h
    case enter f args =>
      refine Calls.mono h fun e w'' he => ?_
      cases e with
      | returned u => exact hj _ _ he
      | panicked c => exact he.elim
      | outgrown => obtain ⟨_, _, h⟩ := he; exact h.elim
    case row row args => exact Rows.mono h fun u w'' he => hj _ _ he
  | halt x w' =>
    cases x <;> simp only [Oper.upon] at h ⊢
theorem any_of_S {Q : Exit → Act → World → Prop} (hQ : ∀ a w, K a w → Q .normal a w) : ∀ (f : Nat) (listed : Array Bool) (a : Act) (w : World), AnyS P md ops hv hl C K f listed a w → wpAny P md ops Q f listed a w
  | 0, _, _, _, h => ⟨h.1, hQ _ _ h.2⟩
  | f + 1, listed, a, w, h => by
    refine ⟨fun h0 => hQ _ _ (h.1 h0), fun i hi => ?_⟩
    obtain ⟨o, ho, hh⟩ := h.2 i hi
    unfold wpOp
    simp only [ho]
    rcases hh with ⟨_, ⟨hw, hp⟩ | ⟨hw, hp⟩⟩ | ⟨_, v, ⟨hw, hr⟩ | ⟨hw, rfl⟩, hp⟩
    · rw [if_pos hw]; exact .inl (wp_false_mono hp fun a' w' hk => any_of_S hQ f _ a' w' hk.2)
    · rw [if_neg (by rw [hw]; simp)]; exact any_of_S hQ f _ _ _ hp
    · rw [if_pos hw]; refine .inl ?_; unfold Oper.wp; rw [hr]; exact any_of_S hQ f _ _ _ hp
    · rw [if_neg (by rw [hw]; simp)]; exact any_of_S hQ f _ _ _ hp
theorem Yat.same {o : Oper} {v : Value} {a a' : Act} {w : World} (hy : Yat P ops o v a w) (he : execOp a'.eval o = execOp a.eval o) (hw : Region.wanted o (yielded ops a'.tmps) = Region.wanted o (yielded ops a.tmps)) : Yat P ops o v a' w := by
  unfold Yat at *; rw [he, hw]; exact hy
/-- An operation that gives one value, whenever: in every world of C; or in this one, where none that turns the world goes ahead of it. -/
theorem anyS_first {D : Nat → Bool} {i : Nat} {oi : Oper} {v : Value} (hi : ops[i]? = some oi) (hsel : ∀ (j : Nat) (o : Oper) cs b, ops[j]? = some o → o.op ≠ .select cs b) (hnh : hv i = false) :
    ∀ (f : Nat) (listed : Array Bool) (a : Act) (w : World),
      (∀ j oj, ops[j]? = some oj → j ≠ i → listed.getD j true = false → (∀ e ∈ oj.after, Region.binds md e = true → e.on ≠ i) → oi.apart ops oj = true) →
      (∀ j, D j = true → listed.getD j true = false ∧ ∃ oj, ops[j]? = some oj ∧ ∃ e ∈ oj.after, Region.binds md e = true ∧ (e.on = i ∨ D e.on = true)) →
      (∀ j, j ≠ i → listed.getD j true = false → hl j = true → D j = true) →
      i ∈ Region.ready md ops listed → C w →
      ((∀ u, C u → Yat P ops oi v a u) ∨ (Yat P ops oi v a w ∧ ∀ j, j ≠ i → listed.getD j true = false → hv j = true → D j = true)) →
      AnyS P md ops hv hl C K f (listed.setIfInBounds i true) (a.put oi.dst v) w → AnyS P md ops hv hl C K (f + 1) listed a w := by
  intro f
  induction f with
  | zero =>
    intro listed a w _ hD hlast hr hC hy H
    refine ⟨fun h => (by rw [h] at hr; cases hr), fun j hj => ?_⟩
    by_cases hji : j = i
    · subst hji
      exact ⟨oi, hi, .inr ⟨hnh, v, hy.elim (fun h => h w hC) (fun h => h.1), H⟩⟩
    · have := ready_mono hj hji
      rw [H.1] at this
      cases this
  | succ f ih =>
    intro listed a w hfree hD hlast hr hC hy H
    refine ⟨fun h => (by rw [h] at hr; cases hr), fun j hj => ?_⟩
    by_cases hji : j = i
    · subst hji
      exact ⟨oi, hi, .inr ⟨hnh, v, hy.elim (fun h => h w hC) (fun h => h.1), H⟩⟩
    · obtain ⟨oj, hoj, h1⟩ := H.2 j (ready_mono hj hji)
      obtain ⟨hjun, oj', hoj', hall⟩ := mem_ready.1 hj
      obtain rfl : oj = oj' := by rw [hoj] at hoj'; exact Option.some.inj hoj'
      have hnot : ∀ e ∈ oj.after, Region.binds md e = true → e.on ≠ i := fun e he hb heq => by
        have h1 := hall e he hb
        have h0 := (mem_ready.1 hr).1
        rw [heq] at h1
        rcases Nat.lt_or_ge i listed.size with h' | h'
        · simp [h'] at h0 h1; rw [h0] at h1; cases h1
        · simp [Array.getElem?_eq_none h'] at h1
      have hap := hfree j oj hoj hji hjun hnot
      obtain ⟨p1, p2, p3⟩ := Oper.apart_spec hap
      have hsi := fun cs b => hsel i oi cs b hi
      have hsj := fun cs b => hsel j oj cs b hoj
      have hfree' : ∀ k ok, ops[k]? = some ok → k ≠ i → (listed.setIfInBounds j true).getD k true = false →
          (∀ e ∈ ok.after, Region.binds md e = true → e.on ≠ i) → oi.apart ops ok = true := fun k ok hk hki hun hno => by
        refine hfree k ok hk hki ?_ hno
        by_cases hjk : j = k
        · subst hjk; exact hjun
        · rw [getD_set_ne true hjk] at hun; exact hun
      have hiun : listed.getD i true = false := (mem_ready.1 hr).1
      have hnD : D j = false := by
        cases e : D j with
        | false => rfl
        | true =>
          obtain ⟨_, oj2, ho2, e2, he2, hb2, hor⟩ := hD j e
          obtain rfl : oj = oj2 := by rw [hoj] at ho2; exact Option.some.inj ho2
          have h5 := hall e2 he2 hb2
          have h6 : listed.getD e2.on true = false := by
            rcases hor with h | h
            · rw [h]; exact hiun
            · exact (hD _ h).1
          rcases Nat.lt_or_ge e2.on listed.size with h' | h'
          · simp [h'] at h5 h6; rw [h6] at h5; cases h5
          · simp [Array.getElem?_eq_none h'] at h5
      have hnl : hl j = false := by
        cases e : hl j with
        | false => rfl
        | true => rw [hlast j hji hjun e] at hnD; cases hnD
      have hunl : ∀ k, (listed.setIfInBounds j true).getD k true = false → listed.getD k true = false := fun k hun => by
        by_cases hjk : j = k
        · subst hjk; exact hjun
        · rw [getD_set_ne true hjk] at hun; exact hun
      have hD' : ∀ k, D k = true → (listed.setIfInBounds j true).getD k true = false ∧ ∃ ok, ops[k]? = some ok ∧ ∃ e ∈ ok.after, Region.binds md e = true ∧ (e.on = i ∨ D e.on = true) := fun k hk => by
        refine ⟨?_, (hD k hk).2⟩
        rw [getD_set_ne true (fun e => by rw [e, hk] at hnD; cases hnD)]; exact (hD k hk).1
      have hlast' : ∀ k, k ≠ i → (listed.setIfInBounds j true).getD k true = false → hl k = true → D k = true := fun k hki hun hlk => hlast k hki (hunl k hun) hlk
      have hheavy' : (∀ j, j ≠ i → listed.getD j true = false → hv j = true → D j = true) → ∀ k, k ≠ i → (listed.setIfInBounds j true).getD k true = false → hv k = true → D k = true := fun hh k hki hun hvk => hh k hki (hunl k hun) hvk
      have nol : ∀ {X : Prop}, (hl j = true ∨ X) → X := fun h => h.elim (fun h => by rw [hnl] at h; cases h) id
      have keep : ∀ (u : Value) (w' : World), Yat P ops oi v a w' → Yat P ops oi v (a.put oj.dst u) w' := fun u w' hy =>
        hy.same (execOp_put oi hsi a oj.dst u p3) (wanted_put oi a oj.dst u p3)
      have step : ∀ (u : Value) (w' : World), C w' → ((∀ u, C u → Yat P ops oi v a u) ∨ (w' = w ∧ hv j = false)) → AnyS P md ops hv hl C K f ((listed.setIfInBounds i true).setIfInBounds j true) ((a.put oi.dst v).put oj.dst u) w' →
          AnyS P md ops hv hl C K (f + 1) (listed.setIfInBounds j true) (a.put oj.dst u) w' := by
        intro u w' hC' hcase hS
        refine ih _ _ _ hfree' hD' hlast' (ready_mono hr (Ne.symm hji)) hC' ?_ ?_
        · rcases hcase with h | ⟨rfl, _⟩
          · exact .inl fun x hx => keep u x (h x hx)
          · rcases hy with h | ⟨h, hh⟩
            · exact .inl fun x hx => keep u x (h x hx)
            · exact .inr ⟨keep u _ h, hheavy' hh⟩
        · rw [Array.setIfInBounds_comm _ _ hji, ← Act.put_comm a v u p2]; exact hS
      refine ⟨oj, hoj, ?_⟩
      rcases h1 with ⟨hh, ⟨hw, hp⟩ | ⟨hw, hp⟩⟩ | ⟨hh, u, hyj, hp⟩
      · -- one that turns the world
        have hst : ∀ u, C u → Yat P ops oi v a u := by
          rcases hy with h | ⟨_, h⟩
          · exact h
          · have := h j hji hjun hh; rw [hnD] at this; cases this
        rw [wanted_put oj a oi.dst v p1] at hw
        refine .inl ⟨hh, .inl ⟨hw, ?_⟩⟩
        unfold Oper.wp at *
        rw [execOp_put oj hsj a oi.dst v p1] at hp
        generalize (execOp a.eval oj).run P w = r at *
        cases r with
        | ok n w' =>
          cases n <;> simp only [Oper.upon] at hp ⊢
          case value u => exact ⟨hp.1, step u w' (nol hp.1) (.inl hst) hp.2⟩
          case skip => exact ⟨hp.1, step undef w' (nol hp.1) (.inl hst) hp.2⟩
          case defer d =>
            refine ⟨hp.1, ?_⟩
            have hS := hp.2
            have e1 : ({ a.put oi.dst v with defers := d :: (a.put oi.dst v).defers } : Act) = ({ a with defers := d :: a.defers } : Act).put oi.dst v := Act.put_defers a oi.dst v d
            rw [e1, Act.put_comm _ v undef p2, Array.setIfInBounds_comm _ _ (Ne.symm hji)] at hS
            refine ih _ _ _ hfree' hD' hlast' (ready_mono hr (Ne.symm hji)) (nol hp.1) (.inl fun x hx => ?_) hS
            exact (hst x hx).same (by rw [execOp_put oi hsi _ oj.dst undef p3]; rfl) (by rw [wanted_put oi _ oj.dst undef p3])
          case enter fn args =>
            refine Calls.mono hp fun e w'' he => ?_
            cases e with
            | returned u => exact ⟨he.1, step u w'' (nol he.1) (.inl hst) he.2⟩
            | panicked c => exact he
            | outgrown => exact he
          case row row args => exact Rows.mono hp fun u w'' he => ⟨he.1, step u w'' (nol he.1) (.inl hst) he.2⟩
        | halt x w' =>
          cases x <;> simp only [Oper.upon] at hp ⊢
      · rw [wanted_put oj a oi.dst v p1] at hw
        have hst : ∀ u, C u → Yat P ops oi v a u := by
          rcases hy with h | ⟨_, h⟩
          · exact h
          · have := h j hji hjun hh; rw [hnD] at this; cases this
        exact .inl ⟨hh, .inr ⟨hw, step undef w hC (.inl hst) hp⟩⟩
      · exact .inr ⟨hh, u, hyj.same (execOp_put oj hsj a oi.dst v p1).symm (wanted_put oj a oi.dst v p1).symm, step u w hC (.inr ⟨rfl, hh⟩) hp⟩
/-- Orders: one behind the other, or two that come in any order. -/
inductive Sc where
  | done
  | step (k i : Nat) (r : Sc)
  | fork (i : Nat) (x : Sc) (j : Nat) (y : Sc)
def Sc.len : Sc → Nat
  | .done => 0
  | .step _ _ r => r.len + 1
  | .fork _ x _ _ => x.len + 1
def Sc.isDone : Sc → Bool
  | .done => true
  | _ => false
/-- The operations in one order: 0: one value in every world of C; 1: one value here; 2: it turns the world. -/
def wpMix (P : Program) (ops : Array Oper) (C : World → Prop) (K : Act → World → Prop) : Sc → Act → World → Prop
  | .done, a, w => K a w
  | .fork i x j y, a, w => (∃ o, ops[i]? = some o ∧ o.guard = none ∧ o.wp P a w (fun a' w' => C w' ∧ wpMix P ops C K x a' w') (fun _ _ _ => False)) ∧ (∃ o, ops[j]? = some o ∧ o.guard = none ∧ o.wp P a w (fun a' w' => C w' ∧ wpMix P ops C K y a' w') (fun _ _ _ => False))
  | .step k i r, a, w => ∃ o, ops[i]? = some o ∧
      (Region.wanted o (yielded ops a.tmps) = true → match k with
        | 0 => ∃ v, (∀ u, C u → (execOp a.eval o).run P u = .ok (.value v) u) ∧ wpMix P ops C K r (a.put o.dst v) w
        | 1 => ∃ v, (execOp a.eval o).run P w = .ok (.value v) w ∧ wpMix P ops C K r (a.put o.dst v) w
        | 2 => o.wp P a w (fun a' w' => C w' ∧ wpMix P ops C K r a' w') (fun _ _ _ => False)
        | _ => o.wp P a w (fun a' w' => wpMix P ops C K r a' w') (fun _ _ _ => False)) ∧
      (Region.wanted o (yielded ops a.tmps) = false → wpMix P ops C K r (a.put o.dst undef) w)
/-- Operations that cannot come ahead of i. -/
def blocked (md : Region.Mode) (ops : Array Oper) (listed : Array Bool) (i : Nat) : Array Bool :=
  (List.range ops.size).foldl (fun D j => D.push (!listed.getD j true && (match ops[j]? with | some oj => oj.after.any (fun e => Region.binds md e && (e.on == i || D.getD e.on false)) | none => false))) #[]
def chkD (md : Region.Mode) (ops : Array Oper) (listed : Array Bool) (i : Nat) (D : Nat → Bool) (n : Nat) : Bool :=
  (List.range n).all fun j => !D j || (!listed.getD j true && (match ops[j]? with | some oj => oj.after.any (fun e => Region.binds md e && (e.on == i || D e.on)) | none => false))
def waits (ops : Array Oper) (hv : Nat → Bool) (listed : Array Bool) (i : Nat) (D : Nat → Bool) : Bool :=
  (List.range listed.size).all fun j => j == i || listed.getD j true || !hv j || D j
def heavyWait (md : Region.Mode) (ops : Array Oper) (hv : Nat → Bool) (listed : Array Bool) (i : Nat) : Bool :=
  let D := blocked md ops listed i
  chkD md ops listed i (fun j => D.getD j false) D.size && waits ops hv listed i (fun j => D.getD j false)
theorem chkD_spec {listed : Array Bool} {i : Nat} {A : Array Bool} (h : chkD md ops listed i (fun j => A.getD j false) A.size = true) : ∀ j, A.getD j false = true → listed.getD j true = false ∧ ∃ oj, ops[j]? = some oj ∧ ∃ e ∈ oj.after, Region.binds md e = true ∧ (e.on = i ∨ A.getD e.on false = true) := by
  intro j hj
  simp only [chkD, List.all_eq_true, List.mem_range] at h
  have hlt : j < A.size := by
    rcases Nat.lt_or_ge j A.size with h' | h'
    · exact h'
    · rw [Array.getD_eq_getD_getElem?, Array.getElem?_eq_none h'] at hj; cases hj
  have h1 := h j hlt
  rw [hj] at h1
  simp only [Bool.not_true, Bool.false_or, Bool.and_eq_true, Bool.not_eq_true'] at h1
  refine ⟨h1.1, ?_⟩
  cases ho : ops[j]? with
  | none => rw [ho] at h1; cases h1.2
  | some oj =>
    rw [ho] at h1
    obtain ⟨e, he, hb⟩ := Array.any_eq_true'.1 h1.2
    simp only [Bool.and_eq_true, Bool.or_eq_true, beq_iff_eq] at hb
    exact ⟨oj, rfl, e, he, hb.1, hb.2⟩
theorem waits_spec {listed : Array Bool} {i : Nat} {D : Nat → Bool} (h : waits ops hv listed i D = true) : ∀ j, j ≠ i → listed.getD j true = false → hv j = true → D j = true := by
  intro j hne hun hvj
  simp only [waits, List.all_eq_true, List.mem_range] at h
  have hlt : j < listed.size := by
    rcases Nat.lt_or_ge j listed.size with h' | h'
    · exact h'
    · rw [Array.getD_eq_getD_getElem?, Array.getElem?_eq_none h'] at hun; cases hun
  have h1 := h j hlt
  simpa [hne, hun, hvj] using h1
/-- The order is one that serves all orders. -/
def schedB (md : Region.Mode) (ops : Array Oper) (hv hl : Nat → Bool) : Sc → Array Bool → Bool
  | .done, listed => (Region.ready md ops listed).isEmpty
  | .fork i x j y, listed => hv i && hv j && (Region.ready md ops listed == [i, j]) && (x.len == y.len) && schedB md ops hv hl x (listed.setIfInBounds i true) && schedB md ops hv hl y (listed.setIfInBounds j true)
  | .step k i r, listed => (match k with
      | 0 => !hv i && (Region.ready md ops listed).contains i && Region.free md ops listed i && heavyWait md ops hl listed i
      | 1 => !hv i && (Region.ready md ops listed).contains i && Region.free md ops listed i && heavyWait md ops hv listed i && heavyWait md ops hl listed i
      | 2 => hv i && Region.ready md ops listed == [i]
      | _ => hv i && hl i && r.isDone && Region.ready md ops listed == [i]) && schedB md ops hv hl r (listed.setIfInBounds i true)
theorem anyS_of_mix (hsel : Region.noSelect ops = true) : ∀ (s : Sc) (listed : Array Bool) (a : Act) (w : World), schedB md ops hv hl s listed = true → (s = .done ∨ C w) → wpMix P ops C K s a w → AnyS P md ops hv hl C K s.len listed a w
  | .done, listed, a, w, hB, _, h => ⟨by simpa [schedB] using hB, h⟩
  | .fork i x j y, listed, a, w, hB, hC0, h => by
    simp only [schedB, Bool.and_eq_true, beq_iff_eq] at hB
    obtain ⟨⟨⟨⟨⟨b1, b2⟩, b3⟩, b4⟩, b5⟩, b6⟩ := hB
    obtain ⟨⟨oi, hi, gi, pi⟩, ⟨oj, hj, gj, pj⟩⟩ := h
    refine ⟨(fun h0 => by rw [b3] at h0; cases h0), fun q hq => ?_⟩
    rw [b3] at hq
    rcases List.mem_cons.1 hq with rfl | hq
    · exact ⟨oi, hi, .inl ⟨b1, .inl ⟨want0 gi, wp_false_mono pi fun a' w' hh => ⟨.inr hh.1, anyS_of_mix hsel x _ _ _ b5 (.inr hh.1) hh.2⟩⟩⟩⟩
    · obtain rfl : q = j := by simpa using hq
      exact ⟨oj, hj, .inl ⟨b2, .inl ⟨want0 gj, wp_false_mono pj fun a' w' hh => ⟨.inr hh.1, by have := anyS_of_mix hsel y _ _ _ b6 (.inr hh.1) hh.2; rw [← b4] at this; exact this⟩⟩⟩⟩
  | .step k i r, listed, a, w, hB, hC0, h => by
    have hC : C w := hC0.elim (fun h => by cases h) id
    obtain ⟨o, ho, hon, hoff⟩ := h
    simp only [schedB, Bool.and_eq_true] at hB
    obtain ⟨hk, hr⟩ := hB
    have quiet : ∀ v, hv i = false → (Region.ready md ops listed).contains i = true → Region.free md ops listed i = true → heavyWait md ops hl listed i = true → ((∀ u, C u → Yat P ops o v a u) ∨ (Yat P ops o v a w ∧ heavyWait md ops hv listed i = true)) → wpMix P ops C K r (a.put o.dst v) w → AnyS P md ops hv hl C K (r.len + 1) listed a w := by
      intro v h1 h2 h3 h4 hy hm
      refine anyS_first ho (Region.noSelect_spec hsel) h1 r.len listed a w (D := fun j => (blocked md ops listed i).getD j false) (Region.free_spec ho h3) (chkD_spec (Bool.and_eq_true _ _ ▸ h4).1) (waits_spec (Bool.and_eq_true _ _ ▸ h4).2) (by simpa using h2) hC ?_ (anyS_of_mix hsel r _ _ _ hr (.inr hC) hm)
      rcases hy with h | ⟨h, hh⟩
      · exact .inl h
      · exact .inr ⟨h, waits_spec (Bool.and_eq_true _ _ ▸ hh).2⟩
    cases hw : Region.wanted o (yielded ops a.tmps) with
    | true =>
      have hon' := hon hw
      match k, hk, hon' with
      | 0, hk, ⟨v, hv1, hm⟩ =>
        simp only [Bool.and_eq_true, Bool.not_eq_true'] at hk
        exact quiet v hk.1.1.1 hk.1.1.2 hk.1.2 hk.2 (.inl fun u hu => .inl ⟨hw, hv1 u hu⟩) hm
      | 1, hk, ⟨v, hv1, hm⟩ =>
        simp only [Bool.and_eq_true, Bool.not_eq_true'] at hk
        exact quiet v hk.1.1.1.1 hk.1.1.1.2 hk.1.1.2 hk.2 (.inr ⟨.inl ⟨hw, hv1⟩, hk.1.2⟩) hm
      | 2, hk, hon' =>
        simp only [Bool.and_eq_true, beq_iff_eq] at hk
        refine ⟨(fun h0 => by rw [hk.2] at h0; cases h0), fun j hj => ?_⟩
        rw [hk.2] at hj
        simp at hj; subst hj
        exact ⟨o, ho, .inl ⟨hk.1, .inl ⟨hw, wp_false_mono hon' fun a' w' hh => ⟨.inr hh.1, anyS_of_mix hsel r _ _ _ hr (.inr hh.1) hh.2⟩⟩⟩⟩
      | k + 3, hk, hon' =>
        simp only [Bool.and_eq_true, beq_iff_eq] at hk
        obtain ⟨⟨⟨q1, q2⟩, q3⟩, q4⟩ := hk
        have hr0 : r = .done := by cases r <;> first | rfl | (simp [Sc.isDone] at q3)
        refine ⟨(fun h0 => by rw [q4] at h0; cases h0), fun j hj => ?_⟩
        rw [q4] at hj
        simp at hj; subst hj
        exact ⟨o, ho, .inl ⟨q1, .inl ⟨hw, wp_false_mono hon' fun a' w' hh => ⟨.inl q2, anyS_of_mix hsel r _ _ _ hr (.inl hr0) hh⟩⟩⟩⟩
    | false =>
      have hm := hoff hw
      match k, hk with
      | 0, hk =>
        simp only [Bool.and_eq_true, Bool.not_eq_true'] at hk
        exact quiet undef hk.1.1.1 hk.1.1.2 hk.1.2 hk.2 (.inl fun u hu => .inr ⟨hw, rfl⟩) hm
      | 1, hk =>
        simp only [Bool.and_eq_true, Bool.not_eq_true'] at hk
        exact quiet undef hk.1.1.1.1 hk.1.1.1.2 hk.1.1.2 hk.2 (.inr ⟨.inr ⟨hw, rfl⟩, hk.1.2⟩) hm
      | 2, hk =>
        simp only [Bool.and_eq_true, beq_iff_eq] at hk
        refine ⟨(fun h0 => by rw [hk.2] at h0; cases h0), fun j hj => ?_⟩
        rw [hk.2] at hj
        simp at hj; subst hj
        exact ⟨o, ho, .inl ⟨hk.1, .inr ⟨hw, anyS_of_mix hsel r _ _ _ hr (.inr hC) hm⟩⟩⟩
      | k + 3, hk =>
        simp only [Bool.and_eq_true, beq_iff_eq] at hk
        obtain ⟨⟨⟨q1, q2⟩, q3⟩, q4⟩ := hk
        refine ⟨(fun h0 => by rw [q4] at h0; cases h0), fun j hj => ?_⟩
        rw [q4] at hj
        simp at hj; subst hj
        exact ⟨o, ho, .inl ⟨q1, .inr ⟨hw, anyS_of_mix hsel r _ _ _ hr (.inr hC) hm⟩⟩⟩
/-- A region, by one order. -/
theorem mix_region {id : Nat} {Q : Exit → Act → World → Prop} {a : Act} {w : World} {l : List Oper} (hs hz : List Nat) (s : Sc) (C : World → Prop) (hm : P.follows .mixedOrders = true)
    (hB : (Region.noSelect l.toArray && schedB .any l.toArray (fun i => hs.contains i) (fun i => hz.contains i) s (Array.replicate l.toArray.size false) && (s.len == l.toArray.size)) = true) (hC : C w.drew)
    (h : wpMix P l.toArray C (Q .normal) s a w.drew) : (Code.region id l.toArray true).wp P Q a w := by
  simp only [Bool.and_eq_true, beq_iff_eq] at hB
  obtain ⟨⟨h1, h2⟩, h3⟩ := hB
  refine wp_region_any hm ?_
  have := any_of_S (Q := Q) (fun a w h => h) _ _ _ _ (anyS_of_mix h1 s _ a w.drew h2 (.inr hC) h)
  rw [h3] at this
  exact this
end
section
variable {P : Program} {ops : Array Oper} {C : World → Prop} {K : Act → World → Prop} {N : Fs} {a : Act} {l : List (Nat × Value)} {w : World} {i d : Nat} {o : Oper} {r : Sc} {v : Value}
theorem m_pure (F : Fr N a l) (hi : ops[i]? = some o) (hg : o.guard = none) (hd : o.dst = some d) (hN : Nat.blt d N.n = true) (hr : ∀ u, C u → (execOp a.eval o).run P u = .ok (.value v) u)
    (hk : ∀ a', Fr N a' ((d, v) :: l) → wpMix P ops C K r a' w) : wpMix P ops C K (.step 0 i r) a w :=
  ⟨o, hi, fun _ => ⟨v, hr, by rw [hd]; exact hk _ (F.put hN v)⟩, fun h => by rw [want0 hg] at h; cases h⟩
theorem m_read (F : Fr N a l) (hi : ops[i]? = some o) (hg : o.guard = none) (hd : o.dst = some d) (hN : Nat.blt d N.n = true) (hr : (execOp a.eval o).run P w = .ok (.value v) w)
    (hk : ∀ a', Fr N a' ((d, v) :: l) → wpMix P ops C K r a' w) : wpMix P ops C K (.step 1 i r) a w :=
  ⟨o, hi, fun _ => ⟨v, hr, by rw [hd]; exact hk _ (F.put hN v)⟩, fun h => by rw [want0 hg] at h; cases h⟩
/-- One that turns the world is walked by itself. -/
theorem m_heavy (hi : ops[i]? = some o) (hg : o.guard = none) (h : wpList P ops (Exit.then (fun a' w' => C w' ∧ wpMix P ops C K r a' w') (fun _ _ _ => False)) [o] a w) : wpMix P ops C K (.step 2 i r) a w := by
  refine ⟨o, hi, fun hw => ?_, fun hw => by rw [want0 hg] at hw; cases hw⟩
  unfold wpList at h
  rw [if_pos hw] at h
  rcases h with h | ⟨_, _, _, h⟩
  · unfold Oper.wp at *
    generalize (execOp a.eval o).run P w = r at *
    cases r with
    | ok n w' =>
      cases n <;> simp only [Oper.upon] at h ⊢
      case value v => exact h
      case skip => exact h
      case defer d => exact h
      case enter f args =>
        refine Calls.mono h fun e w'' he => ?_
        cases e with
        | returned u => exact he
        | panicked c => exact he
        | outgrown => obtain ⟨_, _, h⟩ := he; exact h.elim
      case row row args => exact h
    | halt x w' =>
      cases x <;> simp only [Oper.upon] at h ⊢
      case panic v => exact h
  · exact h.elim
/-- The last one. -/
theorem m_last (hi : ops[i]? = some o) (hg : o.guard = none) (h : wpList P ops (Exit.then (fun a' w' => wpMix P ops C K r a' w') (fun _ _ _ => False)) [o] a w) : wpMix P ops C K (.step 3 i r) a w := by
  refine ⟨o, hi, fun hw => ?_, fun hw => by rw [want0 hg] at hw; cases hw⟩
  unfold wpList at h
  rw [if_pos hw] at h
  rcases h with h | ⟨_, _, _, h⟩
  · unfold Oper.wp at *
    generalize (execOp a.eval o).run P w = r at *
    cases r with
    | ok n w' =>
      cases n <;> simp only [Oper.upon] at h ⊢
      case value v => exact h
      case skip => exact h
      case defer d => exact h
      case enter f args =>
        refine Calls.mono h fun e w'' he => ?_
        cases e with
        | returned u => exact he
        | panicked c => exact he
        | outgrown => obtain ⟨_, _, h⟩ := he; exact h.elim
      case row row args => exact h
    | halt x w' =>
      cases x <;> simp only [Oper.upon] at h ⊢
      case panic v => exact h
  · exact h.elim
theorem m_fork {x y : Sc} {j : Nat} {p : Oper} (hi : ops[i]? = some o) (hg : o.guard = none) (hj : ops[j]? = some p) (hg2 : p.guard = none) (h : wpMix P ops C K (.step 2 i x) a w) (h2 : wpMix P ops C K (.step 2 j y) a w) : wpMix P ops C K (.fork i x j y) a w := by
  obtain ⟨o1, e1, f1, _⟩ := h
  obtain ⟨o2, e2, f2, _⟩ := h2
  obtain rfl : o = o1 := by rw [hi] at e1; exact Option.some.inj e1
  obtain rfl : p = o2 := by rw [hj] at e2; exact Option.some.inj e2
  exact ⟨⟨o, hi, hg, f1 (want0 hg)⟩, ⟨p, hj, hg2, f2 (want0 hg2)⟩⟩
theorem m_on {k s : Nat} {bb : Bool} {g : Nat} {og : Oper} (F : Fr N a l) (hi : ops[i]? = some o) (hgd : o.guard = some (g, bb)) (hog : ops[g]? = some og) (hog2 : og.dst = some s) (hv : lk s l = some (.bool bb)) (hd : o.dst = some d) (hN : Nat.blt d N.n = true)
    (hr : ∀ u, C u → (execOp a.eval o).run P u = .ok (.value v) u) (hk : ∀ a', Fr N a' ((d, v) :: l) → wpMix P ops C K r a' w) : wpMix P ops C K (.step 0 i r) a w :=
  ⟨o, hi, fun _ => ⟨v, hr, by rw [hd]; exact hk _ (F.put hN v)⟩, fun h => by rw [want_on F hgd hog hog2 hv] at h; cases h⟩
theorem m_on1 {k s : Nat} {bb : Bool} {g : Nat} {og : Oper} (F : Fr N a l) (hi : ops[i]? = some o) (hgd : o.guard = some (g, bb)) (hog : ops[g]? = some og) (hog2 : og.dst = some s) (hv : lk s l = some (.bool bb)) (hd : o.dst = some d) (hN : Nat.blt d N.n = true)
    (hr : (execOp a.eval o).run P w = .ok (.value v) w) (hk : ∀ a', Fr N a' ((d, v) :: l) → wpMix P ops C K r a' w) : wpMix P ops C K (.step 1 i r) a w :=
  ⟨o, hi, fun _ => ⟨v, hr, by rw [hd]; exact hk _ (F.put hN v)⟩, fun h => by rw [want_on F hgd hog hog2 hv] at h; cases h⟩
theorem m_off {kk s : Nat} {bb cc : Bool} {g : Nat} {og : Oper} (F : Fr N a l) (hi : ops[i]? = some o) (hgd : o.guard = some (g, bb)) (hog : ops[g]? = some og) (hog2 : og.dst = some s) (hv : lk s l = some (.bool cc)) (hne : (cc == bb) = false) (hd : o.dst = some d) (hN : Nat.blt d N.n = true)
    (hk : ∀ a', Fr N a' ((d, undef) :: l) → wpMix P ops C K r a' w) : wpMix P ops C K (.step kk i r) a w :=
  ⟨o, hi, (fun h => by rw [want_off F hgd hog hog2 hv hne] at h; cases h), fun _ => by rw [hd]; exact hk _ (F.put hN _)⟩
theorem m_nil (h : K a w) : wpMix P ops C K .done a w := h
end
end Go.Tri
