/- The engine: a region that draws its order, in which memory is written or made: operations that give one value whenever they are carried out come first. -/
import Derived.Test.YtodggokkklfopaaDoorL
set_option linter.unusedSimpArgs false
set_option linter.unusedVariables false
namespace Go.Tri
open Go.RowKit
section
variable {P : Program} {md : Region.Mode} {ops : Array Oper} {hv : Nat → Bool} {C : World → Prop} {K : Act → World → Prop}
/-- In this world the operation leaves v in its slot, and nothing else. -/
def Yat (P : Program) (ops : Array Oper) (o : Oper) (v : Value) (a : Act) (w : World) : Prop :=
  (Region.wanted o (yielded ops a.tmps) = true ∧ (execOp a.eval o).run P w = .ok (.value v) w) ∨ (Region.wanted o (yielded ops a.tmps) = false ∧ v = undef)
/-- Whatever order is picked: the operations hv turn the world and keep to C, all others leave it. -/
def AnyS (P : Program) (md : Region.Mode) (ops : Array Oper) (hv : Nat → Bool) (C : World → Prop) (K : Act → World → Prop) : Nat → Array Bool → Act → World → Prop
  | 0, listed, a, w => Region.ready md ops listed = [] ∧ K a w
  | f + 1, listed, a, w => (Region.ready md ops listed = [] → K a w) ∧ ∀ i ∈ Region.ready md ops listed, ∃ o, ops[i]? = some o ∧
      ((hv i = true ∧ ((Region.wanted o (yielded ops a.tmps) = true ∧ o.wp P a w (fun a' w' => C w' ∧ AnyS P md ops hv C K f (listed.setIfInBounds i true) a' w') (fun _ _ _ => False)) ∨
          (Region.wanted o (yielded ops a.tmps) = false ∧ AnyS P md ops hv C K f (listed.setIfInBounds i true) (a.put o.dst undef) w))) ∨
       (hv i = false ∧ ∃ v, Yat P ops o v a w ∧ AnyS P md ops hv C K f (listed.setIfInBounds i true) (a.put o.dst v) w))
theorem wp_false_mono {o : Oper} {a : Act} {w : World} {J J' : Act → World → Prop} {Q : Exit → Act → World → Prop} (h : o.wp P a w J (fun _ _ _ => False)) (hj : ∀ a w, J a w → J' a w) : o.wp P a w J' Q := by
  unfold Oper.wp at *
  generalize (execOp a.eval o).run P w = r at *
  cases r with
  | ok n w' =>
    cases n <;> simp only [Oper.upon] at h ⊢
    case value v => exact hj _ _ h
    case skip => exact hj _ _ h
    case defer d => exact hj _ _ h
    case enter f args =>
      refine Calls.mono h fun e w'' he => ?_
      cases e with
      | returned u => exact hj _ _ he
      | panicked c => exact he.elim
      | outgrown => obtain ⟨_, _, h⟩ := he; exact h.elim
    case row row args => exact Rows.mono h fun u w'' he => hj _ _ he
  | halt x w' =>
    cases x <;> simp only [Oper.upon] at h ⊢
theorem any_of_S {Q : Exit → Act → World → Prop} (hQ : ∀ a w, K a w → Q .normal a w) : ∀ (f : Nat) (listed : Array Bool) (a : Act) (w : World), AnyS P md ops hv C K f listed a w → wpAny P md ops Q f listed a w
  | 0, _, _, _, h => ⟨h.1, hQ _ _ h.2⟩
  | f + 1, listed, a, w, h => by
    refine ⟨fun h0 => hQ _ _ (h.1 h0), fun i hi => ?_⟩
    obtain ⟨o, ho, hh⟩ := h.2 i hi
    unfold wpOp
    simp only [ho]
    rcases hh with ⟨_, ⟨hw, hp⟩ | ⟨hw, hp⟩⟩ | ⟨_, v, ⟨hw, hr⟩ | ⟨hw, rfl⟩, hp⟩
    · rw [if_pos hw]; exact .inl (wp_false_mono hp fun a' w' hk => any_of_S hQ f _ a' w' hk.2)
    · rw [if_neg (by rw [hw]; simp)]; exact any_of_S hQ f _ _ _ hp
    · rw [if_pos hw]; refine .inl ?_; unfold Oper.wp; rw [hr]; exact any_of_S hQ f _ _ _ hp
    · rw [if_neg (by rw [hw]; simp)]; exact any_of_S hQ f _ _ _ hp
theorem Yat.same {o : Oper} {v : Value} {a a' : Act} {w : World} (hy : Yat P ops o v a w) (he : execOp a'.eval o = execOp a.eval o) (hw : Region.wanted o (yielded ops a'.tmps) = Region.wanted o (yielded ops a.tmps)) : Yat P ops o v a' w := by
  unfold Yat at *; rw [he, hw]; exact hy
/-- An operation that gives one value, whenever: in every world of C; or in this one, where none that turns the world goes ahead of it. -/
theorem anyS_first {i : Nat} {oi : Oper} {v : Value} (hi : ops[i]? = some oi) (hsel : ∀ (j : Nat) (o : Oper) cs b, ops[j]? = some o → o.op ≠ .select cs b) (hnh : hv i = false) :
    ∀ (f : Nat) (listed : Array Bool) (a : Act) (w : World),
      (∀ j oj, ops[j]? = some oj → j ≠ i → listed.getD j true = false → (∀ e ∈ oj.after, Region.binds md e = true → e.on ≠ i) → oi.apart ops oj = true) →
      i ∈ Region.ready md ops listed → C w →
      ((∀ u, C u → Yat P ops oi v a u) ∨ (Yat P ops oi v a w ∧ ∀ j oj, ops[j]? = some oj → j ≠ i → listed.getD j true = false → (∀ e ∈ oj.after, Region.binds md e = true → e.on ≠ i) → hv j = false)) →
      AnyS P md ops hv C K f (listed.setIfInBounds i true) (a.put oi.dst v) w → AnyS P md ops hv C K (f + 1) listed a w := by
  intro f
  induction f with
  | zero =>
    intro listed a w _ hr hC hy H
    refine ⟨fun h => (by rw [h] at hr; cases hr), fun j hj => ?_⟩
    by_cases hji : j = i
    · subst hji
      exact ⟨oi, hi, .inr ⟨hnh, v, hy.elim (fun h => h w hC) (fun h => h.1), H⟩⟩
    · have := ready_mono hj hji
      rw [H.1] at this
      cases this
  | succ f ih =>
    intro listed a w hfree hr hC hy H
    refine ⟨fun h => (by rw [h] at hr; cases hr), fun j hj => ?_⟩
    by_cases hji : j = i
    · subst hji
      exact ⟨oi, hi, .inr ⟨hnh, v, hy.elim (fun h => h w hC) (fun h => h.1), H⟩⟩
    · obtain ⟨oj, hoj, h1⟩ := H.2 j (ready_mono hj hji)
      obtain ⟨hjun, oj', hoj', hall⟩ := mem_ready.1 hj
      obtain rfl : oj = oj' := by rw [hoj] at hoj'; exact Option.some.inj hoj'
      have hnot : ∀ e ∈ oj.after, Region.binds md e = true → e.on ≠ i := fun e he hb heq => by
        have h1 := hall e he hb
        have h0 := (mem_ready.1 hr).1
        rw [heq] at h1
        rcases Nat.lt_or_ge i listed.size with h' | h'
        · simp [h'] at h0 h1; rw [h0] at h1; cases h1
        · simp [Array.getElem?_eq_none h'] at h1
      have hap := hfree j oj hoj hji hjun hnot
      obtain ⟨p1, p2, p3⟩ := Oper.apart_spec hap
      have hsi := fun cs b => hsel i oi cs b hi
      have hsj := fun cs b => hsel j oj cs b hoj
      have hfree' : ∀ k ok, ops[k]? = some ok → k ≠ i → (listed.setIfInBounds j true).getD k true = false →
          (∀ e ∈ ok.after, Region.binds md e = true → e.on ≠ i) → oi.apart ops ok = true := fun k ok hk hki hun hno => by
        refine hfree k ok hk hki ?_ hno
        by_cases hjk : j = k
        · subst hjk; exact hjun
        · rw [getD_set_ne true hjk] at hun; exact hun
      have hheavy' : (∀ j oj, ops[j]? = some oj → j ≠ i → listed.getD j true = false → (∀ e ∈ oj.after, Region.binds md e = true → e.on ≠ i) → hv j = false) →
          ∀ k ok, ops[k]? = some ok → k ≠ i → (listed.setIfInBounds j true).getD k true = false → (∀ e ∈ ok.after, Region.binds md e = true → e.on ≠ i) → hv k = false := fun hh k ok hk hki hun hno => by
        refine hh k ok hk hki ?_ hno
        by_cases hjk : j = k
        · subst hjk; exact hjun
        · rw [getD_set_ne true hjk] at hun; exact hun
      have keep : ∀ (u : Value) (w' : World), Yat P ops oi v a w' → Yat P ops oi v (a.put oj.dst u) w' := fun u w' hy =>
        hy.same (execOp_put oi hsi a oj.dst u p3) (wanted_put oi a oj.dst u p3)
      have step : ∀ (u : Value) (w' : World), C w' → ((∀ u, C u → Yat P ops oi v a u) ∨ (w' = w ∧ hv j = false)) → AnyS P md ops hv C K f ((listed.setIfInBounds i true).setIfInBounds j true) ((a.put oi.dst v).put oj.dst u) w' →
          AnyS P md ops hv C K (f + 1) (listed.setIfInBounds j true) (a.put oj.dst u) w' := by
        intro u w' hC' hcase hS
        refine ih _ _ _ hfree' (ready_mono hr (Ne.symm hji)) hC' ?_ ?_
        · rcases hcase with h | ⟨rfl, _⟩
          · exact .inl fun x hx => keep u x (h x hx)
          · rcases hy with h | ⟨h, hh⟩
            · exact .inl fun x hx => keep u x (h x hx)
            · exact .inr ⟨keep u _ h, hheavy' hh⟩
        · rw [Array.setIfInBounds_comm _ _ hji, ← Act.put_comm a v u p2]; exact hS
      refine ⟨oj, hoj, ?_⟩
      rcases h1 with ⟨hh, ⟨hw, hp⟩ | ⟨hw, hp⟩⟩ | ⟨hh, u, hyj, hp⟩
      · -- one that turns the world
        have hst : ∀ u, C u → Yat P ops oi v a u := by
          rcases hy with h | ⟨_, h⟩
          · exact h
          · have := h j oj hoj hji hjun hnot; rw [hh] at this; cases this
        rw [wanted_put oj a oi.dst v p1] at hw
        refine .inl ⟨hh, .inl ⟨hw, ?_⟩⟩
        unfold Oper.wp at *
        rw [execOp_put oj hsj a oi.dst v p1] at hp
        generalize (execOp a.eval oj).run P w = r at *
        cases r with
        | ok n w' =>
          cases n <;> simp only [Oper.upon] at hp ⊢
          case value u => exact ⟨hp.1, step u w' hp.1 (.inl hst) hp.2⟩
          case skip => exact ⟨hp.1, step undef w' hp.1 (.inl hst) hp.2⟩
          case defer d =>
            refine ⟨hp.1, ?_⟩
            have hS := hp.2
            have e1 : ({ a.put oi.dst v with defers := d :: (a.put oi.dst v).defers } : Act) = ({ a with defers := d :: a.defers } : Act).put oi.dst v := Act.put_defers a oi.dst v d
            rw [e1, Act.put_comm _ v undef p2, Array.setIfInBounds_comm _ _ (Ne.symm hji)] at hS
            refine ih _ _ _ hfree' (ready_mono hr (Ne.symm hji)) hp.1 (.inl fun x hx => ?_) hS
            exact (hst x hx).same (by rw [execOp_put oi hsi _ oj.dst undef p3]; rfl) (by rw [wanted_put oi _ oj.dst undef p3])
          case enter fn args =>
            refine Calls.mono hp fun e w'' he => ?_
            cases e with
            | returned u => exact ⟨he.1, step u w'' he.1 (.inl hst) he.2⟩
            | panicked c => exact he
            | outgrown => exact he
          case row row args => exact Rows.mono hp fun u w'' he => ⟨he.1, step u w'' he.1 (.inl hst) he.2⟩
        | halt x w' =>
          cases x <;> simp only [Oper.upon] at hp ⊢
      · rw [wanted_put oj a oi.dst v p1] at hw
        have hst : ∀ u, C u → Yat P ops oi v a u := by
          rcases hy with h | ⟨_, h⟩
          · exact h
          · have := h j oj hoj hji hjun hnot; rw [hh] at this; cases this
        exact .inl ⟨hh, .inr ⟨hw, step undef w hC (.inl hst) hp⟩⟩
      · exact .inr ⟨hh, u, hyj.same (execOp_put oj hsj a oi.dst v p1).symm (wanted_put oj a oi.dst v p1).symm, step u w hC (.inr ⟨rfl, hh⟩) hp⟩
/-- The operations in one order: 0: one value in every world of C; 1: one value here; 2: it turns the world. -/
def wpMix (P : Program) (ops : Array Oper) (C : World → Prop) (K : Act → World → Prop) : List (Nat × Nat) → Act → World → Prop
  | [], a, w => K a w
  | (k, i) :: r, a, w => ∃ o, ops[i]? = some o ∧
      (Region.wanted o (yielded ops a.tmps) = true → match k with
        | 0 => ∃ v, (∀ u, C u → (execOp a.eval o).run P u = .ok (.value v) u) ∧ wpMix P ops C K r (a.put o.dst v) w
        | 1 => ∃ v, (execOp a.eval o).run P w = .ok (.value v) w ∧ wpMix P ops C K r (a.put o.dst v) w
        | _ => o.wp P a w (fun a' w' => C w' ∧ wpMix P ops C K r a' w') (fun _ _ _ => False)) ∧
      (Region.wanted o (yielded ops a.tmps) = false → wpMix P ops C K r (a.put o.dst undef) w)
def heavyWait (md : Region.Mode) (ops : Array Oper) (hv : Nat → Bool) (listed : Array Bool) (i : Nat) : Bool :=
  (List.range ops.size).all fun j => j == i || listed.getD j true || !hv j || (match ops[j]? with | some oj => oj.after.any (fun e => Region.binds md e && e.on == i) | none => true)
/-- The order is one that serves all orders. -/
def schedB (md : Region.Mode) (ops : Array Oper) (hv : Nat → Bool) : List (Nat × Nat) → Array Bool → Bool
  | [], listed => (Region.ready md ops listed).isEmpty
  | (k, i) :: r, listed => (match k with
      | 0 => !hv i && (Region.ready md ops listed).contains i && Region.free md ops listed i
      | 1 => !hv i && (Region.ready md ops listed).contains i && Region.free md ops listed i && heavyWait md ops hv listed i
      | _ => hv i && Region.ready md ops listed == [i]) && schedB md ops hv r (listed.setIfInBounds i true)
theorem heavyWait_spec {listed : Array Bool} {i : Nat} (h : heavyWait md ops hv listed i = true) : ∀ j oj, ops[j]? = some oj → j ≠ i → listed.getD j true = false → (∀ e ∈ oj.after, Region.binds md e = true → e.on ≠ i) → hv j = false := by
  intro j oj hj hne hun hno
  simp only [heavyWait, List.all_eq_true, List.mem_range] at h
  have h1 := h j (Array.getElem?_eq_some_iff.1 hj).1
  simp only [hj, Bool.or_eq_true, beq_iff_eq, hne, false_or, hun, Bool.false_eq_true, Bool.not_eq_true'] at h1
  rcases h1 with h1 | h1
  · exact h1
  · obtain ⟨e, he, hb⟩ := Array.any_eq_true'.1 h1
    simp only [Bool.and_eq_true, beq_iff_eq] at hb
    exact absurd hb.2 (hno e he hb.1)
theorem anyS_of_mix (hsel : Region.noSelect ops = true) : ∀ (s : List (Nat × Nat)) (listed : Array Bool) (a : Act) (w : World), schedB md ops hv s listed = true → C w → wpMix P ops C K s a w → AnyS P md ops hv C K s.length listed a w
  | [], listed, a, w, hB, _, h => ⟨by simpa [schedB] using hB, h⟩
  | (k, i) :: r, listed, a, w, hB, hC, h => by
    obtain ⟨o, ho, hon, hoff⟩ := h
    simp only [schedB, Bool.and_eq_true] at hB
    obtain ⟨hk, hr⟩ := hB
    have quiet : ∀ v, hv i = false → (Region.ready md ops listed).contains i = true → Region.free md ops listed i = true → ((∀ u, C u → Yat P ops o v a u) ∨ (Yat P ops o v a w ∧ heavyWait md ops hv listed i = true)) → wpMix P ops C K r (a.put o.dst v) w → AnyS P md ops hv C K (r.length + 1) listed a w := by
      intro v h1 h2 h3 hy hm
      refine anyS_first ho (Region.noSelect_spec hsel) h1 r.length listed a w (Region.free_spec ho h3) (by simpa using h2) hC ?_ (anyS_of_mix hsel r _ _ _ hr hC hm)
      rcases hy with h | ⟨h, hh⟩
      · exact .inl h
      · exact .inr ⟨h, heavyWait_spec hh⟩
    cases hw : Region.wanted o (yielded ops a.tmps) with
    | true =>
      have hon' := hon hw
      match k, hk, hon' with
      | 0, hk, ⟨v, hv1, hm⟩ =>
        simp only [Bool.and_eq_true, Bool.not_eq_true'] at hk
        exact quiet v hk.1.1 hk.1.2 hk.2 (.inl fun u hu => .inl ⟨hw, hv1 u hu⟩) hm
      | 1, hk, ⟨v, hv1, hm⟩ =>
        simp only [Bool.and_eq_true, Bool.not_eq_true'] at hk
        exact quiet v hk.1.1.1 hk.1.1.2 hk.1.2 (.inr ⟨.inl ⟨hw, hv1⟩, hk.2⟩) hm
      | k + 2, hk, hon' =>
        simp only [Bool.and_eq_true, beq_iff_eq] at hk
        refine ⟨(fun h0 => by rw [hk.2] at h0; cases h0), fun j hj => ?_⟩
        rw [hk.2] at hj
        simp at hj; subst hj
        exact ⟨o, ho, .inl ⟨hk.1, .inl ⟨hw, wp_false_mono hon' fun a' w' hh => ⟨hh.1, anyS_of_mix hsel r _ _ _ hr hh.1 hh.2⟩⟩⟩⟩
    | false =>
      have hm := hoff hw
      match k, hk with
      | 0, hk =>
        simp only [Bool.and_eq_true, Bool.not_eq_true'] at hk
        exact quiet undef hk.1.1 hk.1.2 hk.2 (.inl fun u hu => .inr ⟨hw, rfl⟩) hm
      | 1, hk =>
        simp only [Bool.and_eq_true, Bool.not_eq_true'] at hk
        exact quiet undef hk.1.1.1 hk.1.1.2 hk.1.2 (.inr ⟨.inr ⟨hw, rfl⟩, hk.2⟩) hm
      | k + 2, hk =>
        simp only [Bool.and_eq_true, beq_iff_eq] at hk
        refine ⟨(fun h0 => by rw [hk.2] at h0; cases h0), fun j hj => ?_⟩
        rw [hk.2] at hj
        simp at hj; subst hj
        exact ⟨o, ho, .inl ⟨hk.1, .inr ⟨hw, anyS_of_mix hsel r _ _ _ hr hC hm⟩⟩⟩
/-- A region, by one order. -/
theorem mix_region {id : Nat} {Q : Exit → Act → World → Prop} {a : Act} {w : World} {l : List Oper} (hs : List Nat) (s : List (Nat × Nat)) (C : World → Prop) (hm : P.follows .mixedOrders = true)
    (hB : (Region.noSelect l.toArray && schedB .any l.toArray (fun i => hs.contains i) s (Array.replicate l.toArray.size false) && (s.length == l.toArray.size)) = true) (hC : C w.drew)
    (h : wpMix P l.toArray C (Q .normal) s a w.drew) : (Code.region id l.toArray true).wp P Q a w := by
  simp only [Bool.and_eq_true, beq_iff_eq] at hB
  obtain ⟨⟨h1, h2⟩, h3⟩ := hB
  refine wp_region_any hm ?_
  have := any_of_S (Q := Q) (fun a w h => h) _ _ _ _ (anyS_of_mix h1 s _ a w.drew h2 hC h)
  rw [h3] at this
  exact this
end
section
variable {P : Program} {ops : Array Oper} {C : World → Prop} {K : Act → World → Prop} {N : Fs} {a : Act} {l : List (Nat × Value)} {w : World} {i d : Nat} {o : Oper} {r : List (Nat × Nat)} {v : Value}
theorem m_pure (F : Fr N a l) (hi : ops[i]? = some o) (hg : o.guard = none) (hd : o.dst = some d) (hN : Nat.blt d N.n = true) (hr : ∀ u, C u → (execOp a.eval o).run P u = .ok (.value v) u)
    (hk : ∀ a', Fr N a' ((d, v) :: l) → wpMix P ops C K r a' w) : wpMix P ops C K ((0, i) :: r) a w :=
  ⟨o, hi, fun _ => ⟨v, hr, by rw [hd]; exact hk _ (F.put hN v)⟩, fun h => by rw [want0 hg] at h; cases h⟩
theorem m_read (F : Fr N a l) (hi : ops[i]? = some o) (hg : o.guard = none) (hd : o.dst = some d) (hN : Nat.blt d N.n = true) (hr : (execOp a.eval o).run P w = .ok (.value v) w)
    (hk : ∀ a', Fr N a' ((d, v) :: l) → wpMix P ops C K r a' w) : wpMix P ops C K ((1, i) :: r) a w :=
  ⟨o, hi, fun _ => ⟨v, hr, by rw [hd]; exact hk _ (F.put hN v)⟩, fun h => by rw [want0 hg] at h; cases h⟩
/-- One that turns the world is walked by itself. -/
theorem m_heavy (hi : ops[i]? = some o) (hg : o.guard = none) (h : wpList P ops (Exit.then (fun a' w' => C w' ∧ wpMix P ops C K r a' w') (fun _ _ _ => False)) [o] a w) : wpMix P ops C K ((2, i) :: r) a w := by
  refine ⟨o, hi, fun hw => ?_, fun hw => by rw [want0 hg] at hw; cases hw⟩
  unfold wpList at h
  rw [if_pos hw] at h
  rcases h with h | ⟨_, _, _, h⟩
  · unfold Oper.wp at *
    generalize (execOp a.eval o).run P w = r at *
    cases r with
    | ok n w' =>
      cases n <;> simp only [Oper.upon] at h ⊢
      case value v => exact h
      case skip => exact h
      case defer d => exact h
      case enter f args =>
        refine Calls.mono h fun e w'' he => ?_
        cases e with
        | returned u => exact he
        | panicked c => exact he
        | outgrown => obtain ⟨_, _, h⟩ := he; exact h.elim
      case row row args => exact h
    | halt x w' =>
      cases x <;> simp only [Oper.upon] at h ⊢
      case panic v => exact h
  · exact h.elim
theorem m_on {k s : Nat} {bb : Bool} {g : Nat} {og : Oper} (F : Fr N a l) (hi : ops[i]? = some o) (hgd : o.guard = some (g, bb)) (hog : ops[g]? = some og) (hog2 : og.dst = some s) (hv : lk s l = some (.bool bb)) (hd : o.dst = some d) (hN : Nat.blt d N.n = true)
    (hr : ∀ u, C u → (execOp a.eval o).run P u = .ok (.value v) u) (hk : ∀ a', Fr N a' ((d, v) :: l) → wpMix P ops C K r a' w) : wpMix P ops C K ((0, i) :: r) a w :=
  ⟨o, hi, fun _ => ⟨v, hr, by rw [hd]; exact hk _ (F.put hN v)⟩, fun h => by rw [want_on F hgd hog hog2 hv] at h; cases h⟩
theorem m_on1 {k s : Nat} {bb : Bool} {g : Nat} {og : Oper} (F : Fr N a l) (hi : ops[i]? = some o) (hgd : o.guard = some (g, bb)) (hog : ops[g]? = some og) (hog2 : og.dst = some s) (hv : lk s l = some (.bool bb)) (hd : o.dst = some d) (hN : Nat.blt d N.n = true)
    (hr : (execOp a.eval o).run P w = .ok (.value v) w) (hk : ∀ a', Fr N a' ((d, v) :: l) → wpMix P ops C K r a' w) : wpMix P ops C K ((1, i) :: r) a w :=
  ⟨o, hi, fun _ => ⟨v, hr, by rw [hd]; exact hk _ (F.put hN v)⟩, fun h => by rw [want_on F hgd hog hog2 hv] at h; cases h⟩
theorem m_off {kk s : Nat} {bb cc : Bool} {g : Nat} {og : Oper} (F : Fr N a l) (hi : ops[i]? = some o) (hgd : o.guard = some (g, bb)) (hog : ops[g]? = some og) (hog2 : og.dst = some s) (hv : lk s l = some (.bool cc)) (hne : (cc == bb) = false) (hd : o.dst = some d) (hN : Nat.blt d N.n = true)
    (hk : ∀ a', Fr N a' ((d, undef) :: l) → wpMix P ops C K r a' w) : wpMix P ops C K ((kk, i) :: r) a w :=
  ⟨o, hi, (fun h => by rw [want_off F hgd hog hog2 hv hne] at h; cases h), fun _ => by rw [hd]; exact hk _ (F.put hN _)⟩
theorem m_nil (h : K a w) : wpMix P ops C K [] a w := h
end
end Go.Tri
