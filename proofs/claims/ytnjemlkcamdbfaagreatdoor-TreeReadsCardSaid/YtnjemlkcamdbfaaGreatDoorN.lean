/- Short forms of the steps (what they share is told once). -/
import Derived.Test.YtnjemlkcamdbfaaGreatDoorA5
set_option linter.unusedSimpArgs false
set_option linter.unusedVariables false
namespace Go.Tri
open Go.RowKit
abbrev En (P : Program) (f : FuncId) : Prop := ∀ args w, (callFunc f args).run P w = .ok (.enter f args) w
theorem fl {cs : List Value} (h : cs.all Value.oneCell' = true) : Flat cs := fun v hv => List.all_eq_true.1 h v hv
def pkS : List Nat → List (Nat × Value) → Option (List (Nat × Value))
  | [], _ => some []
  | k :: r, l => match lk k l with
    | some v => match pkS r l with
      | some r' => some ((k, v) :: r')
      | none => none
    | none => none
def opV (n : Nat) (o : Oper) : Option Nat := match o.guard with
  | some _ => none
  | none => match o.dst with
    | none => none
    | some d => match Nat.blt d n with
      | true => match notDefer o.op with
        | true => some d
        | false => none
      | false => none
theorem opV_ok {n d : Nat} {o : Oper} (h : opV n o = some d) : o.guard = none ∧ o.dst = some d ∧ Nat.blt d n = true ∧ notDefer o.op = true := by
  unfold opV at h
  split at h
  · cases h
  · rename_i hg
    split at h
    · cases h
    · rename_i d' hd
      split at h
      · rename_i hb
        split at h
        · rename_i hn; cases h; exact ⟨hg, hd, hb, hn⟩
        · cases h
      · cases h
section
variable {P : Program} {ops : Array Oper} {Q : Exit → Act → World → Prop} {a : Act} {w w0 w' : World} {N : Fs} {sl sl' s1 : List (Nat × Value)} {ls l1 : List HP} {o : Oper} {rest l l' : List Oper} {d : Nat} {v : Value}
theorem sv (F : Fr N a sl) (h : opV N.n o = some d) (hr : (execOp a.eval o).run P w = .ok (.value v) w') (hk : ∀ a', Fr N a' ((d, v) :: sl) → wpList P ops Q rest a' w') : wpList P ops Q (o :: rest) a w :=
  s_val wkP F (opV_ok h).1 (opV_ok h).2.1 (opV_ok h).2.2.1 (opV_ok h).2.2.2 hr hk
theorem qv {C : World → Prop} {Q : Act → Prop} (F : Fr N a sl) (h : opV N.n o = some d) (hr : ∀ w, C w → (execOp a.eval o).run P w = .ok (.value v) w) (hk : ∀ a', Fr N a' ((d, v) :: sl) → wpQuiet P ops C Q rest a') : wpQuiet P ops C Q (o :: rest) a :=
  q_val F (opV_ok h).1 (opV_ok h).2.1 (opV_ok h).2.2.1 hr hk
theorem bb {ops : List Oper} (hs : List Nat) (F : Fr N a sl) (H : St w0 w ls) (h : qrun P N.n ops ls hs sl l = some (sl', l', [])) (k : ∀ a', Fr N a' sl' → wpList P ops.toArray Q l' a' w) : wpList P ops.toArray Q l a w := bk hs F H h trivial k
theorem qb {ops : List Oper} {Q : Act → Prop} (hs : List Nat) (F : Fr N a sl) (h : qrun P N.n ops ls hs sl l = some (sl', l', [])) (k : ∀ a', Fr N a' sl' → wpQuiet P ops.toArray (fun u => St w0 u ls) Q l' a') : wpQuiet P ops.toArray (fun u => St w0 u ls) Q l a := qbk hs F h trivial k
theorem mb {ops : List Oper} {C : World → Prop} {K : Act → World → Prop} {s s' : Sc} (hs : List Nat) (F : Fr N a sl) (H : St w0 w ls) (h : mrun P N.n ops ls hs sl s = some (sl', s', [])) (k : ∀ a', Fr N a' sl' → wpMix P ops.toArray C K s' a' w) : wpMix P ops.toArray C K s a w := mbk hs F H h trivial k
theorem sb {y : Code} {id : Nat} (hs : List Nat) (F : Fr N a sl) (H : St w0 w ls) (h : qrun P N.n l ls hs sl l = some (sl', l', [])) (k : ∀ a', Fr N a' sl' → wpList P l.toArray (Exit.then (fun a w => y.wp P Q a w) Q) l' a' w) : (Code.seq (.region id l.toArray false) y).wp P Q a w := sr (bk hs F H h trivial k)
theorem nb {y : Code} {id : Nat} {ops : Array Oper} {Q' : Exit → Act → World → Prop} (hs : List Nat) (F : Fr N a sl) (H : St w0 w ls) (h : qrun P N.n l ls hs sl l = some (sl', l', [])) (k : ∀ a', Fr N a' sl' → wpList P l.toArray (Exit.then (fun a w => y.wp P Q a w) Q) l' a' w) : wpList P ops (Exit.then (fun a w => (Code.seq (.region id l.toArray false) y).wp P Q a w) Q') [] a w := nl (sr (bk hs F H h trivial k))
theorem sd {f : FuncId} {vs : List Value} {R : Value → World → Prop} (F : Fr N a sl) (h : opC N.n sl o = some (d, f, vs)) (he : En P f)
    (hc : Calls P f vs.toArray w fun e w' => ∃ v, e = .returned v ∧ R v w') (hk : ∀ v w' a', R v w' → Fr N a' ((d, v) :: sl) → wpList P ops Q rest a' w') : wpList P ops Q (o :: rest) a w := sc wkP F h he hc hk
theorem cPm {c : Operand} {x y : Code} {p : Prop} {i1 i2 : Decidable p} {α : Type} {A B r : α} (F : Fr N a sl) (hc : ev sl c = some (.bool (@decide p i1))) (hm : (@ite α p i2 A B) = r) (ht : p → A = r → x.wp P Q a w) (hf : ¬ p → B = r → y.wp P Q a w) : (Code.cond c x y).wp P Q a w :=
  @x_condP P Q a w N sl F c x y p i1 hc (fun h => ht h (@ifT p i2 α A B r h hm)) (fun h => hf h (@ifF p i2 α A B r h hm))
theorem cNm {c : Operand} {x y : Code} {p : Prop} {i1 i2 : Decidable p} {α : Type} {A B r : α} (F : Fr N a sl) (hc : ev sl c = some (.bool (!@decide p i1))) (hm : (@ite α p i2 A B) = r) (hf : ¬ p → B = r → x.wp P Q a w) (ht : p → A = r → y.wp P Q a w) : (Code.cond c x y).wp P Q a w :=
  @x_condN P Q a w N sl F c x y p i1 hc (fun h => hf h (@ifF p i2 α A B r h hm)) (fun h => ht h (@ifT p i2 α A B r h hm))
theorem spP {p : Prop} {i1 i2 : Decidable p} {α : Type} {A B r : α} (k : Nat) (F : Fr N a sl) (hk : lk k sl = some (.bool (@decide p i1))) (hm : (@ite α p i2 A B) = r) : (p ∧ A = r ∧ Fr N a ((k, .bool true) :: sl)) ∨ (¬ p ∧ B = r ∧ Fr N a ((k, .bool false) :: sl)) := by
  by_cases h : p
  · exact .inl ⟨h, @ifT p i2 α A B r h hm, @Fr.bT N a sl F k p i1 h hk⟩
  · exact .inr ⟨h, @ifF p i2 α A B r h hm, @Fr.bF N a sl F k p i1 h hk⟩
theorem spN {p : Prop} {i1 i2 : Decidable p} {α : Type} {A B r : α} (k : Nat) (F : Fr N a sl) (hk : lk k sl = some (.bool (!@decide p i1))) (hm : (@ite α p i2 A B) = r) : (p ∧ A = r ∧ Fr N a ((k, .bool false) :: sl)) ∨ (¬ p ∧ B = r ∧ Fr N a ((k, .bool true) :: sl)) := by
  by_cases h : p
  · exact .inl ⟨h, @ifT p i2 α A B r h hm, @Fr.nT N a sl F k p i1 h hk⟩
  · exact .inr ⟨h, @ifF p i2 α A B r h hm, @Fr.nF N a sl F k p i1 h hk⟩
theorem xm0 {x : Code} {τ ρ : Type} {ot : Option τ} {f : τ → Option ρ} {r : ρ}  (n : Nat) (is js : List Nat) (F : Fr N a sl) (H : St w0 w ls) (hm : ot.bind f = some r) (h1 : pkS is sl = some s1) (h2 : pmL n js ls = some l1)
    (S : τ → List (Nat × Value) → List (Nat × Value)) (L : τ → List HP → List HP)
    (hx : ∀ t, ot = some t → x.wp P (Exit.then (fun a w => Fr N a (S t s1) ∧ St w0 w (L t l1)) Q) a w)
    (hy : ∀ t a w, f t = some r → Fr N a (S t s1) → St w0 w (L t l1) → Q .normal a w) : x.wp P Q a w := by
  obtain ⟨t, h3, h4⟩ := ob hm
  refine x_mid _ (hx t h3) ?_
  rintro a w ⟨F, H⟩
  exact hy t a w h4  F H
theorem xr0 {x : Code} {τ υ ρ : Type} {ot : Option (τ ⊕ υ)} {f : τ → Option ρ} {g : υ → Option ρ} {r : ρ}  (n : Nat) (is js : List Nat) (F : Fr N a sl) (H : St w0 w ls) (hm : (ot.bind fun z => Sum.elim f g z) = some r) (h1 : pkS is sl = some s1) (h2 : pmL n js ls = some l1)
    (S : τ → List (Nat × Value) → List (Nat × Value)) (L : τ → List HP → List HP)
    (hx : ∀ z, ot = some z → Sum.elim f g z = some r → x.wp P (Exit.then (fun a w => ∃ t, z = .inl t ∧ Fr N a (S t s1) ∧ St w0 w (L t l1)) Q) a w)
    (hy : ∀ t a w, f t = some r → Fr N a (S t s1) → St w0 w (L t l1) → Q .normal a w) : x.wp P Q a w := by
  obtain ⟨z, h3, h4⟩ := ob hm
  refine x_mid _ (hx z h3 h4) ?_
  rintro a w ⟨t, e, F, H⟩
  cases e
  exact hy t a w h4  F H
theorem xl0 {c : Code} {σ ρ : Type} {f : σ → Option (σ ⊕ ρ)} {g0 : σ} {r : ρ}  (n : Nat) (is js : List Nat) (F : Fr N a sl) (H : St w0 w ls) (hm : loopO f g0 = some r) (h1 : pkS is sl = some s1) (h2 : pmL n js ls = some l1)
    (S : σ → List (Nat × Value) → List (Nat × Value)) (L : σ → List HP → List HP)
    (h0 : Fr N a (S g0 s1) ∧ St w0 w (L g0 l1))
    (hk : ∀ s a w o, Fr N a (S s s1) → St w0 w (L s l1) → f s = some o → c.wp P (Exit.then (fun a' w' => ∃ s', o = .inl s' ∧ Fr N a' (S s' s1) ∧ St w0 w' (L s' l1)) (fun e a' w' => ∃ r', o = .inr r' ∧ (r' = r → Q e a' w'))) a w) : (Code.loop c).wp P Q a w := by
  refine x_loopO f (fun s a w => Fr N a (S s s1) ∧ St w0 w (L s l1)) hm h0 ?_
  rintro s a w o ⟨F, H⟩ h
  exact hk s a w o  F H h
theorem xm1 {x : Code} {τ ρ : Type} {ot : Option τ} {f : τ → Option ρ} {r : ρ} {T0 : Type} (n : Nat) (is js : List Nat) (F : Fr N a sl) (H : St w0 w ls) (hm : ot.bind f = some r) (h1 : pkS is sl = some s1) (h2 : pmL n js ls = some l1)
    (S : τ → T0 → List (Nat × Value) → List (Nat × Value)) (L : τ → T0 → List HP → List HP)
    (hx : ∀ t, ot = some t → x.wp P (Exit.then (fun a w => ∃ x0, Fr N a (S t x0 s1) ∧ St w0 w (L t x0 l1)) Q) a w)
    (hy : ∀ t a w, f t = some r → ∀ x0, Fr N a (S t x0 s1) → St w0 w (L t x0 l1) → Q .normal a w) : x.wp P Q a w := by
  obtain ⟨t, h3, h4⟩ := ob hm
  refine x_mid _ (hx t h3) ?_
  rintro a w ⟨x0, F, H⟩
  exact hy t a w h4 x0 F H
theorem xm2 {x : Code} {τ ρ : Type} {ot : Option τ} {f : τ → Option ρ} {r : ρ} {T0 : Type} {T1 : Type} (n : Nat) (is js : List Nat) (F : Fr N a sl) (H : St w0 w ls) (hm : ot.bind f = some r) (h1 : pkS is sl = some s1) (h2 : pmL n js ls = some l1)
    (S : τ → T0 → T1 → List (Nat × Value) → List (Nat × Value)) (L : τ → T0 → T1 → List HP → List HP)
    (hx : ∀ t, ot = some t → x.wp P (Exit.then (fun a w => ∃ x0, ∃ x1, Fr N a (S t x0 x1 s1) ∧ St w0 w (L t x0 x1 l1)) Q) a w)
    (hy : ∀ t a w, f t = some r → ∀ x0 x1, Fr N a (S t x0 x1 s1) → St w0 w (L t x0 x1 l1) → Q .normal a w) : x.wp P Q a w := by
  obtain ⟨t, h3, h4⟩ := ob hm
  refine x_mid _ (hx t h3) ?_
  rintro a w ⟨x0, x1, F, H⟩
  exact hy t a w h4 x0 x1 F H
theorem xr2 {x : Code} {τ υ ρ : Type} {ot : Option (τ ⊕ υ)} {f : τ → Option ρ} {g : υ → Option ρ} {r : ρ} {T0 : Type} {T1 : Type} (n : Nat) (is js : List Nat) (F : Fr N a sl) (H : St w0 w ls) (hm : (ot.bind fun z => Sum.elim f g z) = some r) (h1 : pkS is sl = some s1) (h2 : pmL n js ls = some l1)
    (S : τ → T0 → T1 → List (Nat × Value) → List (Nat × Value)) (L : τ → T0 → T1 → List HP → List HP)
    (hx : ∀ z, ot = some z → Sum.elim f g z = some r → x.wp P (Exit.then (fun a w => ∃ t, z = .inl t ∧ ∃ x0, ∃ x1, Fr N a (S t x0 x1 s1) ∧ St w0 w (L t x0 x1 l1)) Q) a w)
    (hy : ∀ t a w, f t = some r → ∀ x0 x1, Fr N a (S t x0 x1 s1) → St w0 w (L t x0 x1 l1) → Q .normal a w) : x.wp P Q a w := by
  obtain ⟨z, h3, h4⟩ := ob hm
  refine x_mid _ (hx z h3 h4) ?_
  rintro a w ⟨t, e, x0, x1, F, H⟩
  cases e
  exact hy t a w h4 x0 x1 F H
theorem xl2 {c : Code} {σ ρ : Type} {f : σ → Option (σ ⊕ ρ)} {g0 : σ} {r : ρ} {T0 : Type} {T1 : Type} (n : Nat) (is js : List Nat) (F : Fr N a sl) (H : St w0 w ls) (hm : loopO f g0 = some r) (h1 : pkS is sl = some s1) (h2 : pmL n js ls = some l1)
    (S : σ → T0 → T1 → List (Nat × Value) → List (Nat × Value)) (L : σ → T0 → T1 → List HP → List HP)
    (h0 : ∃ x0, ∃ x1, Fr N a (S g0 x0 x1 s1) ∧ St w0 w (L g0 x0 x1 l1))
    (hk : ∀ s a w o, ∀ x0 x1, Fr N a (S s x0 x1 s1) → St w0 w (L s x0 x1 l1) → f s = some o → c.wp P (Exit.then (fun a' w' => ∃ s', o = .inl s' ∧ ∃ x0, ∃ x1, Fr N a' (S s' x0 x1 s1) ∧ St w0 w' (L s' x0 x1 l1)) (fun e a' w' => ∃ r', o = .inr r' ∧ (r' = r → Q e a' w'))) a w) : (Code.loop c).wp P Q a w := by
  refine x_loopO f (fun s a w => ∃ x0, ∃ x1, Fr N a (S s x0 x1 s1) ∧ St w0 w (L s x0 x1 l1)) hm h0 ?_
  rintro s a w o ⟨x0, x1, F, H⟩ h
  exact hk s a w o x0 x1 F H h
theorem xm4 {x : Code} {τ ρ : Type} {ot : Option τ} {f : τ → Option ρ} {r : ρ} {T0 : Type} {T1 : Type} {T2 : Type} {T3 : Type} (n : Nat) (is js : List Nat) (F : Fr N a sl) (H : St w0 w ls) (hm : ot.bind f = some r) (h1 : pkS is sl = some s1) (h2 : pmL n js ls = some l1)
    (S : τ → T0 → T1 → T2 → T3 → List (Nat × Value) → List (Nat × Value)) (L : τ → T0 → T1 → T2 → T3 → List HP → List HP)
    (hx : ∀ t, ot = some t → x.wp P (Exit.then (fun a w => ∃ x0, ∃ x1, ∃ x2, ∃ x3, Fr N a (S t x0 x1 x2 x3 s1) ∧ St w0 w (L t x0 x1 x2 x3 l1)) Q) a w)
    (hy : ∀ t a w, f t = some r → ∀ x0 x1 x2 x3, Fr N a (S t x0 x1 x2 x3 s1) → St w0 w (L t x0 x1 x2 x3 l1) → Q .normal a w) : x.wp P Q a w := by
  obtain ⟨t, h3, h4⟩ := ob hm
  refine x_mid _ (hx t h3) ?_
  rintro a w ⟨x0, x1, x2, x3, F, H⟩
  exact hy t a w h4 x0 x1 x2 x3 F H
theorem xl4 {c : Code} {σ ρ : Type} {f : σ → Option (σ ⊕ ρ)} {g0 : σ} {r : ρ} {T0 : Type} {T1 : Type} {T2 : Type} {T3 : Type} (n : Nat) (is js : List Nat) (F : Fr N a sl) (H : St w0 w ls) (hm : loopO f g0 = some r) (h1 : pkS is sl = some s1) (h2 : pmL n js ls = some l1)
    (S : σ → T0 → T1 → T2 → T3 → List (Nat × Value) → List (Nat × Value)) (L : σ → T0 → T1 → T2 → T3 → List HP → List HP)
    (h0 : ∃ x0, ∃ x1, ∃ x2, ∃ x3, Fr N a (S g0 x0 x1 x2 x3 s1) ∧ St w0 w (L g0 x0 x1 x2 x3 l1))
    (hk : ∀ s a w o, ∀ x0 x1 x2 x3, Fr N a (S s x0 x1 x2 x3 s1) → St w0 w (L s x0 x1 x2 x3 l1) → f s = some o → c.wp P (Exit.then (fun a' w' => ∃ s', o = .inl s' ∧ ∃ x0, ∃ x1, ∃ x2, ∃ x3, Fr N a' (S s' x0 x1 x2 x3 s1) ∧ St w0 w' (L s' x0 x1 x2 x3 l1)) (fun e a' w' => ∃ r', o = .inr r' ∧ (r' = r → Q e a' w'))) a w) : (Code.loop c).wp P Q a w := by
  refine x_loopO f (fun s a w => ∃ x0, ∃ x1, ∃ x2, ∃ x3, Fr N a (S s x0 x1 x2 x3 s1) ∧ St w0 w (L s x0 x1 x2 x3 l1)) hm h0 ?_
  rintro s a w o ⟨x0, x1, x2, x3, F, H⟩ h
  exact hk s a w o x0 x1 x2 x3 F H h
theorem xr6 {x : Code} {τ υ ρ : Type} {ot : Option (τ ⊕ υ)} {f : τ → Option ρ} {g : υ → Option ρ} {r : ρ} {T0 : Type} {T1 : Type} {T2 : Type} {T3 : Type} {T4 : Type} {T5 : Type} (n : Nat) (is js : List Nat) (F : Fr N a sl) (H : St w0 w ls) (hm : (ot.bind fun z => Sum.elim f g z) = some r) (h1 : pkS is sl = some s1) (h2 : pmL n js ls = some l1)
    (S : τ → T0 → T1 → T2 → T3 → T4 → T5 → List (Nat × Value) → List (Nat × Value)) (L : τ → T0 → T1 → T2 → T3 → T4 → T5 → List HP → List HP)
    (hx : ∀ z, ot = some z → Sum.elim f g z = some r → x.wp P (Exit.then (fun a w => ∃ t, z = .inl t ∧ ∃ x0, ∃ x1, ∃ x2, ∃ x3, ∃ x4, ∃ x5, Fr N a (S t x0 x1 x2 x3 x4 x5 s1) ∧ St w0 w (L t x0 x1 x2 x3 x4 x5 l1)) Q) a w)
    (hy : ∀ t a w, f t = some r → ∀ x0 x1 x2 x3 x4 x5, Fr N a (S t x0 x1 x2 x3 x4 x5 s1) → St w0 w (L t x0 x1 x2 x3 x4 x5 l1) → Q .normal a w) : x.wp P Q a w := by
  obtain ⟨z, h3, h4⟩ := ob hm
  refine x_mid _ (hx z h3 h4) ?_
  rintro a w ⟨t, e, x0, x1, x2, x3, x4, x5, F, H⟩
  cases e
  exact hy t a w h4 x0 x1 x2 x3 x4 x5 F H
theorem xl6 {c : Code} {σ ρ : Type} {f : σ → Option (σ ⊕ ρ)} {g0 : σ} {r : ρ} {T0 : Type} {T1 : Type} {T2 : Type} {T3 : Type} {T4 : Type} {T5 : Type} (n : Nat) (is js : List Nat) (F : Fr N a sl) (H : St w0 w ls) (hm : loopO f g0 = some r) (h1 : pkS is sl = some s1) (h2 : pmL n js ls = some l1)
    (S : σ → T0 → T1 → T2 → T3 → T4 → T5 → List (Nat × Value) → List (Nat × Value)) (L : σ → T0 → T1 → T2 → T3 → T4 → T5 → List HP → List HP)
    (h0 : ∃ x0, ∃ x1, ∃ x2, ∃ x3, ∃ x4, ∃ x5, Fr N a (S g0 x0 x1 x2 x3 x4 x5 s1) ∧ St w0 w (L g0 x0 x1 x2 x3 x4 x5 l1))
    (hk : ∀ s a w o, ∀ x0 x1 x2 x3 x4 x5, Fr N a (S s x0 x1 x2 x3 x4 x5 s1) → St w0 w (L s x0 x1 x2 x3 x4 x5 l1) → f s = some o → c.wp P (Exit.then (fun a' w' => ∃ s', o = .inl s' ∧ ∃ x0, ∃ x1, ∃ x2, ∃ x3, ∃ x4, ∃ x5, Fr N a' (S s' x0 x1 x2 x3 x4 x5 s1) ∧ St w0 w' (L s' x0 x1 x2 x3 x4 x5 l1)) (fun e a' w' => ∃ r', o = .inr r' ∧ (r' = r → Q e a' w'))) a w) : (Code.loop c).wp P Q a w := by
  refine x_loopO f (fun s a w => ∃ x0, ∃ x1, ∃ x2, ∃ x3, ∃ x4, ∃ x5, Fr N a (S s x0 x1 x2 x3 x4 x5 s1) ∧ St w0 w (L s x0 x1 x2 x3 x4 x5 l1)) hm h0 ?_
  rintro s a w o ⟨x0, x1, x2, x3, x4, x5, F, H⟩ h
  exact hk s a w o x0 x1 x2 x3 x4 x5 F H h
end
section
variable {α : Type} {R : Rp α} {p : Option Addr} {cap : Nat} {xs : List α} {x : α} {w0 w : World} {l : List HP}
theorem St.slF (H : St w0 w l) (i : Nat) (hi : l[i]? = some (HP.sl R p cap xs)) {b off : Nat} (hp : p = some ⟨b, off, none⟩) {q : Int} (hx : idxO xs q = some x) : ∃ cs, St w0 w (HP.row b (off + q.toNat * R.n) cs :: HP.rc R cs x :: l) := by
  obtain ⟨cs, _, h⟩ := H.slEl i hi hp (idxO_some hx).2
  exact ⟨cs, h⟩
theorem St.slE (H : St w0 w l) (i : Nat) (hi : l[i]? = some (HP.sl R p cap xs)) {q : Int} (hx : idxO xs q = some x) : ∃ b off, p = some ⟨b, off, none⟩ ∧ ∃ cs, St w0 w (HP.row b (off + q.toNat * R.n) cs :: HP.rc R cs x :: l) := by
  obtain ⟨b, off, hp⟩ := H.slP i hi (idxO_some hx).2
  exact ⟨b, off, hp, H.slF i hi hp hx⟩
end
/-- The order of a drawn region: 1000 times the kind, and the place. -/
def scL : List Nat → Sc
  | [] => .done
  | n :: r => .step (n / 1000) (n % 1000) (scL r)
def pkH : List Nat → List HP → Option (List HP)
  | [], _ => some []
  | i :: r, l => match atL i l with
    | some A => match pkH r l with
      | some L => some (A :: L)
      | none => none
    | none => none
theorem pkH_at {l : List HP} : ∀ {is : List Nat} {L : List HP}, pkH is l = some L → is.map (fun i => l[i]?) = L.map some
  | [], L, h => by cases h; rfl
  | i :: r, L, h => by
    simp only [pkH] at h
    split at h
    · rename_i A hA
      rw [atL_eq] at hA
      split at h
      · rename_i L' hL
        cases h
        rw [List.map_cons, List.map_cons, hA, pkH_at hL]
      · cases h
    · cases h
def nodN : List Nat → Bool
  | [] => true
  | i :: r => match memN i r with
    | true => false
    | false => nodN r
theorem nodN_ok : ∀ {is : List Nat}, nodN is = true → is.Nodup
  | [], _ => List.nodup_nil
  | i :: r, h => by
    simp only [nodN] at h
    split at h
    · cases h
    · rename_i hm
      exact List.nodup_cons.2 ⟨(fun hi => by rw [(memN_eq i r).2 hi] at hm; cases hm), nodN_ok h⟩
section
variable {P : Program} {id : Nat} {ro : Option Nat} {Q : Exit → Act → World → Prop} {a : Act} {w0 w : World} {l : List Oper} {ls L : List HP}
theorem mix_regionK (hs hz : List Nat) (s : Sc) (is : List Nat) (H : St w0 w ls) (hp : pkH is ls = some L) (hn : nodN is = true) (hm : P.follows .mixedOrders = true)
    (hB : (Region.noSelect l.toArray && schedB .any l.toArray (fun i => hs.contains i) (fun i => hz.contains i) s (Array.replicate l.toArray.size false) && (s.len == l.toArray.size)) = true)
    (h : ∀ w, St w0 w ls → wpMix P l.toArray (fun u => ∃ r, St w0 u (L ++ r)) (Q .normal) s a w) : (Code.region id l.toArray true).wp P Q a w :=
  mix_region hs hz s _ hm hB ⟨[], by rw [List.append_nil]; exact H.drew.pick is (nodN_ok hn) (pkH_at hp)⟩ (h _ H.drew)
end
end Go.Tri
