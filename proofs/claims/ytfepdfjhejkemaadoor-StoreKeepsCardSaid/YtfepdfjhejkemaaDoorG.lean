/- The engine: a range over a function. -/
import Derived.Test.YtfepdfjhejkemaaDoorM
set_option linter.unusedSimpArgs false
set_option linter.unusedVariables false
namespace Go.Tri
open Go.RowKit

/-! ### The order of pieces doesn't matter -/
def OwnF (l : List HP) (B : Base) (w : World) (S : Nat → Prop) : Prop :=
  ∃ f : Nat → Nat → Prop, (∀ (i : Nat) (A : HP), l[i]? = some A → A.pr B w (f i)) ∧ (∀ i j b, i < l.length → j < l.length → f i b → f j b → i = j) ∧ (∀ i b, i < l.length → f i b → S b)
def OwnR : List HP → Base → World → (Nat → Prop) → Prop
  | [], _, _, _ => True
  | A :: l, B, w, S => ∃ S1 S2 : Nat → Prop, A.pr B w S1 ∧ OwnR l B w S2 ∧ (∀ b, S1 b → S2 b → False) ∧ (∀ b, S1 b → S b) ∧ (∀ b, S2 b → S b)
theorem OwnR.of : ∀ {l : List HP} {B : Base} {w : World} {S : Nat → Prop}, OwnF l B w S → OwnR l B w S
  | [], _, _, _, _ => trivial
  | A :: l, B, w, S, ⟨f, h1, h2, h3⟩ => by
    refine ⟨f 0, fun b => ∃ i, i < l.length ∧ f (i + 1) b, h1 0 A rfl, OwnR.of ⟨fun i => f (i + 1), fun i C hi => h1 (i + 1) C (by simpa using hi), fun i j b hi hj hfi hfj => ?_, fun i b hi hf => ⟨i, hi, hf⟩⟩, ?_, fun b hb => h3 0 b (by simp) hb, ?_⟩
    · have := h2 (i + 1) (j + 1) b (by simpa using hi) (by simpa using hj) hfi hfj; omega
    · rintro b hb ⟨i, hi, hf⟩
      have := h2 0 (i + 1) b (by simp) (by simpa using hi) hb hf; omega
    · rintro b ⟨i, hi, hf⟩; exact h3 (i + 1) b (by simpa using hi) hf
theorem OwnR.to : ∀ {l : List HP} {B : Base} {w : World} {S : Nat → Prop}, OwnR l B w S → OwnF l B w S
  | [], _, _, _, _ => ⟨fun _ _ => False, by simp, by simp, by simp⟩
  | A :: l, B, w, S, ⟨S1, S2, hA, hl, hd, hs1, hs2⟩ => by
    obtain ⟨f, h1, h2, h3⟩ := OwnR.to hl
    refine ⟨fun i => match i with | 0 => S1 | i + 1 => f i, ?_, ?_, ?_⟩
    · intro i C hi
      cases i with
      | zero => simp at hi; subst hi; exact hA
      | succ i => exact h1 i C (by simpa using hi)
    · intro i j b hi hj hfi hfj
      simp only [List.length_cons] at hi hj
      cases i with
      | zero =>
        cases j with
        | zero => rfl
        | succ j => exact (hd b hfi (h3 j b (by omega) hfj)).elim
      | succ i =>
        cases j with
        | zero => exact (hd b hfj (h3 i b (by omega) hfi)).elim
        | succ j => have := h2 i j b (by omega) (by omega) hfi hfj; omega
    · intro i b hi hf
      simp only [List.length_cons] at hi
      cases i with
      | zero => exact hs1 b hf
      | succ i => exact hs2 b (h3 i b (by omega) hf)
theorem OwnR.perm {l l' : List HP} (hp : l.Perm l') : ∀ {B : Base} {w : World} {S : Nat → Prop}, OwnR l B w S → OwnR l' B w S := by
  induction hp with
  | nil => intro B w S h; exact h
  | cons A _ ih => rintro B w S ⟨S1, S2, hA, hl, hd, h1, h2⟩; exact ⟨S1, S2, hA, ih hl, hd, h1, h2⟩
  | swap A C l =>
    rintro B w S ⟨S1, S2, hA, ⟨S3, S4, hB, hl, hd2, h3, h4⟩, hd, h1, h2⟩
    refine ⟨S3, fun b => S1 b ∨ S4 b, hB, ⟨S1, S4, hA, hl, fun b x y => hd b x (h4 b y), fun b x => .inl x, fun b x => .inr x⟩, ?_, fun b x => h2 b (h3 b x), ?_⟩
    · rintro b x (y | y)
      · exact hd b y (h3 b x)
      · exact hd2 b x y
    · rintro b (x | x)
      · exact h1 b x
      · exact h2 b (h4 b x)
  | trans _ _ ih1 ih2 => intro B w S h; exact ih2 (ih1 h)
theorem St.perm {w0 w : World} {l l' : List HP} (h : St w0 w l) (hp : l.Perm l') : St w0 w l' := by
  obtain ⟨hv, B, f, hs, h1, h2, h3⟩ := h
  obtain ⟨g, k1, k2, k3⟩ := OwnR.to (OwnR.perm hp (OwnR.of ⟨f, h1, h2, h3⟩ : OwnR l B w (fun b => b < w.heap.size ∧ B b = none ∧ w0.heap.size ≤ b)))
  exact ⟨hv, B, g, hs, k1, k2, k3⟩
theorem perm_mid {A B C : List HP} : (A ++ (B ++ C)).Perm (B ++ (A ++ C)) := by
  rw [← List.append_assoc, ← List.append_assoc]; exact (List.perm_append_comm).append_right C

theorem set_at {α : Type} (A B : List α) (x y : α) : (A ++ x :: B).set A.length y = A ++ y :: B := by
  rw [List.set_append_right _ _ (Nat.le_refl _), Nat.sub_self]; rfl
theorem get_at {α : Type} (A B : List α) (x : α) : (A ++ x :: B)[A.length]? = some x := by
  rw [List.getElem?_append_right (Nat.le_refl _), Nat.sub_self]; rfl

/-! ### What comes out of an iterator -/
/-- Step by step through a list. -/
def Rn {G α : Type} (next : G → α → G → Prop) : G → List α → G → Prop
  | g, [], g' => g = g'
  | g, x :: xs, g' => ∃ g1, next g x g1 ∧ Rn next g1 xs g'
theorem Rn.snoc {G α : Type} {next : G → α → G → Prop} : ∀ {xs : List α} {g g1 g2 : G} {x : α}, Rn next g xs g1 → next g1 x g2 → Rn next g (xs ++ [x]) g2
  | [], g, g1, g2, x, h, k => by cases h; exact ⟨g2, k, rfl⟩
  | y :: xs, g, g1, g2, x, ⟨g3, h1, h2⟩, k => ⟨g3, h1, h2.snoc k⟩
/-- A call of yield. -/
def YieldI (P : Program) (L : Nat) (args : List Value) (W : World) (R : Ending → World → Prop) : Prop :=
  ∃ fn tmps assign body, (Instr.yield L args.toArray).run P W = .ok (.round L fn tmps assign body) W ∧ RoundIn (FN none) 0 P L fn tmps assign body W R
/-- The iterator gf (with what it has captured) calls yield at x, each time behind xs where Adm xs x; when all have come, S. It needs the pieces own. -/
def SeqC (P : Program) (gf : FuncId) (lb : List Value) {α : Type} (enc : α → List Value) (own : List HP) (Adm : List α → α → Prop) (S : List α → Prop) : Prop :=
  ∀ (L : Nat) (w0 : World) (G E : Type) (J : G → List HP) (K : E → List HP) (next : G → α → G → Prop) (stop : G → α → E → Prop) (g0 : G),
    (∀ xs g x W fr, Adm xs x → Rn next g0 xs g → St w0 W (J g ++ fr) → YieldI P L (enc x) W fun e W' =>
      (∃ g', e = .returned (.bool true) ∧ next g x g' ∧ St w0 W' (J g' ++ fr)) ∨ (∃ k, e = .returned (.bool false) ∧ stop g x k ∧ St w0 W' (K k ++ fr))) →
    ∀ W fr, St w0 W (J g0 ++ (own ++ fr)) → CallsIn (FN none) 0 P gf (Value.func (.yield L) #[] #[] :: lb).toArray W fun e W' => ∃ v, e = .returned v ∧
      ((∃ xs g, S xs ∧ Rn next g0 xs g ∧ St w0 W' (J g ++ (own ++ fr))) ∨ (∃ xs g x k, Adm xs x ∧ Rn next g0 xs g ∧ stop g x k ∧ St w0 W' (K k ++ (own ++ fr))))
/-- The parameters of a round. -/
def bindL : List Nat → List Value → List (Nat × Value) → List (Nat × Value)
  | p :: ps, v :: vs, l => bindL ps vs ((p, v) :: l)
  | _, _, l => l
theorem Fr.bind {N : Fs} : ∀ {ps : List Nat} {vs : List Value} {a : Act} {l : List (Nat × Value)}, Fr N a l → ps.all (Nat.blt · N.n) = true → Fr N { a with tmps := (ps.zip vs).foldl (fun t p => t.setIfInBounds p.1 p.2) a.tmps } (bindL ps vs l)
  | [], vs, a, l, F, _ => by simpa [bindL] using F
  | p :: ps, [], a, l, F, _ => by simpa [bindL] using F
  | p :: ps, v :: vs, a, l, F, h => by
    simp only [List.all_cons, Bool.and_eq_true] at h
    have := Fr.bind (vs := vs) (F.put h.1 v) h.2
    simpa [bindL, Act.put] using this
/-- How a round ends. -/
def rangeQ {G E α : Type} (w0 : World) (J : G → List HP) (K : E → List HP) (jmp : E → Code) (next : G → α → G → Prop) (stop : G → α → E → Prop) (g : G) (x : α) (fr : List HP) : Exit → Act → World → Prop
  | .normal, _, w => ∃ g', next g x g' ∧ St w0 w (J g' ++ fr)
  | .ret, _, w => ∃ k, stop g x k ∧ jmp k = .ret ∧ St w0 w (K k ++ fr)
  | .exit i, _, w => ∃ k, stop g x k ∧ jmp k = .exit i ∧ St w0 w (K k ++ fr)
  | _, _, _ => False
def mark (D : Nat) : Deferred := { target := .collected D, args := #[] }
theorem xi_range {P : Program} {N : Nat} {ds : List Deferred} {a : Act} {l : List (Nat × Value)} {w0 w : World} {g : Operand} {ps : List Nat} {assign body : Code} {Q : Exit → Act → World → Prop} {gf : FuncId} {lb : List Value} {G E α Mid : Type} {enc : α → List Value} {own fr : List HP} {Adm : List α → α → Prop} {S : List α → Prop}
    (F : Fr ⟨N, ds⟩ a l) (hg : ev l g = some (.func (.func gf) #[] lb.toArray)) (eg : ∀ args w, (callFunc gf args).run P w = .ok (.enter gf args) w) (hS : SeqC P gf lb enc own Adm S)
    (J : G → List HP) (K : E → List HP) (jmp : E → Code) (next : G → α → G → Prop) (stop : G → α → E → Prop) (g0 : G) (H : St w0 w (J g0 ++ (own ++ fr))) (hps : ∀ x, (enc x).length = ps.length) (hpN : ps.all (Nat.blt · N) = true)
    (ml : G → α → Mid → List (Nat × Value)) (mi : G → α → Mid → List HP)
    (hassign : ∀ L xs g x a1 W fr, Adm xs x → Rn next g0 xs g → Fr ⟨N, []⟩ a1 (bindL ps (enc x) l) → St w0 W (J g ++ fr) →
      assign.wpIn (FN (some L)) 0 P (Exit.then (fun a2 w2 => ∃ m, Fr ⟨N, []⟩ a2 (ml g x m) ∧ St w0 w2 (mi g x m ++ fr)) (fun _ _ _ => False)) a1 W)
    (hbody : ∀ L xs g x m a1 W fr, Adm xs x → Rn next g0 xs g → Fr ⟨N, []⟩ a1 (ml g x m) → St w0 W (mi g x m ++ fr) → body.wpIn (FN (some L)) 0 P (rangeQ w0 J K jmp next stop g x fr) a1 W)
    (hdone : ∀ D xs g a1 W, S xs → Rn next g0 xs g → Fr ⟨N, mark D :: ds⟩ a1 l → St w0 W (HP.obj D (.deferred (some [])) :: (J g ++ (own ++ fr))) → Q .normal a1 W)
    (hstop : ∀ D xs g x k a1 W, Adm xs x → Rn next g0 xs g → stop g x k → Fr ⟨N, mark D :: ds⟩ a1 l → St w0 W (HP.obj D (.deferred (some [])) :: (K k ++ (own ++ fr))) → (jmp k).wpIn (FN none) 0 P Q a1 W) :
    (Code.rangeFunc g ps.toArray assign body).wpIn (FN none) 0 P Q a w := by
  refine wpIn_rangeFunc fun fn hfn => ?_
  obtain ⟨rec, hrec⟩ : ∃ rec : LoopState → Option Code → Loop, rec = fun st pe => { state := st, pending := pe, fn, tmps := a.tmps, params := ps.toArray, assign, body, defers := w.heap.size } := ⟨_, rfl⟩
  obtain ⟨D, hD⟩ : ∃ D, D = w.heap.size := ⟨_, rfl⟩
  obtain ⟨L, hL⟩ : ∃ L, L = w.heap.size + 1 := ⟨_, rfl⟩
  obtain ⟨W1, hW1⟩ : ∃ W1, (w.alloc (.deferred (some []))).alloc (.loop (rec .ready none)) = W1 := ⟨_, rfl⟩
  have H1 : St w0 W1 (HP.obj L (.loop (rec .ready none)) :: HP.obj D (.deferred (some [])) :: (J g0 ++ (own ++ fr))) := by
    have := (H.newObj (.deferred (some []))).newObj (.loop (rec .ready none))
    rw [World.size_alloc, ← hL, ← hD, hW1] at this; exact this
  refine ⟨L, [mark D], W1, { target := .fn (.func gf) lb.toArray, args := #[.func (.yield L) #[] #[]] }, W1, gf, (Value.func (.yield L) #[] #[] :: lb).toArray, W1, ?_, ?_, fun _ _ => trivial, ?_, (fun h => by cases h), ?_⟩
  · rw [hL, ← hW1, hrec, hD]; exact run_enterLoop_outer _ _ _ _ _
  · simp only [resolve, F.eval hg, Deferred.ofValue]
    simp [Act.eval]
  · simp [invoke, eg]
  · let J' : G → List HP := fun g => HP.obj L (.loop (rec .ready none)) :: HP.obj D (.deferred (some [])) :: J g
    let K' : E → List HP := fun k => HP.obj L (.loop (rec .done (some (jmp k)))) :: HP.obj D (.deferred (some [])) :: K k
    have hq := hS L w0 G E J' K' next stop g0 (fun xs g x W fr1 hadm hrn HW => ?_) W1 fr H1
    · refine CallsIn.mono hq fun e W' h => ?_
      obtain ⟨v, rfl, h⟩ := h
      rcases h with ⟨xs, g, hs, hrn, HW⟩ | ⟨xs, g, x, k, hadm, hrn, hst, HW⟩
      · have hr := HW.objAt 0 rfl
        have H2 := HW.putObj 0 rfl (.loop { rec .ready none with state := .exhausted })
        refine ⟨none, W'.putObj L (.loop { rec .ready none with state := .exhausted }), ?_, ?_⟩
        · rw [run_endLoop hr (by rw [hrec]; simp)]
          simp [hrec]
        · exact hdone D xs g _ _ hs hrn ⟨F.size, by simp [F.defers], F.get⟩ (St.tail H2)
      · have hr := HW.objAt 0 rfl
        have H2 := HW.putObj 0 rfl (.loop { rec .done (some (jmp k)) with state := .exhausted })
        refine ⟨some (jmp k), W'.putObj L (.loop { rec .done (some (jmp k)) with state := .exhausted }), ?_, ?_⟩
        · rw [run_endLoop hr (by rw [hrec]; simp)]
          simp [hrec]
        · exact hstop D xs g x k _ _ hadm hrn hst ⟨F.size, by simp [F.defers], F.get⟩ (St.tail H2)
    · have hr := HW.objAt 0 rfl
      refine ⟨fn, (ps.zip (enc x)).foldl (fun t p => t.setIfInBounds p.1 p.2) a.tmps, assign, body, ?_, roundIn_of_wpIn trivial ?_⟩
      · rw [run_yield hr (by rw [hrec]; simp [hps x])]
        simp [hrec]
      · have F1 : Fr ⟨N, []⟩ { tmps := (ps.zip (enc x)).foldl (fun t p => t.setIfInBounds p.1 p.2) a.tmps, defers := [] } (bindL ps (enc x) l) := by
          have := Fr.bind (N := ⟨N, ds⟩) (vs := enc x) F hpN
          exact ⟨this.size, rfl, this.get⟩
        have HA : St w0 W (J g ++ ([HP.obj L (.loop (rec .ready none)), HP.obj D (.deferred (some []))] ++ fr1)) :=
          St.perm (l := [HP.obj L (.loop (rec .ready none)), HP.obj D (.deferred (some []))] ++ (J g ++ fr1)) HW perm_mid
        refine Go.wpIn_mono (hassign L xs g x _ W _ hadm hrn F1 HA) fun e a2 w2 he => ?_
        cases e with
        | normal =>
          obtain ⟨m, F2, H2⟩ := he
          have hr2 := H2.objAt (mi g x m).length (get_at _ _ _)
          refine ⟨_, run_beginRound hr2 (by rw [hrec]), ?_⟩
          have H3 := H2.putObj (mi g x m).length (get_at _ _ _) (.loop { rec .ready none with state := .busy })
          rw [List.cons_append, set_at] at H3
          refine Go.wpIn_mono (hbody L xs g x m a2 _ _ hadm hrn F2 H3) fun e a3 w3 he => ?_
          cases e with
          | normal =>
            obtain ⟨g', hn, H4⟩ := he
            have hr4 := H4.objAt (J g').length (get_at _ _ _)
            have H5 := H4.putObj (J g').length (get_at _ _ _) (.loop (rec .ready none))
            rw [set_at] at H5
            refine ⟨.bool true, _, run_endRound none hr4, .inl ⟨g', rfl, hn, ?_⟩⟩
            have H6 := St.perm (l' := [HP.obj L (.loop (rec .ready none)), HP.obj D (.deferred (some []))] ++ (J g' ++ fr1)) H5 (perm_mid (A := J g') (B := [HP.obj L (.loop (rec .ready none)), HP.obj D (.deferred (some []))]) (C := fr1))
            simpa [hrec, J'] using H6
          | ret =>
            obtain ⟨k, hk, hj, H4⟩ := he
            have hr4 := H4.objAt (K k).length (get_at _ _ _)
            have H5 := H4.putObj (K k).length (get_at _ _ _) (.loop (rec .done (some (jmp k))))
            rw [set_at] at H5
            refine ⟨.bool false, _, run_endRound (some .ret) hr4, .inr ⟨k, rfl, hk, ?_⟩⟩
            have H6 := St.perm (l' := [HP.obj L (.loop (rec .done (some (jmp k)))), HP.obj D (.deferred (some []))] ++ (K k ++ fr1)) H5 (perm_mid (A := K k) (B := [HP.obj L (.loop (rec .done (some (jmp k)))), HP.obj D (.deferred (some []))]) (C := fr1))
            simpa [hrec, hj, K'] using H6
          | exit i =>
            obtain ⟨k, hk, hj, H4⟩ := he
            have hr4 := H4.objAt (K k).length (get_at _ _ _)
            have H5 := H4.putObj (K k).length (get_at _ _ _) (.loop (rec .done (some (jmp k))))
            rw [set_at] at H5
            refine ⟨.bool false, _, run_endRound (some (.exit i)) hr4, .inr ⟨k, rfl, hk, ?_⟩⟩
            have H6 := St.perm (l' := [HP.obj L (.loop (rec .done (some (jmp k)))), HP.obj D (.deferred (some []))] ++ (K k ++ fr1)) H5 (perm_mid (A := K k) (B := [HP.obj L (.loop (rec .done (some (jmp k)))), HP.obj D (.deferred (some []))]) (C := fr1))
            simpa [hrec, hj, K'] using H6
          | goto t => exact he.elim
          | panic c => exact he.elim
          | outgrown => exact he.elim
        | exit i => exact he.elim
        | goto t => exact he.elim
        | ret => exact he.elim
        | panic c => exact he.elim
        | outgrown => exact he.elim
/-- yield is called. -/
theorem si_yield {P : Program} {ops : Array Oper} {rest : List Oper} {o : Oper} {a : Act} {w : World} {Q : Exit → Act → World → Prop} {N : Fs} {l : List (Nat × Value)} {d : Nat} (F : Fr N a l) (hg : o.guard = none) (hd : o.dst = some d) (hN : Nat.blt d N.n = true)
    {f : Operand} {xs : List Operand} {ts : Array TypeId} (ho : o.op = .call { callee := .value f, args := xs.toArray, argTypes := ts }) {L : Nat} (hf : ev l f = some (.func (.yield L) #[] #[])) {vs : List Value} (hv : evs l xs = some vs)
    {R : Bool → World → Prop} (hy : YieldI P L vs w fun e w' => ∃ b, e = .returned (.bool b) ∧ R b w') (hk : ∀ b w' a', R b w' → Fr N a' ((d, .bool b) :: l) → wpListIn (FN none) 0 P ops Q rest a' w') : wpListIn (FN none) 0 P ops Q (o :: rest) a w := by
  obtain ⟨fn, tmps, assign, body, hr, hR⟩ := hy
  have hrun : (execOp a.eval o).run P w = .ok (.round L fn tmps assign body) w := by
    have := F.evals hv
    unfold execOp
    simp [ho, resolve, F.eval hf, Deferred.ofValue, invoke, this, hr]
  unfold wpListIn
  rw [if_pos (want0 hg)]
  refine ⟨fun _ _ => trivial, ?_⟩
  rw [Oper.semAt_eq _ _ _ (fun c e => by rw [ho] at e; cases e), hrun, Oper.uponIn_round]
  refine ⟨(fun h => by cases h), RoundIn.mono hR fun e w' ⟨b, he, hb⟩ => ?_⟩
  subst he
  rw [hd]
  exact hk b w' _ hb (F.put hN _)
section
variable {P : Program} {fn : Func} {R : Ending → World → Prop} {a : Act} {w0 w : World} {N D : Nat} {l : List (Nat × Value)} {ls : List HP}
end
theorem xii_enter {P : Program} {f : FuncId} {fn : Func} {c : Code} {args : List Value} {w : World} {R : Ending → World → Prop} {N : Nat}
    (hf : P.funcs[f]? = some fn) (hb : fn.body = some c) (hN : fn.ntmps = N) (hle : Nat.ble args.length N = true)
    (h : ∀ a, Fr ⟨N, []⟩ a (numL 0 args) → c.wpIn (FN none) 0 P (bodyPostM (FN none) 0 P fn R) a w) : CallsIn (FN none) 0 P f args.toArray w R := by
  subst hN
  exact callsIn_of_wp_marks (F := FN none) (n := 0) hf hb trivial (h _ (Fr.mk' _ (fun k v hk => by have := (lk_numL args 0 k v hk).2; simpa using this) (Nat.le_of_ble_eq_true hle)))
theorem YieldI.mono {P : Program} {L : Nat} {args : List Value} {W : World} {R R' : Ending → World → Prop} (h : YieldI P L args W R) (hr : ∀ e w, R e w → R' e w) : YieldI P L args W R' := by
  obtain ⟨fn, tmps, assign, body, h1, h2⟩ := h
  exact ⟨fn, tmps, assign, body, h1, RoundIn.mono h2 hr⟩
end Go.Tri
