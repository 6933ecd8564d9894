/- The engine: known slots of a frame, owned pieces of memory, and control. -/
import Derived.Test.YtfepdfjhejkemaaDoorLibB
import Derived.Test.YtfepdfjhejkemaaDoorLibE
import Derived.RangeFuncLeaves
import Derived.RangeFuncRecord
import Derived.RangeFuncSeq
import Derived.TacticsIn
set_option linter.unusedSimpArgs false
set_option linter.unusedVariables false
namespace Go.Tri
open Go.RowKit

/-! ### Slots -/
def lk (k : Nat) : List (Nat × Value) → Option Value
  | [] => none
  | (j, v) :: r => match Nat.beq j k with | true => some v | false => lk k r
def ev (l : List (Nat × Value)) : Operand → Option Value
  | .tmp k => lk k l
  | .const v => some v
  | .global g => some (.pointer (some ⟨g, 0, none⟩))
  | .func f => some (.func (.func f) #[] #[])
def evs (l : List (Nat × Value)) : List Operand → Option (List Value)
  | [] => some []
  | x :: r => match ev l x, evs l r with | some v, some vs => some (v :: vs) | _, _ => none
/-- How many slots a frame has, and what is deferred. -/
structure Fs where
  n : Nat
  ds : List Deferred
/-- The frame a has N.n slots, N.ds deferred, and these values. -/
structure Fr (N : Fs) (a : Act) (l : List (Nat × Value)) : Prop where
  size : a.tmps.size = N.n
  defers : a.defers = N.ds
  get : ∀ k v, lk k l = some v → a.tmps[k]? = some v
theorem Fr.eval {N : Fs} {a : Act} {l : List (Nat × Value)} (F : Fr N a l) {x : Operand} {v : Value} (h : ev l x = some v) : a.eval x = v := by
  cases x with
  | tmp k => have := F.get k v h; simp [Act.eval, this]
  | const u => simpa [ev, Act.eval] using h
  | global g => simpa [ev, Act.eval] using h
  | func f => simpa [ev, Act.eval] using h
theorem Fr.evals {N : Fs} {a : Act} {l : List (Nat × Value)} (F : Fr N a l) : ∀ {xs : List Operand} {vs : List Value}, evs l xs = some vs → xs.map a.eval = vs
  | [], vs, h => by simp [evs] at h; subst h; rfl
  | x :: r, vs, h => by
    simp only [evs] at h
    split at h
    · rename_i v us h1 h2
      cases h
      rw [List.map_cons, F.eval h1, F.evals h2]
    · cases h
theorem Fr.put {N : Fs} {a : Act} {l : List (Nat × Value)} (F : Fr N a l) {d : Nat} (hd : Nat.blt d N.n = true) (v : Value) : Fr N (a.put (some d) v) ((d, v) :: l) := by
  have hd' : d < N.n := by simpa [Nat.blt_eq] using hd
  refine ⟨by simp [Act.put, F.size], F.defers, fun k u h => ?_⟩
  simp only [lk] at h
  simp only [Act.put, Array.getElem?_setIfInBounds]
  split at h
  · rename_i e
    have e' : d = k := Nat.eq_of_beq_eq_true e
    cases h
    rw [if_pos e', if_pos (by rw [F.size]; exact hd')]
  · rename_i e
    have e' : d ≠ k := fun e2 => by subst e2; rw [Nat.beq_refl] at e; cases e
    rw [if_neg e']; exact F.get k u h
def AllLk (l : List (Nat × Value)) : List (Nat × Value) → Prop
  | [] => True
  | (k, v) :: r => lk k l = some v ∧ AllLk l r
theorem Fr.cut {N : Fs} {a : Act} {l : List (Nat × Value)} (F : Fr N a l) (l' : List (Nat × Value)) (h : AllLk l l') : Fr N a l' := by
  refine ⟨F.size, F.defers, fun k v hk => F.get k v ?_⟩
  induction l' with
  | nil => cases hk
  | cons p r ih =>
    simp only [lk] at hk
    split at hk
    · rename_i e
      cases hk
      rw [← Nat.eq_of_beq_eq_true e]; exact h.1
    · exact ih h.2 hk
theorem Fr.mk' {N : Nat} {args : List Value} (l : List (Nat × Value)) (hl : ∀ k v, lk k l = some v → args[k]? = some v) (hN : args.length ≤ N) :
    Fr ⟨N, []⟩ { tmps := args.toArray ++ Array.replicate (N - args.toArray.size) undef, defers := [] } l := by
  refine ⟨by simp; omega, rfl, fun k v h => ?_⟩
  have h1 := hl k v h
  have h2 : k < args.length := (List.getElem?_eq_some_iff.1 h1).1
  rw [Array.getElem?_append_left (by simpa using h2)]
  simpa using h1

/-! ### Owned pieces of memory -/
/-- Memory that stays as it is: what these blocks hold. -/
abbrev Base := Nat → Option Obj
def Base.le (B B' : Base) : Prop := ∀ b o, B b = some o → B' b = some o
def Sub (B : Base) (w : World) : Prop := ∀ b o, B b = some o → w.heap[b]? = some o
theorem Sub.mono {B B' : Base} {w : World} (h : Sub B' w) (hl : B.le B') : Sub B w := fun b o hb => h b o (hl b o hb)
/-- What is told of a piece of memory: it hangs on the blocks of S, and on what stays. -/
structure HP where
  pr : Base → World → (Nat → Prop) → Prop
  loc : ∀ {B : Base} {w w' : World} {S : Nat → Prop}, pr B w S → (∀ b, S b → w'.heap[b]? = w.heap[b]?) → pr B w' S
  mono : ∀ {B B' : Base} {w : World} {S : Nat → Prop}, pr B w S → B.le B' → pr B' w S
/-- The pieces l are there, apart from each other and from what stays. -/
structure St (w0 w : World) (l : List HP) : Prop where
  env : w.os = w0.os ∧ w.tape = w0.tape ∧ w.output = w0.output ∧ w0.heap.size ≤ w.heap.size
  own : ∃ (B : Base) (f : Nat → Nat → Prop), Sub B w ∧ (∀ (i : Nat) (A : HP), l[i]? = some A → A.pr B w (f i)) ∧ (∀ i j b, i < l.length → j < l.length → f i b → f j b → i = j) ∧ (∀ i b, i < l.length → f i b → b < w.heap.size ∧ B b = none ∧ w0.heap.size ≤ b)
theorem Sub.lt {B : Base} {w : World} (h : Sub B w) {b : Nat} {o : Obj} (hb : B b = some o) : b < w.heap.size := (Array.getElem?_eq_some_iff.1 (h b o hb)).1
/-- Pieces are chosen, in any order; what comes behind stays. -/
theorem St.pickT {w0 w : World} {l l' t : List HP} (is : List Nat) (h : St w0 w (l ++ t)) (hn : is.Nodup) (he : is.map (fun i => l[i]?) = l'.map some) : St w0 w (l' ++ t) := by
  obtain ⟨hv, B, f, hs, h1, h2, h3⟩ := h
  have hlen : is.length = l'.length := by have := congrArg List.length he; simpa using this
  have hat : ∀ (k : Nat) (A : HP), l'[k]? = some A → ∃ i : Nat, is[k]? = some i ∧ l[i]? = some A := by
    intro k A hk
    have h4 : (is.map (fun i => l[i]?))[k]? = some (some A) := by rw [he]; simp [hk]
    simp only [List.getElem?_map, Option.map_eq_some_iff] at h4
    obtain ⟨i, hi, hA⟩ := h4
    exact ⟨i, hi, hA⟩
  let g : Nat → Nat := fun k => if k < l'.length then is.getD k 0 else k - l'.length + l.length
  have gl : ∀ k, k < l'.length → ∃ i, is[k]? = some i ∧ g k = i ∧ i < l.length := by
    intro k hk
    obtain ⟨i, hi, hA⟩ := hat k _ (List.getElem?_eq_getElem hk)
    refine ⟨i, hi, ?_, (List.getElem?_eq_some_iff.1 hA).1⟩
    simp only [g, if_pos hk, List.getD_eq_getElem?_getD, hi, Option.getD_some]
  have gr : ∀ k, ¬ k < l'.length → g k = k - l'.length + l.length := fun k hk => by simp only [g, if_neg hk]
  have glt : ∀ k, k < (l' ++ t).length → g k < (l ++ t).length := by
    intro k hk
    rw [List.length_append] at hk ⊢
    by_cases e : k < l'.length
    · obtain ⟨i, _, e1, hi⟩ := gl k e; omega
    · rw [gr k e]; omega
  refine ⟨hv, B, fun k => f (g k), hs, ?_, ?_, ?_⟩
  · intro k A hk
    refine h1 (g k) A ?_
    rw [List.getElem?_append] at hk ⊢
    by_cases e : k < l'.length
    · rw [if_pos e] at hk
      obtain ⟨i, hi, hA⟩ := hat k A hk
      obtain ⟨i', hi', e1, hl⟩ := gl k e
      obtain rfl : i = i' := by rw [hi] at hi'; exact Option.some.inj hi'
      rw [e1, if_pos hl]; exact hA
    · rw [if_neg e] at hk
      rw [gr k e, if_neg (by omega), show k - l'.length + l.length - l.length = k - l'.length by omega]; exact hk
  · intro i j b hi hj hfi hfj
    have := h2 _ _ b (glt i hi) (glt j hj) hfi hfj
    by_cases e : i < l'.length
    · obtain ⟨a, ha, e1, hl⟩ := gl i e
      by_cases e' : j < l'.length
      · obtain ⟨c, hc, e2, hl2⟩ := gl j e'
        have hac : a = c := by omega
        obtain ⟨p1, q1⟩ := List.getElem?_eq_some_iff.1 ha
        obtain ⟨p2, q2⟩ := List.getElem?_eq_some_iff.1 hc
        exact (List.getElem_inj (h₀ := p1) (h₁ := p2) hn).1 (by rw [q1, q2, hac])
      · rw [e1, gr j e'] at this; omega
    · by_cases e' : j < l'.length
      · obtain ⟨c, hc, e2, hl2⟩ := gl j e'
        rw [e2, gr i e] at this; omega
      · rw [gr i e, gr j e'] at this; omega
  · intro i b hi hf
    exact h3 _ b (glt i hi) hf
theorem St.pick {w0 w : World} {l l' : List HP} (is : List Nat) (h : St w0 w l) (hn : is.Nodup) (he : is.map (fun i => l[i]?) = l'.map some) : St w0 w l' := by
  have := St.pickT (t := []) is (by simpa using h) hn he
  simpa using this
/-- One piece turns, in its own blocks. -/
theorem St.upd {w0 w w' : World} {l : List HP} (h : St w0 w l) (i : Nat) {A A' : HP} (hi : l[i]? = some A)
    (hA : ∀ {B : Base} S, A.pr B w S → (∀ b, S b → b < w.heap.size ∧ B b = none) → ∃ S', A'.pr B w' S' ∧ (∀ b, S' b → S b ∨ w.heap.size ≤ b) ∧ (∀ b, S' b → b < w'.heap.size) ∧ (∀ b, b < w.heap.size → ¬ S b → w'.heap[b]? = w.heap[b]?))
    (hos : w'.os = w.os) (ht : w'.tape = w.tape) (ho : w'.output = w.output) (hs : w.heap.size ≤ w'.heap.size) : St w0 w' (l.set i A') := by
  obtain ⟨hv, B, f, hb, h1, h2, h3⟩ := h
  have hil : i < l.length := (List.getElem?_eq_some_iff.1 hi).1
  obtain ⟨S', hB, hsub, hlt, hoth⟩ := hA (f i) (h1 i A hi) (fun b hb => ⟨(h3 i b hil hb).1, (h3 i b hil hb).2.1⟩)
  have hfree : ∀ b, S' b → B b = none := by
    intro b hb'
    rcases hsub b hb' with h | h
    · exact (h3 i b hil h).2.1
    · cases e : B b with
      | none => rfl
      | some o => have := hb.lt e; omega
  refine ⟨⟨hos.trans hv.1, ht.trans hv.2.1, ho.trans hv.2.2.1, Nat.le_trans hv.2.2.2 hs⟩, B, fun j => if j = i then S' else f j, ?_, ?_, ?_, ?_⟩
  · intro k o hk
    rw [hoth k (hb.lt hk) (fun hf => by have := (h3 i k hil hf).2.1; rw [hk] at this; cases this)]; exact hb k o hk
  · intro j C hj
    by_cases e : j = i
    · subst e
      rw [List.getElem?_set, if_pos rfl, if_pos hil] at hj
      cases hj
      simpa using hB
    · rw [List.getElem?_set, if_neg (Ne.symm e)] at hj
      simp only [if_neg e]
      have hjl : j < l.length := (List.getElem?_eq_some_iff.1 hj).1
      refine C.loc (h1 j C hj) fun b hfb => ?_
      refine hoth b (h3 j b hjl hfb).1 fun hf => e (h2 j i b hjl hil hfb hf)
  · intro j k b hj hk hfj hfk
    simp only [List.length_set] at hj hk
    by_cases e1 : j = i
    · by_cases e2 : k = i
      · omega
      · simp only [e1, if_pos, if_neg e2] at hfj hfk
        rcases hsub b hfj with h | h
        · exact absurd (h2 i k b hil hk h hfk) (fun e => e2 e.symm)
        · have := h3 k b hk hfk; omega
    · by_cases e2 : k = i
      · simp only [e2, if_pos, if_neg e1] at hfj hfk
        rcases hsub b hfk with h | h
        · exact absurd (h2 i j b hil hj h hfj) (fun e => e1 e.symm)
        · have := h3 j b hj hfj; omega
      · simp only [if_neg e1, if_neg e2] at hfj hfk
        exact h2 j k b hj hk hfj hfk
  · intro j b hj hf
    simp only [List.length_set] at hj
    by_cases e : j = i
    · simp only [e, if_pos] at hf
      refine ⟨hlt b hf, hfree b hf, ?_⟩
      rcases hsub b hf with h | h
      · exact (h3 i b hil h).2.2
      · exact Nat.le_trans hv.2.2.2 h
    · simp only [if_neg e] at hf
      have := h3 j b hj hf
      exact ⟨by omega, this.2⟩
theorem St.get {w0 w : World} {l : List HP} (h : St w0 w l) (i : Nat) {A : HP} (hi : l[i]? = some A) : ∃ B S, Sub B w ∧ A.pr B w S ∧ ∀ b, S b → b < w.heap.size := by
  obtain ⟨hv, B, f, hs, h1, h2, h3⟩ := h
  exact ⟨B, f i, hs, h1 i A hi, fun b hf => (h3 i b (List.getElem?_eq_some_iff.1 hi).1 hf).1⟩
theorem St.drew {w0 w : World} {l : List HP} (h : St w0 w l) : St w0 w.drew l := by
  obtain ⟨hv, B, f, hs, h1, h2, h3⟩ := h
  exact ⟨hv, B, f, hs, fun i A hi => A.loc (h1 i A hi) fun _ _ => rfl, h2, h3⟩
/-- A piece more: it needs no block of its own. -/
theorem St.more {w0 w : World} {l : List HP} (h : St w0 w l) {A : HP} (hA : ∀ B, Sub B w → (∀ (i : Nat) (C : HP), l[i]? = some C → ∃ S, C.pr B w S) → A.pr B w (fun _ => False)) : St w0 w (A :: l) := by
  obtain ⟨hv, B, f, hs, h1, h2, h3⟩ := h
  refine ⟨hv, B, fun i => match i with | 0 => fun _ => False | i + 1 => f i, hs, ?_, ?_, ?_⟩
  · intro i C hi
    cases i with
    | zero => simp at hi; subst hi; exact hA B hs fun i C hi => ⟨f i, h1 i C hi⟩
    | succ i => exact h1 i C (by simpa using hi)
  · intro i j b hi hj hfi hfj
    cases i with
    | zero => exact hfi.elim
    | succ i =>
      cases j with
      | zero => exact hfj.elim
      | succ j => have := h2 i j b (by simpa using hi) (by simpa using hj) hfi hfj; omega
  · intro i b hi hf
    cases i with
    | zero => exact hf.elim
    | succ i => exact h3 i b (by simpa using hi) hf
theorem St.convAt {w0 w : World} {l : List HP} (h : St w0 w l) (i : Nat) {A C : HP} (hi : l[i]? = some A) (hC : ∀ {B : Base} S, A.pr B w S → C.pr B w S) : St w0 w (l.set i C) := by
  obtain ⟨hv, B, f, hs, h1, h2, h3⟩ := h
  have hil : i < l.length := (List.getElem?_eq_some_iff.1 hi).1
  refine ⟨hv, B, f, hs, fun j D hj => ?_, fun i j b hi hj => h2 i j b (by simpa using hi) (by simpa using hj), fun i b hi => h3 i b (by simpa using hi)⟩
  rw [List.getElem?_set] at hj
  by_cases e : i = j
  · subst e; rw [if_pos rfl, if_pos hil] at hj; cases hj; exact hC _ (h1 i A hi)
  · rw [if_neg e] at hj; exact h1 j D hj
/-- A piece whose blocks are not written any more: its blocks stay from now on. -/
theorem St.freezeH {w0 w : World} {l : List HP} {A : HP} (h : St w0 w (A :: l)) {C : HP} (hC : ∀ {B B' : Base} (S : Nat → Prop), A.pr B w S → B.le B' → (∀ w', Sub B' w' → ∀ b, S b → w'.heap[b]? = w.heap[b]?) → C.pr B' w (fun _ => False)) : St w0 w (C :: l) := by
  classical
  obtain ⟨hv, B, f, hs, h1, h2, h3⟩ := h
  let B' : Base := fun b => if f 0 b then w.heap[b]? else B b
  have hle : B.le B' := by
    intro b o hb
    have : ¬ f 0 b := fun hf => by have := (h3 0 b (by simp) hf).2.1; rw [hb] at this; cases this
    show (if f 0 b then _ else _) = _
    rw [if_neg this]; exact hb
  have hsub : Sub B' w := by
    intro b o hb
    have hb' : (if f 0 b then w.heap[b]? else B b) = some o := hb
    split at hb'
    · exact hb'
    · exact hs b o hb'
  refine ⟨hv, B', fun i => match i with | 0 => fun _ => False | i + 1 => f (i + 1), hsub, ?_, ?_, ?_⟩
  · intro i D hi
    cases i with
    | zero =>
      simp at hi; subst hi
      refine hC (f 0) (h1 0 A rfl) hle fun w' hw' b hf => ?_
      have hlt := (h3 0 b (by simp) hf).1
      have : B' b = some w.heap[b] := by
        show (if f 0 b then _ else _) = _
        rw [if_pos hf]; exact Array.getElem?_eq_getElem hlt
      rw [hw' b _ this]; exact (Array.getElem?_eq_getElem hlt).symm
    | succ i => exact D.mono (h1 (i + 1) D (by simpa using hi)) hle
  · intro i j b hi hj hfi hfj
    cases i with
    | zero => exact hfi.elim
    | succ i =>
      cases j with
      | zero => exact hfj.elim
      | succ j => exact h2 (i + 1) (j + 1) b hi hj hfi hfj
  · intro i b hi hf
    cases i with
    | zero => exact hf.elim
    | succ i =>
      have h4 := h3 (i + 1) b hi hf
      refine ⟨h4.1, ?_, h4.2.2⟩
      show (if f 0 b then _ else _) = _
      rw [if_neg (fun h0 => by have := h2 0 (i + 1) b (by simp) hi h0 hf; omega)]
      exact h4.2.1
/-- Two pieces are one. -/
theorem St.join {w0 w : World} {l : List HP} {A C D : HP} (h : St w0 w (A :: C :: l)) (hD : ∀ {B : Base} S T, A.pr B w S → C.pr B w T → (∀ b, S b → T b → False) → D.pr B w (fun b => S b ∨ T b)) : St w0 w (D :: l) := by
  obtain ⟨hv, B, f, hs, h1, h2, h3⟩ := h
  refine ⟨hv, B, fun i => match i with | 0 => fun b => f 0 b ∨ f 1 b | i + 1 => f (i + 2), hs, ?_, ?_, ?_⟩
  · intro i E hi
    cases i with
    | zero =>
      simp at hi; subst hi
      exact hD _ _ (h1 0 A rfl) (h1 1 C rfl) fun b a1 a2 => by have := h2 0 1 b (by simp) (by simp) a1 a2; omega
    | succ i => exact h1 (i + 2) E (by simpa using hi)
  · intro i j b hi hj hfi hfj
    simp only [List.length_cons] at hi hj
    cases i with
    | zero =>
      cases j with
      | zero => rfl
      | succ j =>
        rcases hfi with a | a
        · have := h2 0 (j + 2) b (by simp) (by simp; omega) a hfj; omega
        · have := h2 1 (j + 2) b (by simp) (by simp; omega) a hfj; omega
    | succ i =>
      cases j with
      | zero =>
        rcases hfj with a | a
        · have := h2 0 (i + 2) b (by simp) (by simp; omega) a hfi; omega
        · have := h2 1 (i + 2) b (by simp) (by simp; omega) a hfi; omega
      | succ j => have := h2 (i + 2) (j + 2) b (by simp; omega) (by simp; omega) hfi hfj; omega
  · intro i b hi hf
    simp only [List.length_cons] at hi
    cases i with
    | zero =>
      rcases hf with a | a
      · exact h3 0 b (by simp) a
      · exact h3 1 b (by simp) a
    | succ i => exact h3 (i + 2) b (by simp; omega) hf
theorem St.conv {w0 w : World} {l : List HP} {A C : HP} (h : St w0 w (A :: l)) (hC : ∀ {B : Base} S, A.pr B w S → C.pr B w S) : St w0 w (C :: l) := h.convAt 0 rfl hC

/-! ### Kinds of pieces -/
/-- A whole block of cells. -/
def HP.blk (b : Nat) (cs : List Value) (t : TypeId) : HP := ⟨fun _ w S => Blk w b cs t ∧ S b, fun h hS => ⟨by unfold Blk; rw [hS _ h.2]; exact h.1, h.2⟩, fun h _ => h⟩
/-- A slice that is nil, or begins at the head of a block of its own. -/
def HP.own (e : TypeId) (size : Nat) (v : Value) (n : Nat) (xs : List Value) : HP :=
  ⟨fun _ w S => w.ownsRow 0 e size v n xs ∧ ∀ b, v.ownBlock = some b → S b, fun {_ w w' S} h hS => by
    refine ⟨?_, h.2⟩
    obtain ⟨⟨hl, h1 | ⟨g, cap, cur, rfl, hb, hg, hr⟩⟩, h2⟩ := h
    · exact ⟨hl, .inl h1⟩
    · exact ⟨hl, .inr ⟨g, cap, cur, rfl, hb, by rw [hS g (h2 g rfl)]; exact hg, hr⟩⟩, fun h _ => h⟩
/-- A map. -/
def HP.map (b : Nat) (kv : List (Value × Value)) : HP := ⟨fun _ w S => MapB w b kv ∧ S b, fun h hS => by
  obtain ⟨⟨es, c, h1, h2⟩, h3⟩ := h
  exact ⟨⟨es, c, by rw [hS _ h3]; exact h1, h2⟩, h3⟩, fun h _ => h⟩
def HP.fact (p : Prop) : HP := ⟨fun _ _ _ => p, fun h _ => h, fun h _ => h⟩

theorem St.blk {w0 w : World} {l : List HP} (h : St w0 w l) (i : Nat) {b : Nat} {cs : List Value} {t : TypeId} (hi : l[i]? = some (HP.blk b cs t)) : Blk w b cs t := by
  obtain ⟨_, S, _, h1, _⟩ := h.get i hi; exact h1.1
theorem St.owns {w0 w : World} {l : List HP} (h : St w0 w l) (i : Nat) {e : TypeId} {size : Nat} {v : Value} {n : Nat} {xs : List Value} (hi : l[i]? = some (HP.own e size v n xs)) : w.ownsRow 0 e size v n xs := by
  obtain ⟨_, S, _, h1, _⟩ := h.get i hi; exact h1.1
theorem St.sl {w0 w : World} {l : List HP} (h : St w0 w l) (i : Nat) {e : TypeId} {size : Nat} {v : Value} {n : Nat} {xs : List Value} (hi : l[i]? = some (HP.own e size v n xs)) : Sl w v n xs := ownsRow_sl (h.owns i hi)
theorem St.add {w0 w : World} {l : List HP} (h : St w0 w l) (o : Obj) (A : HP) (hA : ∀ {B : Base} (S : Nat → Prop), S w.heap.size → A.pr B (w.alloc o) S) : St w0 (w.alloc o) (A :: l) := by
  obtain ⟨hv, B, f, hs, h1, h2, h3⟩ := h
  refine ⟨⟨hv.1, hv.2.1, hv.2.2.1, by have := hv.2.2.2; simp; omega⟩, B, fun i => match i with | 0 => fun b => b = w.heap.size | i + 1 => f i, ?_, ?_, ?_, ?_⟩
  · intro b o' hb; rw [heapOld w o b (hs.lt hb)]; exact hs b o' hb
  · intro i C hi
    cases i with
    | zero => simp at hi; subst hi; exact hA _ rfl
    | succ i =>
      have hi' : l[i]? = some C := by simpa using hi
      exact C.loc (h1 i C hi') fun b hf => heapOld w o b (h3 i b (List.getElem?_eq_some_iff.1 hi').1 hf).1
  · intro i j b hi hj hfi hfj
    simp only [List.length_cons] at hi hj
    cases i with
    | zero =>
      cases j with
      | zero => rfl
      | succ j => have e : b = w.heap.size := hfi; have := (h3 j b (by omega) hfj).1; omega
    | succ i =>
      cases j with
      | zero => have e : b = w.heap.size := hfj; have := (h3 i b (by omega) hfi).1; omega
      | succ j => have := h2 i j b (by omega) (by omega) hfi hfj; omega
  · intro i b hi hf
    simp only [List.length_cons] at hi
    cases i with
    | zero =>
      have e : b = w.heap.size := hf
      subst e
      refine ⟨by simp, ?_, hv.2.2.2⟩
      cases e : B w.heap.size with
      | none => rfl
      | some o => have := hs.lt e; omega
    | succ i => have := h3 i b (by omega) hf; exact ⟨by simp; omega, this.2⟩
theorem St.alloc {w0 w : World} {l : List HP} (h : St w0 w l) (cs : List Value) (t : TypeId) : St w0 (w.alloc (.cells cs.toArray t)) (HP.blk w.heap.size cs t :: l) :=
  h.add _ _ fun S hS => ⟨Blk.new w cs t, hS⟩
theorem St.tail {w0 w : World} {l : List HP} {A : HP} (h : St w0 w (A :: l)) : St w0 w l := St.pickT (l := [A]) (l' := []) [] h (by simp) rfl
theorem St.other {w0 w : World} {l : List HP} (h : St w0 w l) (o : Obj) : St w0 (w.alloc o) l :=
  (h.add o (HP.fact True) fun _ _ => trivial).tail
theorem St.chg {w0 w w' : World} {l : List HP} (h : St w0 w l) (i : Nat) {A A' : HP} {g : Nat} (hi : l[i]? = some A) (hg : ∀ {B : Base} S, A.pr B w S → S g) (hc : Chg g w w') (hB : ∀ {B : Base} S, A.pr B w S → A'.pr B w' S) : St w0 w' (l.set i A') :=
  h.upd i hi (fun S hA hS => ⟨S, hB S hA, fun b hb => .inl hb, fun b hb => by rw [hc.size]; exact (hS b hb).1, fun b _ hn => hc.oth b fun e => hn (e ▸ hg S hA)⟩) hc.os hc.tape hc.output (by rw [hc.size]; exact Nat.le_refl _)
theorem St.setBlk {w0 w : World} {l : List HP} (h : St w0 w l) (i : Nat) {b : Nat} {cs : List Value} {t : TypeId} (hi : l[i]? = some (HP.blk b cs t)) (cs' : List Value) : St w0 (w.setRow b cs'.toArray) (l.set i (HP.blk b cs' t)) :=
  h.chg i hi (fun S hA => hA.2) (Chg.setRow w b _) fun S hA => ⟨hA.1.set_same cs', hA.2⟩
/-- At the beginning all that is there stays. -/
theorem St.start (w : World) : St w w [] := ⟨⟨rfl, rfl, rfl, Nat.le_refl _⟩, fun b => w.heap[b]?, fun _ _ => False, fun b o h => h, by simp, by simp, by simp⟩

/-! ### Control -/
section
variable {P : Program} {Q : Exit → Act → World → Prop} {K : Act → World → Prop} {a : Act} {w : World}
theorem c_then (h : K a w) : Exit.then K Q .normal a w := h
theorem c_thenX {i : Nat} (h : Q (.exit i) a w) : Exit.then K Q (.exit i) a w := h
theorem c_thenR (h : Q .ret a w) : Exit.then K Q .ret a w := h
theorem c_blkN {i : Nat} (h : Q .normal a w) : Exit.inBlock i Q .normal a w := h
theorem c_blkR {i : Nat} (h : Q .ret a w) : Exit.inBlock i Q .ret a w := h
theorem c_hit {i : Nat} (h : Q .normal a w) : Exit.inBlock i Q (.exit i) a w := by show (if i = i then _ else _); rw [if_pos rfl]; exact h
theorem x_cond {N : Fs} {l : List (Nat × Value)} (F : Fr N a l) {c : Operand} {x y : Code} {t : Bool} (hc : ev l c = some (.bool t)) (ht : t = true → x.wp P Q a w) (hf : t = false → y.wp P Q a w) : (Code.cond c x y).wp P Q a w :=
  wp_cond_split (F.eval hc) ht hf
theorem x_condP {N : Fs} {l : List (Nat × Value)} (F : Fr N a l) {c : Operand} {x y : Code} {p : Prop} [Decidable p] (hc : ev l c = some (.bool (decide p))) (ht : p → x.wp P Q a w) (hf : ¬ p → y.wp P Q a w) : (Code.cond c x y).wp P Q a w :=
  wp_cond_split (F.eval hc) (fun h => ht (of_decide_eq_true h)) (fun h => hf (of_decide_eq_false h))
theorem x_condN {N : Fs} {l : List (Nat × Value)} (F : Fr N a l) {c : Operand} {x y : Code} {p : Prop} [Decidable p] (hc : ev l c = some (.bool (!decide p))) (ht : ¬ p → x.wp P Q a w) (hf : p → y.wp P Q a w) : (Code.cond c x y).wp P Q a w :=
  wp_cond_split (F.eval hc) (fun h => ht (by simpa using h)) (fun h => hf (by simpa using h))
theorem x_condT {N : Fs} {l : List (Nat × Value)} (F : Fr N a l) {c : Operand} {x y : Code} (hc : ev l c = some (.bool true)) (h : x.wp P Q a w) : (Code.cond c x y).wp P Q a w := wp_cond_true (F.eval hc) h
theorem x_condF {N : Fs} {l : List (Nat × Value)} (F : Fr N a l) {c : Operand} {x y : Code} (hc : ev l c = some (.bool false)) (h : y.wp P Q a w) : (Code.cond c x y).wp P Q a w := wp_cond_false (F.eval hc) h

theorem exists_least {p : Nat → Prop} (h : ∃ n, p n) : ∃ n, p n ∧ ∀ m, p m → n ≤ m := by
  obtain ⟨n, hn⟩ := h
  induction n using Nat.strongRecOn with
  | _ n ih =>
    by_cases h : ∃ m, m < n ∧ p m
    · obtain ⟨m, hm, hp⟩ := h; exact ih m hm hp
    · exact ⟨n, hn, fun m hm => by
        rcases Nat.lt_or_ge m n with h1 | h1
        · exact absurd ⟨m, h1, hm⟩ h
        · exact h1⟩
/-- A loop with an invariant over a ghost g, whose measure falls. -/
theorem x_loop {G : Type} {c : Code} (I : G → Act → World → Prop) (μ : G → Nat) (g0 : G) (h0 : I g0 a w)
    (round : ∀ g a w, I g a w → c.wp P (Exit.then (fun a' w' => ∃ g', I g' a' w' ∧ μ g' < μ g) Q) a w) : (Code.loop c).wp P Q a w := by
  classical
  let q : Act → World → Nat → Prop := fun a w n => ∃ g, I g a w ∧ μ g = n
  have hex : ∀ a w, (∃ g, I g a w) → ∃ n, q a w n := fun a w ⟨g, hg⟩ => ⟨μ g, g, hg, rfl⟩
  let m : Act → World → Nat := fun a w => if h : ∃ g, I g a w then Classical.choose (exists_least (hex a w h)) else 0
  have hm : ∀ a w (h : ∃ g, I g a w), (∃ g, I g a w ∧ μ g = m a w) ∧ ∀ g, I g a w → m a w ≤ μ g := by
    intro a w h
    have hs := Classical.choose_spec (exists_least (hex a w h))
    have e : m a w = Classical.choose (exists_least (hex a w h)) := dif_pos h
    rw [e]
    exact ⟨hs.1, fun g hg => hs.2 _ ⟨g, hg, rfl⟩⟩
  refine wp_loop (fun a w => ∃ g, I g a w) m ⟨g0, h0⟩ fun a w h => ?_
  obtain ⟨g, hg, e⟩ := (hm a w h).1
  refine wp_mono (round g a w hg) fun e' a' w' hq => ?_
  cases e' with
  | normal =>
    obtain ⟨g', hg', hlt⟩ := hq
    exact ⟨⟨g', hg'⟩, by have := (hm a' w' ⟨g', hg'⟩).2 g' hg'; omega⟩
  | _ => exact hq
end

/-! ### A function -/
def numL : Nat → List Value → List (Nat × Value)
  | _, [] => []
  | s, x :: r => (s, x) :: numL (s + 1) r
theorem lk_numL : ∀ (args : List Value) (s k : Nat) (v : Value), lk k (numL s args) = some v → s ≤ k ∧ args[k - s]? = some v
  | [], s, k, v, h => by cases h
  | x :: r, s, k, v, h => by
    simp only [numL, lk] at h
    split at h
    · rename_i e
      cases h
      have := Nat.eq_of_beq_eq_true e
      subst this
      exact ⟨Nat.le_refl _, by simp⟩
    · obtain ⟨h1, h2⟩ := lk_numL r (s + 1) k v h
      refine ⟨by omega, ?_⟩
      rw [show k - s = (k - (s + 1)) + 1 by omega, List.getElem?_cons_succ]; exact h2
theorem x_enter {P : Program} {f : FuncId} {fn : Func} {c : Code} {args : List Value} {w : World} {R : Ending → World → Prop} {N : Nat}
    (hf : P.funcs[f]? = some fn) (hb : fn.body = some c) (hN : fn.ntmps = N) (hle : Nat.ble args.length N = true)
    (h : ∀ a, Fr ⟨N, []⟩ a (numL 0 args) → c.wp P (bodyPost P fn R) a w) : Calls P f args.toArray w R := by
  subst hN
  exact calls_of_wp hf hb (h _ (Fr.mk' _ (fun k v hk => by have := (lk_numL args 0 k v hk).2; simpa using this) (Nat.le_of_ble_eq_true hle)))
section
variable {P : Program} {fn : Func} {R : Ending → World → Prop} {a : Act} {w : World} {N : Nat} {l : List (Nat × Value)}
theorem x_ret1 (F : Fr ⟨N, []⟩ a l) {t : Tmp} (hr : fn.results = #[.tmp t]) {v : Value} (hv : lk t l = some v) (h : R (.returned v) w) : bodyPost P fn R .ret a w := by
  refine bodyPost_ret (v := v) ?_ F.defers h
  have := F.get t v hv
  simp [results, hr, this]
theorem x_ret2 (F : Fr ⟨N, []⟩ a l) {t u : Tmp} (hr : fn.results = #[.tmp t, .tmp u]) {v x : Value} (hv : lk t l = some v) (hx : lk u l = some x) (h : R (.returned (.tuple #[v, x])) w) : bodyPost P fn R .ret a w := by
  refine bodyPost_ret (v := .tuple #[v, x]) ?_ F.defers h
  have h1 := F.get t v hv
  have h2 := F.get u x hx
  simp [results, hr, h1, h2]
theorem x_end0 (F : Fr ⟨N, []⟩ a l) (hr : fn.results = #[]) (h : R (.returned (.tuple #[])) w) : bodyPost P fn R .normal a w :=
  bodyPost_end (v := .tuple #[]) (by simp [results, hr]) F.defers h
end

/-! ### One operation -/
/-- The fence of my walks: all functions, no bound of depth; in the round of a range over a function, or in none. -/
def FN (ro : Option Nat) : Fence := { fn := fun _ => True, depth := none, alive := false, round := ro }
def notDefer : Op → Bool
  | .defer _ => false
  | _ => true
theorem notDefer_spec {o : Op} (h : notDefer o = true) : ∀ c, o ≠ .defer c := fun c e => by rw [e] at h; cases h
/-- A judgement on lists of operations to which the rules of the walk apply. -/
structure Walk (P : Program) (ops : Array Oper) (W : List Oper → Act → World → Prop) : Prop where
  val : ∀ {o : Oper} {rest : List Oper} {a : Act} {w w' : World} {v : Value}, Region.wanted o (yielded ops a.tmps) = true → notDefer o.op = true → (execOp a.eval o).run P w = .ok (.value v) w' → W rest (a.put o.dst v) w' → W (o :: rest) a w
  skip : ∀ {o : Oper} {rest : List Oper} {a : Act} {w w' : World}, Region.wanted o (yielded ops a.tmps) = true → notDefer o.op = true → (execOp a.eval o).run P w = .ok .skip w' → W rest (a.put o.dst undef) w' → W (o :: rest) a w
  call : ∀ {o : Oper} {rest : List Oper} {a : Act} {w : World} {f : FuncId} {vs : Array Value} {R : Value → World → Prop}, Region.wanted o (yielded ops a.tmps) = true → notDefer o.op = true → (execOp a.eval o).run P w = .ok (.enter f vs) w →
    Calls P f vs w (fun e w' => ∃ v, e = .returned v ∧ R v w') → (∀ v w', R v w' → W rest (a.put o.dst v) w') → W (o :: rest) a w
  off : ∀ {o : Oper} {rest : List Oper} {a : Act} {w : World}, Region.wanted o (yielded ops a.tmps) = false → W rest (a.put o.dst undef) w → W (o :: rest) a w
theorem wkP {P : Program} {ops : Array Oper} {Q : Exit → Act → World → Prop} : Walk P ops (wpList P ops Q) where
  val hw _ hr hk := by unfold wpList; rw [if_pos hw]; refine .inl ?_; unfold Oper.wp; rw [hr, Oper.upon_value]; exact hk
  skip hw _ hr hk := by unfold wpList; rw [if_pos hw]; refine .inl ?_; unfold Oper.wp; rw [hr, Oper.upon_skip]; exact hk
  call hw _ hr hc hk := by
    unfold wpList; rw [if_pos hw]; refine .inl ?_; unfold Oper.wp; rw [hr, Oper.upon_enter]
    exact hc.mono fun e w' ⟨v, he, hR⟩ => by subst he; exact hk v w' hR
  off hw hk := by unfold wpList; rw [if_neg (by rw [hw]; simp)]; exact hk
theorem callsI {P : Program} {f : FuncId} {vs : Array Value} {w : World} {R : Ending → World → Prop} (ro : Option Nat) (h : Calls P f vs w R) : CallsIn (FN ro) 0 P f vs w R :=
  ⟨trivial, fun cs _ => (callsIn_wide (n := 0).2 h).2 cs (room_wide _)⟩
theorem wkI {P : Program} {ro : Option Nat} {ops : Array Oper} {Q : Exit → Act → World → Prop} : Walk P ops (wpListIn (FN ro) 0 P ops Q) where
  val hw hd hr hk := by
    unfold wpListIn; rw [if_pos hw]; refine ⟨fun _ _ => trivial, ?_⟩
    rw [Oper.semAt_eq _ _ _ (notDefer_spec hd), hr, Oper.uponIn_value]; exact hk
  skip hw hd hr hk := by
    unfold wpListIn; rw [if_pos hw]; refine ⟨fun _ _ => trivial, ?_⟩
    rw [Oper.semAt_eq _ _ _ (notDefer_spec hd), hr, Oper.uponIn_skip]; exact hk
  call hw hd hr hc hk := by
    unfold wpListIn; rw [if_pos hw]; refine ⟨fun _ _ => trivial, ?_⟩
    rw [Oper.semAt_eq _ _ _ (notDefer_spec hd), hr, Oper.uponIn_enter]
    refine ⟨(fun h => by cases h), callsI _ (hc.mono fun e w' ⟨v, he, hR⟩ => by subst he; exact hk v w' hR)⟩
  off hw hk := by unfold wpListIn; rw [if_neg (by rw [hw]; simp)]; exact ⟨fun _ _ => trivial, hk⟩
theorem want0 {ops : Array Oper} {o : Oper} {a : Act} (hg : o.guard = none) : Region.wanted o (yielded ops a.tmps) = true := by simp [Region.wanted, hg]
section
variable {P : Program} {ops : Array Oper} {rest : List Oper} {o : Oper} {a : Act} {w w' : World} {W : List Oper → Act → World → Prop} {N : Fs} {l : List (Nat × Value)} {d : Nat} {v : Value}
/-- An operation that yields a value. -/
theorem s_val (k : Walk P ops W) (F : Fr N a l) (hg : o.guard = none) (hd : o.dst = some d) (hN : Nat.blt d N.n = true) (hnd : notDefer o.op = true) (hr : (execOp a.eval o).run P w = .ok (.value v) w')
    (hk : ∀ a', Fr N a' ((d, v) :: l) → W rest a' w') : W (o :: rest) a w :=
  k.val (want0 hg) hnd hr (by rw [hd]; exact hk _ (F.put hN v))
/-- What it yields isn't kept. -/
theorem s_valN (k : Walk P ops W) (F : Fr N a l) (hg : o.guard = none) (hd : o.dst = none) (hnd : notDefer o.op = true) (hr : (execOp a.eval o).run P w = .ok (.value v) w')
    (hk : W rest a w') : W (o :: rest) a w :=
  k.val (want0 hg) hnd hr (by rw [hd]; exact hk)
theorem s_none (k : Walk P ops W) (F : Fr N a l) (hg : o.guard = none) (hd : o.dst = none) (hnd : notDefer o.op = true) (hr : (execOp a.eval o).run P w = .ok .skip w')
    (hk : W rest a w') : W (o :: rest) a w :=
  k.skip (want0 hg) hnd hr (by rw [hd]; exact hk)
theorem s_call (k : Walk P ops W) (F : Fr N a l) (hg : o.guard = none) (hd : o.dst = some d) (hN : Nat.blt d N.n = true) (hnd : notDefer o.op = true) {f : FuncId} {vs : Array Value} (hr : (execOp a.eval o).run P w = .ok (.enter f vs) w)
    {R : Value → World → Prop} (hc : Calls P f vs w fun e w' => ∃ v, e = .returned v ∧ R v w')
    (hk : ∀ v w' a', R v w' → Fr N a' ((d, v) :: l) → W rest a' w') : W (o :: rest) a w :=
  k.call (want0 hg) hnd hr hc fun v w' hR => by rw [hd]; exact hk v w' _ hR (F.put hN v)
theorem want_on {bb : Bool} {g s : Nat} {og : Oper} (F : Fr N a l) (hgd : o.guard = some (g, bb)) (hog : ops[g]? = some og) (hog2 : og.dst = some s) (hv : lk s l = some (.bool bb)) : Region.wanted o (yielded ops a.tmps) = true := by
  have h1 := F.get s _ hv
  simp [Region.wanted, hgd, yielded, hog, hog2, h1]
theorem want_off {bb cc : Bool} {g s : Nat} {og : Oper} (F : Fr N a l) (hgd : o.guard = some (g, bb)) (hog : ops[g]? = some og) (hog2 : og.dst = some s) (hv : lk s l = some (.bool cc)) (hne : (cc == bb) = false) : Region.wanted o (yielded ops a.tmps) = false := by
  have h1 := F.get s _ hv
  have : cc ≠ bb := by simpa using hne
  simp [Region.wanted, hgd, yielded, hog, hog2, h1, this]
theorem g_off {bb cc : Bool} {g s : Nat} {og : Oper} (k : Walk P ops W) (F : Fr N a l) (hgd : o.guard = some (g, bb)) (hog : ops[g]? = some og) (hog2 : og.dst = some s) (hv : lk s l = some (.bool cc)) (hne : (cc == bb) = false) (hd : o.dst = some d) (hN : Nat.blt d N.n = true)
    (hk : ∀ a', Fr N a' ((d, undef) :: l) → W rest a' w) : W (o :: rest) a w :=
  k.off (want_off F hgd hog hog2 hv hne) (by rw [hd]; exact hk _ (F.put hN _))
end
theorem Fr.bool {N : Fs} {a : Act} {l : List (Nat × Value)} (F : Fr N a l) {k : Nat} {v u : Value} (hv : lk k l = some v) (he : v = u) : Fr N a ((k, u) :: l) := by
  subst he
  refine ⟨F.size, F.defers, fun j u h => ?_⟩
  simp only [lk] at h
  split at h
  · rename_i e
    cases h
    rw [← Nat.eq_of_beq_eq_true e]; exact F.get k _ hv
  · exact F.get j u h

section
variable {P : Program} {ops : Array Oper} {rest : List Oper} {o : Oper} {a : Act} {w : World} {Q : Exit → Act → World → Prop} {N : Fs} {l : List (Nat × Value)}
theorem g_onP {s : Nat} {bb : Bool} {g : Nat} {og : Oper} (F : Fr N a l) (hgd : o.guard = some (g, bb)) (hog : ops[g]? = some og) (hog2 : og.dst = some s) (hv : lk s l = some (.bool bb)) (h : wpList P ops Q ({ o with guard := none } :: rest) a w) : wpList P ops Q (o :: rest) a w := by
  unfold wpList at h ⊢
  rw [if_pos (want_on F hgd hog hog2 hv)]
  rw [if_pos (by simp [Region.wanted])] at h
  exact h
end
/-! ### Quiet operations: in every world of a class C -/
section
variable {P : Program} {ops : Array Oper} {rest : List Oper} {o : Oper} {a : Act} {Q : Act → Prop} {C : World → Prop} {N : Fs} {l : List (Nat × Value)} {d : Nat} {v : Value}
theorem q_val (F : Fr N a l) (hg : o.guard = none) (hd : o.dst = some d) (hN : Nat.blt d N.n = true) (hr : ∀ w, C w → (execOp a.eval o).run P w = .ok (.value v) w)
    (hk : ∀ a', Fr N a' ((d, v) :: l) → wpQuiet P ops C Q rest a') : wpQuiet P ops C Q (o :: rest) a := by
  unfold wpQuiet
  rw [if_pos (by simp [Region.wanted, hg])]
  refine ⟨v, fun w hw => ?_, by rw [hd]; exact hk _ (F.put hN v)⟩
  unfold Oper.quietAt
  rw [hr w hw]
  exact ⟨rfl, rfl⟩
theorem q_call (F : Fr N a l) (hg : o.guard = none) (hd : o.dst = some d) (hN : Nat.blt d N.n = true) {f : FuncId} {vs : Array Value} (hr : ∀ w, C w → (execOp a.eval o).run P w = .ok (.enter f vs) w)
    (hc : ∀ w, C w → Calls P f vs w fun e w' => e = .returned v ∧ C w')
    (hk : ∀ a', Fr N a' ((d, v) :: l) → wpQuiet P ops C Q rest a') : wpQuiet P ops C Q (o :: rest) a := by
  unfold wpQuiet
  rw [if_pos (by simp [Region.wanted, hg])]
  refine ⟨v, fun w hw => ?_, by rw [hd]; exact hk _ (F.put hN v)⟩
  unfold Oper.quietAt
  rw [hr w hw]
  exact ⟨rfl, hc w hw⟩
theorem qg_on {k : Nat} {bb : Bool} {g : Nat} {og : Oper} (F : Fr N a l) (hgd : o.guard = some (g, bb)) (hog : ops[g]? = some og) (hog2 : og.dst = some k) (hv : lk k l = some (.bool bb)) (h : wpQuiet P ops C Q ({ o with guard := none } :: rest) a) : wpQuiet P ops C Q (o :: rest) a := by
  have h1 := F.get k _ hv
  have hw : Region.wanted o (yielded ops a.tmps) = true := by simp [Region.wanted, hgd, yielded, hog, hog2, h1]
  unfold wpQuiet at h ⊢
  rw [if_pos hw]
  rw [if_pos (by simp [Region.wanted])] at h
  exact h
theorem qg_off {k : Nat} {bb cc : Bool} {g : Nat} {og : Oper} (F : Fr N a l) (hgd : o.guard = some (g, bb)) (hog : ops[g]? = some og) (hog2 : og.dst = some k) (hv : lk k l = some (.bool cc)) (hne : (cc == bb) = false) (hd : o.dst = some d) (hN : Nat.blt d N.n = true)
    (hk : ∀ a', Fr N a' ((d, undef) :: l) → wpQuiet P ops C Q rest a') : wpQuiet P ops C Q (o :: rest) a := by
  have h1 := F.get k _ hv
  have hw : Region.wanted o (yielded ops a.tmps) = false := by
    have : cc ≠ bb := by simpa using hne
    simp [Region.wanted, hgd, yielded, hog, hog2, h1, this]
  unfold wpQuiet
  rw [if_neg (by rw [hw]; simp), hd]
  exact hk _ (F.put hN _)
theorem q_nil (h : Q a) : wpQuiet P ops C Q [] a := h
theorem q_region {id : Nat} {Q : Exit → Act → World → Prop} {w : World} {l : List Oper} (C : World → Prop) (hm : P.follows .mixedOrders = true) (hB : Region.lexB .any l.toArray = true) (hC : C w.drew)
    (h : wpQuiet P l.toArray C (fun a' => ∀ w', C w' → Q .normal a' w') l a) : (Code.region id l.toArray true).wp P Q a w :=
  wp_region_quiet (C := C) hm hB hC (by simpa using h)
theorem r_lit {id : Nat} {Q : Exit → Act → World → Prop} {w : World} {l : List Oper} (h : wpList P l.toArray Q l a w) : (Code.region id l.toArray false).wp P Q a w := wp_region_lit h
end
/-! ### Control, fenced -/
section
variable {P : Program} {ro : Option Nat} {Q : Exit → Act → World → Prop} {K : Act → World → Prop} {a : Act} {w : World} {N : Fs} {l : List (Nat × Value)}
theorem xi_condP (F : Fr N a l) {c : Operand} {x y : Code} {p : Prop} [Decidable p] (hc : ev l c = some (.bool (decide p))) (ht : p → x.wpIn (FN ro) 0 P Q a w) (hf : ¬ p → y.wpIn (FN ro) 0 P Q a w) : (Code.cond c x y).wpIn (FN ro) 0 P Q a w :=
  wpIn_cond_split (F.eval hc) (fun h => ht (of_decide_eq_true h)) (fun h => hf (of_decide_eq_false h))
theorem xi_condT (F : Fr N a l) {c : Operand} {x y : Code} (hc : ev l c = some (.bool true)) (h : x.wpIn (FN ro) 0 P Q a w) : (Code.cond c x y).wpIn (FN ro) 0 P Q a w := wpIn_cond_true (F.eval hc) h
theorem xi_condF (F : Fr N a l) {c : Operand} {x y : Code} (hc : ev l c = some (.bool false)) (h : y.wpIn (FN ro) 0 P Q a w) : (Code.cond c x y).wpIn (FN ro) 0 P Q a w := wpIn_cond_false (F.eval hc) h
theorem xi_loop {G : Type} {c : Code} (I : G → Act → World → Prop) (μ : G → Nat) (g0 : G) (h0 : I g0 a w)
    (round : ∀ g a w, I g a w → c.wpIn (FN ro) 0 P (Exit.then (fun a' w' => ∃ g', I g' a' w' ∧ μ g' < μ g) Q) a w) : (Code.loop c).wpIn (FN ro) 0 P Q a w := by
  classical
  let q : Act → World → Nat → Prop := fun a w n => ∃ g, I g a w ∧ μ g = n
  have hex : ∀ a w, (∃ g, I g a w) → ∃ n, q a w n := fun a w ⟨g, hg⟩ => ⟨μ g, g, hg, rfl⟩
  let m : Act → World → Nat := fun a w => if h : ∃ g, I g a w then Classical.choose (exists_least (hex a w h)) else 0
  have hm : ∀ a w (h : ∃ g, I g a w), (∃ g, I g a w ∧ μ g = m a w) ∧ ∀ g, I g a w → m a w ≤ μ g := by
    intro a w h
    have hs := Classical.choose_spec (exists_least (hex a w h))
    have e : m a w = Classical.choose (exists_least (hex a w h)) := dif_pos h
    rw [e]
    exact ⟨hs.1, fun g hg => hs.2 _ ⟨g, hg, rfl⟩⟩
  refine wpIn_loop (fun a w => ∃ g, I g a w) m ⟨g0, h0⟩ fun a w h => ?_
  obtain ⟨g, hg, e⟩ := (hm a w h).1
  refine Go.wpIn_mono (round g a w hg) fun e' a' w' hq => ?_
  cases e' with
  | normal =>
    obtain ⟨g', hg', hlt⟩ := hq
    exact ⟨⟨g', hg'⟩, by have := (hm a' w' ⟨g', hg'⟩).2 g' hg'; omega⟩
  | _ => exact hq
theorem ri_lit {id : Nat} {l : List Oper} (h : wpListIn (FN ro) 0 P l.toArray Q l a w) : (Code.region id l.toArray false).wpIn (FN ro) 0 P Q a w := wpIn_region_lit h
end
/-- A function whose body is walked with the fence. -/
theorem xi_enter {P : Program} {f : FuncId} {fn : Func} {c : Code} {args : List Value} {w : World} {R : Ending → World → Prop} {N : Nat}
    (hf : P.funcs[f]? = some fn) (hb : fn.body = some c) (hN : fn.ntmps = N) (hle : Nat.ble args.length N = true)
    (h : ∀ a, Fr ⟨N, []⟩ a (numL 0 args) → c.wpIn (FN none) 0 P (bodyPostM (FN none) 0 P fn R) a w) : Calls P f args.toArray w R := by
  subst hN
  exact callsIn_wide.1 (callsIn_of_wp_marks (F := FN none) (n := 0) hf hb trivial (h _ (Fr.mk' _ (fun k v hk => by have := (lk_numL args 0 k v hk).2; simpa using this) (Nat.le_of_ble_eq_true hle))))
section
variable {P : Program} {fn : Func} {R : Ending → World → Prop} {a : Act} {w : World} {N : Nat} {l : List (Nat × Value)}
theorem xi_leave0 {v : Value} (F : Fr ⟨N, []⟩ a l) (hr : (results fn a.tmps).run P w = .ok v w) (h : R (.returned v) w) : LeavesInM (FN none) 0 P fn a.tmps R a.defers .returning w := by
  rw [F.defers]; exact ⟨v, hr, h⟩
theorem run_ret0 (hr : fn.results = #[]) : (results fn a.tmps).run P w = .ok (.tuple #[]) w := by simp [results, hr]
theorem xi_ret0 (F : Fr ⟨N, []⟩ a l) (hr : fn.results = #[]) (h : R (.returned (.tuple #[])) w) : bodyPostM (FN none) 0 P fn R .ret a w := xi_leave0 F (run_ret0 hr) h
theorem xi_end0 (F : Fr ⟨N, []⟩ a l) (hr : fn.results = #[]) (h : R (.returned (.tuple #[])) w) : bodyPostM (FN none) 0 P fn R .normal a w := xi_leave0 F (run_ret0 hr) h
end
end Go.Tri
