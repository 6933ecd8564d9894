import Derived.Test.YtnjemlkcamdbfaaGreatDoorA4
import Derived.Laws.IdiomStrings
/- Data: lists whose elements are owned slices of bytes; bytes copied over an owned slice. -/
set_option linter.unusedSimpArgs false
set_option linter.unusedVariables false
namespace Go.Tri
open Go.RowKit
theorem St.split {w0 w : World} {A : HP} {l : List HP} (H : St w0 w (A :: l)) {ι : Type} {C D : ι → HP} (hS : ∀ {B : Base} {S : Nat → Prop}, A.pr B w S → ∃ i S1 S2, (C i).pr B w S1 ∧ (D i).pr B w S2 ∧ (∀ b, S1 b → S2 b → False) ∧ (∀ b, S1 b → S b) ∧ (∀ b, S2 b → S b)) : ∃ i, St w0 w (C i :: D i :: l) := by
  obtain ⟨hv, B, f, hs, h1, h2, h3⟩ := H
  obtain ⟨i, S1, S2, hC, hD, hd, s1, s2⟩ := hS (h1 0 A rfl)
  refine ⟨i, hv, B, fun j => match j with | 0 => S1 | 1 => S2 | j + 2 => f (j + 1), hs, ?_, ?_, ?_⟩
  · intro j E hj
    match j with
    | 0 => simp at hj; subst hj; exact hC
    | 1 => simp at hj; subst hj; exact hD
    | j + 2 => exact h1 (j + 1) E (by simpa using hj)
  · intro j k b hj hk hfj hfk
    simp only [List.length_cons] at hj hk
    match j, k with
    | 0, 0 => rfl
    | 0, 1 => exact (hd b hfj hfk).elim
    | 0, k + 2 => have := h2 0 (k + 1) b (by simp) (by simp; omega) (s1 b hfj) hfk; omega
    | 1, 0 => exact (hd b hfk hfj).elim
    | 1, 1 => rfl
    | 1, k + 2 => have := h2 0 (k + 1) b (by simp) (by simp; omega) (s2 b hfj) hfk; omega
    | j + 2, 0 => have := h2 0 (j + 1) b (by simp) (by simp; omega) (s1 b hfk) hfj; omega
    | j + 2, 1 => have := h2 0 (j + 1) b (by simp) (by simp; omega) (s2 b hfk) hfj; omega
    | j + 2, k + 2 => have := h2 (j + 1) (k + 1) b (by simp; omega) (by simp; omega) hfj hfk; omega
  · intro j b hj hf
    simp only [List.length_cons] at hj
    match j with
    | 0 => exact h3 0 b (by simp) (s1 b hf)
    | 1 => exact h3 0 b (by simp) (s2 b hf)
    | j + 2 => exact h3 (j + 1) b (by simp; omega) hf
/-- Owned slices of bytes, whose headers are the cells css; but for those that h tells. -/
def HP.os (e1 : TypeId) (css : List (List Value)) (xs : List (List UInt8)) (h : Nat → Prop) : HP :=
  HP.of (fun B w S => ∃ f : Nat → Nat → Prop, css.length = xs.length ∧ (∀ (i : Nat) (cs : List Value) (x : List UInt8), css[i]? = some cs → xs[i]? = some x → ∃ q c, cs = [.slice q x.length c] ∧ (¬ h i → (HP.ow rByte e1 q c x).pr B w (f i))) ∧ (∀ i j b, f i b → f j b → i = j) ∧ (∀ i b, f i b → S b))
    (fun ⟨f, h0, h1, h2, h3⟩ hS => ⟨f, h0, fun i cs x hc hx => by
      obtain ⟨q, c, e, ho⟩ := h1 i cs x hc hx
      exact ⟨q, c, e, fun hn => HP.loc _ (ho hn) fun b hb => hS b (h3 i b hb)⟩, h2, h3⟩)
    (fun ⟨f, h0, h1, h2⟩ hl => ⟨f, h0, fun i cs x hc hx => by
      obtain ⟨q, c, e, ho⟩ := h1 i cs x hc hx
      exact ⟨q, c, e, fun hn => HP.mono _ (ho hn) hl⟩, h2⟩)
section
variable {w0 w : World} {l : List HP} {e1 : TypeId} {css : List (List Value)} {xs : List (List UInt8)}
end
/-! ### Bytes over an owned slice -/
section
variable {P : Program} {t e : TypeId} {w0 w : World} {ls : List HP} {ops : Array Oper} {rest : List Oper} {o : Oper} {a : Act} {W : List Oper → Act → World → Prop} {N : Fs} {l : List (Nat × Value)} {d : Nat} {x y : Operand}
end
end Go.Tri

/- Data: operations on lists of owned slices of bytes. -/
set_option linter.unusedSimpArgs false
set_option linter.unusedVariables false
namespace Go.Tri
open Go.RowKit
section
variable {P : Program} {t e e1 : TypeId} {w0 w : World} {ls : List HP} {ops : Array Oper} {rest : List Oper} {o : Oper} {a : Act} {W : List Oper → Act → World → Prop} {N : Fs} {l : List (Nat × Value)} {d : Nat} {x y : Operand}
end
end Go.Tri

/- Text of bytes. -/
set_option linter.unusedSimpArgs false
set_option linter.unusedVariables false
namespace Go.Tri
open Go.RowKit
theorem run_convB {P : Program} {w : World} {t t' e : TypeId} {p : Option Addr} {cap : Nat} {l : List UInt8} (hs : P.underlying t = some (.slice e)) (he : P.underlying e = some (.int .u8)) (hd : P.underlying t' = some .string)
    (h : Sl w (.slice p l.length cap) l.length (bcells l)) : (convert t t' (.slice p l.length cap)).run P w = .ok (.string (txb l)) w := by
  generalize hv : (Value.slice p l.length cap) = v at h ⊢
  rcases h with ⟨h, hn, _⟩ | ⟨ad, c, h, hn, _⟩ | ⟨b, off, c, h, _, hr⟩
  · subst h
    obtain rfl : l = [] := by cases l <;> simp_all
    injection hv with h1 h2 h3
    rw [run_convert_bytes_string w t t' e _ _ _ hs he hd]; rfl
  · subst h
    obtain rfl : l = [] := by cases l <;> simp_all
    injection hv with h1 h2 h3
    rw [run_convert_bytes_string w t t' e _ _ _ hs he hd]
    rw [run_bytesToString w _ 0 c [] (run_loadCells_list (P := P) w _ [] (fun j v hj => by simp at hj))]; rfl
  · subst h
    exact run_convert_bytes_back w t t' e ⟨b, off, none⟩ c l hs he hd fun j hj => by
      rw [add_none]; exact hr j _ (by simp [bcells, hj])
theorem y_b2s {P : Program} {o : Oper} {a : Act} {w w0 : World} {N : Fs} {sl : List (Nat × Value)} {x : Operand} {t t' e : TypeId} {p : Option Addr} {cap : Nat} {xs : List UInt8} {ls : List HP} (F : Fr N a sl) (hs : P.underlying t = some (.slice e)) (hd : P.underlying t' = some .string) (he : P.underlying e = some (.int .u8)) (ho : o.op = .convert t t' x) (hx : ev sl x = some (.slice p xs.length cap))
    (H : St w0 w ls) (i : Nat) (hi : ls[i]? = some (HP.sl rByte p cap xs)) : (execOp a.eval o).run P w = .ok (.value (.string (txb xs))) w := by
  obtain ⟨B, S, hw, ⟨css, h1, h2⟩, _⟩ := H.get i hi
  have h3 := h2 w hw
  rw [rdl_bytes_flat h1] at h3
  unfold execOp
  simp only [ho, F.eval hx]
  rw [Sem.run_bind, run_convB hs he hd h3]
  rfl
end Go.Tri

/- Texts: their order; their bytes as a slice, and what is put behind these. -/
set_option linter.unusedSimpArgs false
set_option linter.unusedVariables false
namespace Go.Tri
open Go.RowKit
def lssB (l m : List UInt8) : Bool := Op.bytesLess l m
def leqB (l m : List UInt8) : Bool := lssB l m || l == m
def geqB (l m : List UInt8) : Bool := !lssB l m
section
variable {P : Program} {o : Oper} {a : Act} {w : World} {N : Fs} {sl : List (Nat × Value)} {x y : Operand} {t t' : TypeId} {l m : List UInt8}
theorem y_leqT (F : Fr N a sl) (ho : o.op = .binOp .leq t x y t') (hx : ev sl x = some (.string (txb l))) (hy : ev sl y = some (.string (txb m))) : (execOp a.eval o).run P w = .ok (.value (.bool (leqB l m))) w := by
  unfold execOp
  simp [ho, F.eval hx, F.eval hy, eqGuard, binOp, Op.stringOp, txb_toList, lssB, leqB]
theorem y_geqT (F : Fr N a sl) (ho : o.op = .binOp .geq t x y t') (hx : ev sl x = some (.string (txb l))) (hy : ev sl y = some (.string (txb m))) : (execOp a.eval o).run P w = .ok (.value (.bool (geqB l m))) w := by
  unfold execOp
  simp [ho, F.eval hx, F.eval hy, eqGuard, binOp, Op.stringOp, txb_toList, lssB, geqB]
end
end Go.Tri

/- Runs of quiet operations at once; short forms of control. -/
set_option linter.unusedSimpArgs false
set_option linter.unusedVariables false
namespace Go.Tri
open Go.RowKit
def atL {α : Type} : Nat → List α → Option α
  | _, [] => none
  | 0, a :: _ => some a
  | n + 1, _ :: l => atL n l
theorem atL_eq {α : Type} : ∀ (n : Nat) (l : List α), atL n l = l[n]?
  | _, [] => by cases ‹Nat› <;> rfl
  | 0, a :: _ => rfl
  | n + 1, _ :: l => by simpa [atL] using atL_eq n l
/-- The first n places of a list, each told by itself. -/
def nfL {α : Type} : Nat → List α → Option (List α)
  | 0, l => some l
  | n + 1, l => match l with
    | [] => none
    | a :: r => match nfL n r with
      | some r' => some (a :: r')
      | none => none
theorem nfL_eq {α : Type} : ∀ {n : Nat} {l l' : List α}, nfL n l = some l' → l' = l
  | 0, l, l', h => by cases h; rfl
  | n + 1, [], l', h => by cases h
  | n + 1, a :: r, l', h => by
    simp only [nfL] at h
    split at h
    · rename_i r' e; cases h; rw [nfL_eq e]
    · cases h
theorem St.nf {w0 w : World} {l l' : List HP} (H : St w0 w l) (n : Nat) (h : nfL n l = some l') : St w0 w l' := nfL_eq h ▸ H
def IsSlT (P : Program) (t : TypeId) : Prop := ∃ e, P.underlying t = some (.slice e)
def AggN (P : Program) (t n : Nat) : Prop := ∃ z, AggT P t n z
theorem aggn {P : Program} {t n m : Nat} {z : List Value} (h : AggT P t n z) (e : m = n) : AggN P t m := ⟨z, e ▸ h⟩
def qconv (P : Program) (t' : TypeId) (n : Int) (p : Prop) : Nat → Option (Value × List Prop)
  | 0 => some (.int .i64 (IntKind.i64.wrap n), [p, P.underlying t' = some (.int .i64)])
  | 1 => some (.int .u8 (IntKind.u8.wrap n), [p, P.underlying t' = some (.int .u8)])
  | 2 => some (.int .u64 (IntKind.u64.wrap n), [p, P.underlying t' = some (.int .u64)])
  | 3 => some (.int .u32 (IntKind.u32.wrap n), [p, P.underlying t' = some (.int .u32)])
  | 4 => some (.int .i32 (IntKind.i32.wrap n), [p, P.underlying t' = some (.int .i32)])
  | 5 => some (.int .u16 (IntKind.u16.wrap n), [p, P.underlying t' = some (.int .u16)])
  | 6 => some (.int .i16 (IntKind.i16.wrap n), [p, P.underlying t' = some (.int .i16)])
  | _ => some (.int .i8 (IntKind.i8.wrap n), [p, P.underlying t' = some (.int .i8)])
theorem qconv_ok {P : Program} {t' : TypeId} {n : Int} {p : Prop} {h : Nat} {v : Value} {ob : List Prop} (e : qconv P t' n p h = some (v, ob)) : ∃ k', v = .int k' (k'.wrap n) ∧ ob = [p, P.underlying t' = some (.int k')] := by
  unfold qconv at e
  split at e <;> cases e <;> exact ⟨_, rfl, rfl⟩
def qbin (k : IntKind) (m n : Int) : BinOp → Option Value
  | .lss => some (.bool (decide (m < n)))
  | .leq => some (.bool (decide (m ≤ n)))
  | .gtr => some (.bool (decide (n < m)))
  | .geq => some (.bool (decide (n ≤ m)))
  | .eql => some (.bool (decide (m = n)))
  | .neq => some (.bool (!decide (m = n)))
  | .add => some (.int k (k.wrap (m + n)))
  | .sub => some (.int k (k.wrap (m - n)))
  | .mul => some (.int k (k.wrap (m * n)))
  | .and => some (.int k (andI k m n))
  | .or => some (.int k (orI k m n))
  | .xor => some (.int k (xorI k m n))
  | _ => none
def qlen (ts : List TypeId) (n : Nat) : Option (Value × (Program → List Prop)) := match ts with
  | [t] => some (.int .i64 n, fun P => [IsSlT P t])
  | _ => none
/-- What a quiet operation yields, and what must be shown of it. h: a hint (an offset, a piece and a place, a kind). -/
def qval (P : Program) (ls : List HP) (sl : List (Nat × Value)) (h : Nat) : Op → Option (Value × List Prop)
  | .move x => match ev sl x with
    | some v => some (v, [])
    | none => none
  | .assign x => match ev sl x with
    | some v => some (v, [])
    | none => none
  | .pick x y z => match ev sl x with
    | some (.bool b) => match b with
      | true => match ev sl y with
        | some v => some (v, [])
        | none => none
      | false => match ev sl z with
        | some v => some (v, [])
        | none => none
    | _ => none
  | .nilCheck x => match ev sl x with
    | some (.pointer p) => match p with
      | some ad => some (.pointer (some ad), [])
      | none => none
    | _ => none
  | .unOp u _ x => match ev sl x with
    | some (.bool b) => match u with
      | .not => some (.bool (!b), [])
      | _ => none
    | some (.int k m) => match u with
      | .xor => some (.int k (notI k m), [])
      | .neg => some (.int k (k.wrap (0 - m)), [])
      | _ => none
    | _ => none
  | .binOp op _ x y _ => match ev sl x with
    | some (.int k m) => match ev sl y with
      | some (.int k' n) => match decide (k' = k) with
        | true => match qbin k m n op with
          | some v => some (v, [])
          | none => none
        | false => none
      | _ => none
    | _ => none
  | .extract x i => match ev sl x with
    | some (.tuple vs) => match atL i vs.toList with
      | some v => some (v, [])
      | none => none
    | _ => none
  | .fieldAddr t x f => match ev sl x with
    | some (.pointer (some ⟨b, k, sp⟩)) => match sp with
      | none => some (.pointer (some ⟨b, k + h, none⟩), [FieldT P t f h])
      | some _ => none
    | _ => none
  | .load t x => match ev sl x with
    | some (.pointer (some ad)) => match atL (h / 1000) ls with
      | some A => match A.tag with
        | some (b, o, cs) => match Nat.beq (h % 1000) 999 with
          | true => some (.agg cs.toArray, [ad = ⟨b, o, none⟩, AggN P t cs.length])
          | false => match atL (h % 1000) cs with
            | some v => some (v, [ad = ⟨b, o + h % 1000, none⟩, Plain P t])
            | none => none
        | none => none
      | none => none
    | _ => none
  | .convert t t' x => match ev sl x with
    | some (.int k n) => qconv P t' n (P.underlying t = some (.int k)) h
    | _ => none
  | .call c => match c.callee with
    | .builtin b => match b with
      | .len => match c.args.toList with
        | [x] => match ev sl x with
          | some (.slice _ n _) => match qlen c.argTypes.toList n with
            | some (v, o) => some (v, o P)
            | none => none
          | _ => none
        | _ => none
      | _ => none
    | _ => none
  | _ => none
def AllP : List Prop → Prop
  | [] => True
  | p :: r => p ∧ AllP r
theorem AllP.app : ∀ {l r : List Prop}, AllP (l ++ r) → AllP l ∧ AllP r
  | [], _, h => ⟨trivial, h⟩
  | _ :: _, _, h => ⟨⟨h.1, (AllP.app h.2).1⟩, (AllP.app h.2).2⟩
section
variable {P : Program} {o : Oper} {a : Act} {N : Fs} {sl : List (Nat × Value)} {w0 w : World} {ls : List HP} {v : Value} {h : Nat} {ob : List Prop}
theorem St.tagRow (H : St w0 w ls) {i : Nat} {A : HP} (hi : ls[i]? = some A) {b off : Nat} {cs : List Value} (ht : A.tag = some (b, off, cs)) : Row w b off cs := by
  obtain ⟨_, B, f, hs, h1, _⟩ := H
  exact A.tok ht hs (h1 i A hi)
theorem qbin_ok (F : Fr N a sl) {k : IntKind} {m n : Int} {op : BinOp} {t t' : TypeId} {x y : Operand} (ho : o.op = .binOp op t x y t') (hx : ev sl x = some (.int k m)) (hy : ev sl y = some (.int k n)) (hq : qbin k m n op = some v) : (execOp a.eval o).run P w = .ok (.value v) w := by
  cases op <;> simp only [qbin, Option.some.injEq, reduceCtorEq] at hq <;> subst hq
  case add => exact i_add F ho hx hy
  case sub => exact i_sub F ho hx hy
  case mul => exact i_mul F ho hx hy
  case and => exact i_and F ho hx hy
  case or => exact i_or F ho hx hy
  case xor => exact i_xor F ho hx hy
  case lss => exact y_lss F ho hx hy
  case leq => exact y_leq F ho hx hy
  case gtr => exact y_gtr F ho hx hy
  case geq => exact y_geq F ho hx hy
  case eql => exact y_eql F ho hx hy
  case neq => exact y_neq F ho hx hy
theorem qval_ok (F : Fr N a sl) (H : St w0 w ls) (hq : qval P ls sl h o.op = some (v, ob)) (hob : AllP ob) : (execOp a.eval o).run P w = .ok (.value v) w := by
  generalize ho : o.op = op at hq
  cases op <;> simp only [qval, reduceCtorEq] at hq
  case move x => split at hq <;> cases hq; rename_i e; exact y_move F ho e
  case assign x => split at hq <;> cases hq; rename_i e; exact y_assign F ho e
  case pick x y z =>
    split at hq
    · rename_i b e
      cases b <;> (simp only at hq; split at hq <;> cases hq; rename_i e2)
      · exact y_pickF F ho e e2
      · exact y_pickT F ho e e2
    · cases hq
  case nilCheck x =>
    split at hq
    · rename_i p e
      cases p <;> cases hq
      exact y_nilCheck F ho e
    · cases hq
  case unOp u t x =>
    split at hq
    · rename_i b e
      cases u <;> cases hq
      exact y_not F ho e
    · rename_i k m e
      cases u <;> cases hq
      · exact i_neg F ho e
      · exact i_not F ho e
    · cases hq
  case binOp op t x y t' =>
    split at hq
    · rename_i k m e
      split at hq
      · rename_i k' n e2
        by_cases hk : k' = k
        · subst hk
          simp only [decide_true] at hq
          split at hq <;> cases hq
          rename_i e3
          exact qbin_ok F ho e e2 e3
        · simp [hk] at hq
      · cases hq
    · cases hq
  case extract x i =>
    split at hq
    · rename_i vs e
      split at hq <;> cases hq
      rename_i e2
      rw [atL_eq] at e2
      obtain ⟨vs⟩ := vs
      exact y_extract F ho e e2
    · cases hq
  case fieldAddr t x f =>
    split at hq
    · rename_i b k sp e
      cases sp <;> cases hq
      exact y_fieldAddr F hob.1 ho e
    · cases hq
  case load t x =>
    split at hq
    · rename_i ad e
      split at hq
      · rename_i A e2
        rw [atL_eq] at e2
        split at hq
        · rename_i b off cs e3
          have hr := H.tagRow e2 e3
          cases hb : Nat.beq (h % 1000) 999 <;> rw [hb] at hq <;> simp only at hq
          · split at hq <;> cases hq
            rename_i e4
            rw [atL_eq] at e4
            obtain ⟨h1, h2, _⟩ := hob
            subst h1
            exact y_load1 F h2 ho e (hr _ _ e4)
          · cases hq
            obtain ⟨h1, ⟨z, h2⟩, _⟩ := hob
            subst h1
            exact y_loadA F h2 ho e hr rfl
        · cases hq
      · cases hq
    · cases hq
  case convert t t' x =>
    split at hq
    · rename_i e
      obtain ⟨k', rfl, rfl⟩ := qconv_ok hq
      obtain ⟨h1, h2, _⟩ := hob
      exact i_conv F h1 h2 ho e
    · cases hq
  case call c =>
    split at hq
    · rename_i b e1
      cases b <;> simp only [reduceCtorEq] at hq
      split at hq
      · rename_i x e2
        split at hq
        · rename_i p n cap e3
          split at hq
          · rename_i v' o' e4
            cases hq
            unfold qlen at e4
            split at e4
            · rename_i t e5
              cases e4
              obtain ⟨⟨e, h1⟩, _⟩ := hob
              obtain ⟨cc, ca, ct⟩ := c
              obtain ⟨ca⟩ := ca
              obtain ⟨ct⟩ := ct
              simp only at e1 e2 e5
              subst e1 e2 e5
              exact y_lenS F ho h1 e3
            · cases e4
          · cases hq
        · cases hq
      · cases hq
    · cases hq
/-- Is an operation wanted, as far as is known? -/
def qwant (ops : List Oper) (sl : List (Nat × Value)) : Option (Nat × Bool) → Option Bool
  | none => some true
  | some (g, bb) => match atL g ops with
    | some og => match og.dst with
      | some s => match lk s sl with
        | some (.bool c) => match bb with
          | true => some c
          | false => some (!c)
        | some (.tuple vs) => match vs.toList with
          | [] => some false
          | _ :: _ => none
        | _ => none
      | none => none
    | none => none
theorem qwant_ok {ops : List Oper} (F : Fr N a sl) {b : Bool} (h : qwant ops sl o.guard = some b) : Region.wanted o (yielded ops.toArray a.tmps) = b := by
  cases hg : o.guard with
  | none => rw [hg] at h; cases h; exact want0 hg
  | some p =>
    obtain ⟨g, bb⟩ := p
    rw [hg] at h
    simp only [qwant] at h
    split at h
    · rename_i og e
      rw [atL_eq] at e
      have hog : ops.toArray[g]? = some og := by simpa using e
      split at h
      · rename_i s e2
        split at h
        · rename_i c e3
          cases bb <;> cases c <;> cases b <;> first | cases h | skip
          · exact want_on F hg hog e2 e3
          · exact want_off F hg hog e2 e3 rfl
          · exact want_off F hg hog e2 e3 rfl
          · exact want_on F hg hog e2 e3
        · rename_i vs e3
          obtain ⟨vs⟩ := vs
          cases vs with
          | nil => cases h; exact want_offU F hg hog e2 e3
          | cons _ _ => cases h
        · cases h
      · cases h
    · cases h
/-- A run of quiet operations. -/
def qrun (P : Program) (n : Nat) (ops : List Oper) (ls : List HP) : List Nat → List (Nat × Value) → List Oper → Option (List (Nat × Value) × List Oper × List Prop)
  | [], sl, l => some (sl, l, [])
  | _ :: _, _, [] => none
  | h :: hs, sl, o :: l => match o.dst with
    | none => none
    | some d => match Nat.blt d n with
      | false => none
      | true => match qwant ops sl o.guard with
        | none => none
        | some true => match qval P ls sl h o.op with
          | none => none
          | some (v, ob) => match qrun P n ops ls hs ((d, v) :: sl) l with
            | some (sl', l', ob') => some (sl', l', ob ++ ob')
            | none => none
        | some false => match qrun P n ops ls hs ((d, undef) :: sl) l with
          | some (sl', l', ob') => some (sl', l', ob')
          | none => none
theorem qval_nd {op : Op} (h' : qval P ls sl h op = some (v, ob)) : notDefer op = true := by
  cases op <;> first | rfl | (simp only [qval, reduceCtorEq] at h')
theorem bulk {ops : List Oper} {W : List Oper → Act → World → Prop} (k : Walk P ops.toArray W) (H : St w0 w ls) : ∀ {hs : List Nat} {sl sl' : List (Nat × Value)} {l l' : List Oper} {ob : List Prop} {a : Act}, Fr N a sl → qrun P N.n ops ls hs sl l = some (sl', l', ob) → AllP ob → (∀ a', Fr N a' sl' → W l' a' w) → W l a w
  | [], sl, sl', l, l', ob, a, F, h, _, kk => by cases h; exact kk a F
  | _ :: _, _, _, [], _, _, _, _, h, _, _ => by cases h
  | h0 :: hs, sl, sl', o :: l, l', ob, a, F, h, hob, kk => by
    simp only [qrun] at h
    split at h
    · cases h
    · rename_i d hd
      split at h
      · cases h
      · rename_i hN
        split at h
        · cases h
        · rename_i hw
          split at h
          · cases h
          · rename_i v ob1 hv
            split at h
            · rename_i s2 l2 ob2 hr
              cases h
              obtain ⟨q1, q2⟩ := hob.app
              exact k.val (qwant_ok F hw) (qval_nd hv) (qval_ok F H hv q1) (by rw [hd]; exact bulk k H (F.put hN v) hr q2 kk)
            · cases h
        · rename_i hw
          split at h
          · rename_i s2 l2 ob2 hr
            cases h
            exact k.off (qwant_ok F hw) (by rw [hd]; exact bulk k H (F.put hN _) hr hob kk)
          · cases h
end
section
variable {P : Program} {a : Act} {N : Fs} {sl sl' : List (Nat × Value)} {w0 w : World} {ls : List HP} {ob : List Prop} {Q : Exit → Act → World → Prop} {ops l l' : List Oper} {ro : Option Nat}
theorem bk (hs : List Nat) (F : Fr N a sl) (H : St w0 w ls) (h : qrun P N.n ops ls hs sl l = some (sl', l', ob)) (hob : AllP ob) (k : ∀ a', Fr N a' sl' → wpList P ops.toArray Q l' a' w) : wpList P ops.toArray Q l a w := bulk wkP H F h hob k
theorem wpQuiet_val {P : Program} {ops : Array Oper} {rest : List Oper} {o : Oper} {a : Act} {Q : Act → Prop} {C : World → Prop} {v : Value} (hw : Region.wanted o (yielded ops a.tmps) = true) (hr : ∀ w, C w → (execOp a.eval o).run P w = .ok (.value v) w) (hk : wpQuiet P ops C Q rest (a.put o.dst v)) : wpQuiet P ops C Q (o :: rest) a := by
  unfold wpQuiet
  rw [if_pos hw]
  refine ⟨v, fun w hw => ?_, hk⟩
  unfold Oper.quietAt
  rw [hr w hw]
  exact ⟨rfl, rfl⟩
theorem wpQuiet_off {P : Program} {ops : Array Oper} {rest : List Oper} {o : Oper} {a : Act} {Q : Act → Prop} {C : World → Prop} (hw : Region.wanted o (yielded ops a.tmps) = false) (hk : wpQuiet P ops C Q rest (a.put o.dst undef)) : wpQuiet P ops C Q (o :: rest) a := by
  unfold wpQuiet
  rw [if_neg (by rw [hw]; simp)]
  exact hk
theorem qbulk {C : World → Prop} {Q : Act → Prop} (hC : ∀ w, C w → ∃ w0, St w0 w ls) : ∀ {hs : List Nat} {sl sl' : List (Nat × Value)} {l l' : List Oper} {ob : List Prop} {a : Act}, Fr N a sl → qrun P N.n ops ls hs sl l = some (sl', l', ob) → AllP ob → (∀ a', Fr N a' sl' → wpQuiet P ops.toArray C Q l' a') → wpQuiet P ops.toArray C Q l a
  | [], sl, sl', l, l', ob, a, F, h, _, kk => by cases h; exact kk a F
  | _ :: _, _, _, [], _, _, _, _, h, _, _ => by cases h
  | h0 :: hs, sl, sl', o :: l, l', ob, a, F, h, hob, kk => by
    simp only [qrun] at h
    split at h
    · cases h
    · rename_i d hd
      split at h
      · cases h
      · rename_i hN
        split at h
        · cases h
        · rename_i hw
          split at h
          · cases h
          · rename_i v ob1 hv
            split at h
            · rename_i s2 l2 ob2 hr
              cases h
              obtain ⟨q1, q2⟩ := hob.app
              exact wpQuiet_val (qwant_ok F hw) (fun w hw => by obtain ⟨w0, H⟩ := hC w hw; exact qval_ok F H hv q1) (by rw [hd]; exact qbulk hC (F.put hN v) hr q2 kk)
            · cases h
        · rename_i hw
          split at h
          · rename_i s2 l2 ob2 hr
            cases h
            exact wpQuiet_off (qwant_ok F hw) (by rw [hd]; exact qbulk hC (F.put hN _) hr hob kk)
          · cases h
theorem qbk {Q : Act → Prop} (hs : List Nat) (F : Fr N a sl) (h : qrun P N.n ops ls hs sl l = some (sl', l', ob)) (hob : AllP ob) (k : ∀ a', Fr N a' sl' → wpQuiet P ops.toArray (fun u => St w0 u ls) Q l' a') : wpQuiet P ops.toArray (fun u => St w0 u ls) Q l a := qbulk (fun _ h => ⟨_, h⟩) F h hob k
/-- A drawn region of quiet operations. -/
theorem qr {id : Nat} {Q : Exit → Act → World → Prop} (H : St w0 w ls) (hm : P.follows .mixedOrders = true) (hB : Region.lexB .any l.toArray = true) (h : wpQuiet P l.toArray (fun u => St w0 u ls) (fun a' => ∀ w', St w0 w' ls → Q .normal a' w') l a) : (Code.region id l.toArray true).wp P Q a w := q_region _ hm hB H.drew h
/-- The same in a mixed region. -/
def mrun (P : Program) (n : Nat) (ops : List Oper) (ls : List HP) : List Nat → List (Nat × Value) → Sc → Option (List (Nat × Value) × Sc × List Prop)
  | [], sl, s => some (sl, s, [])
  | _ :: _, _, .done => none
  | _ :: _, _, .fork _ _ _ _ => none
  | _ :: _, _, .fork3 _ _ _ _ _ _ => none
  | h :: hs, sl, .step k i r => match atL i ops with
    | none => none
    | some o => match o.dst with
      | none => none
      | some d => match Nat.blt d n with
        | false => none
        | true => match qwant ops sl o.guard with
          | none => none
          | some true => match Nat.ble k 1 with
            | false => none
            | true => match qval P (match k with | 0 => [] | _ => ls) sl h o.op with
              | none => none
              | some (v, ob) => match mrun P n ops ls hs ((d, v) :: sl) r with
                | some (sl', l', ob') => some (sl', l', ob ++ ob')
                | none => none
          | some false => match mrun P n ops ls hs ((d, undef) :: sl) r with
            | some (sl', l', ob') => some (sl', l', ob')
            | none => none
theorem mbulk {C : World → Prop} {K : Act → World → Prop} (H : St w0 w ls) : ∀ {hs : List Nat} {sl sl' : List (Nat × Value)} {s s' : Sc} {ob : List Prop} {a : Act}, Fr N a sl → mrun P N.n ops ls hs sl s = some (sl', s', ob) → AllP ob → (∀ a', Fr N a' sl' → wpMix P ops.toArray C K s' a' w) → wpMix P ops.toArray C K s a w
  | [], sl, sl', s, s', ob, a, F, h, _, kk => by cases h; exact kk a F
  | _ :: _, _, _, .done, _, _, _, _, h, _, _ => by cases h
  | _ :: _, _, _, .fork _ _ _ _, _, _, _, _, h, _, _ => by cases h
  | _ :: _, _, _, .fork3 _ _ _ _ _ _, _, _, _, _, h, _, _ => by cases h
  | h0 :: hs, sl, sl', .step k i r, s', ob, a, F, h, hob, kk => by
    simp only [mrun] at h
    split at h
    · cases h
    · rename_i o ho
      rw [atL_eq] at ho
      have ho' : ops.toArray[i]? = some o := by simpa using ho
      split at h
      · cases h
      · rename_i d hd
        split at h
        · cases h
        · rename_i hN
          split at h
          · cases h
          · rename_i hw
            split at h
            · cases h
            · rename_i hk1
              split at h
              · cases h
              · rename_i v ob1 hv
                split at h
                · rename_i s2 l2 ob2 hr
                  cases h
                  obtain ⟨q1, q2⟩ := hob.app
                  have hw' := qwant_ok F hw
                  refine ⟨o, ho', fun _ => ?_, fun e => by rw [hw'] at e; cases e⟩
                  have hk2 : k = 0 ∨ k = 1 := by have := Nat.le_of_ble_eq_true hk1; omega
                  rcases hk2 with rfl | rfl
                  · exact ⟨v, fun u _ => qval_ok F (St.start u) hv q1, by rw [hd]; exact mbulk H (F.put hN v) hr q2 kk⟩
                  · exact ⟨v, qval_ok F H hv q1, by rw [hd]; exact mbulk H (F.put hN v) hr q2 kk⟩
                · cases h
          · rename_i hw
            split at h
            · rename_i s2 l2 ob2 hr
              cases h
              have hw' := qwant_ok F hw
              exact ⟨o, ho', (fun e => by rw [hw'] at e; cases e), fun _ => by rw [hd]; exact mbulk H (F.put hN _) hr hob kk⟩
            · cases h
theorem mbk {C : World → Prop} {K : Act → World → Prop} {s s' : Sc} (hs : List Nat) (F : Fr N a sl) (H : St w0 w ls) (h : mrun P N.n ops ls hs sl s = some (sl', s', ob)) (hob : AllP ob) (k : ∀ a', Fr N a' sl' → wpMix P ops.toArray C K s' a' w) : wpMix P ops.toArray C K s a w := mbulk H F h hob k
def setL {α : Type} : Nat → List α → α → Option (List α)
  | _, [], _ => none
  | 0, _ :: r, v => some (v :: r)
  | n + 1, a :: r, v => match setL n r v with
    | some r' => some (a :: r')
    | none => none
theorem setL_eq {α : Type} : ∀ {n : Nat} {l l' : List α} {v : α}, setL n l v = some l' → l.set n v = l' ∧ n < l.length
  | _, [], _, _, h => by cases ‹Nat› <;> cases h
  | 0, _ :: r, _, _, h => by cases h; exact ⟨rfl, by simp⟩
  | n + 1, a :: r, l', v, h => by
    simp only [setL] at h
    split at h
    · rename_i r' e
      cases h
      obtain ⟨h1, h2⟩ := setL_eq e
      exact ⟨by simp [h1], by simpa using h2⟩
    · cases h
section
variable {rest : List Oper} {o : Oper} {W : List Oper → Act → World → Prop} {l : List (Nat × Value)} {x y : Operand} {t u : TypeId} {ops : Array Oper} {v : Value}
theorem s_st1 (k : Walk P ops W) (F : Fr N a l) (hg : o.guard = none) (hd : o.dst = none) {z1 : Value} (hz : Zero1 P t z1) (ho : o.op = .store t x y) {b off : Nat} (hx : ev l x = some (.pointer (some ⟨b, off, none⟩))) {old old' : List Value} (hy : ev l y = some v) (hv : v.cells = #[v]) (h1 : v.oneCell' = true)
    (H : St w0 w ls) (i : Nat) (hi : ls[i]? = some (HP.blk b old u)) (hs : setL off old v = some old') (hk : ∀ w', St w0 w' (ls.set i (HP.blk b old' u)) → W rest a w') : W (o :: rest) a w :=
  s_store1 k F hg hd hz ho hx hy hv h1 H i hi (setL_eq hs).2 fun w' H' => hk w' ((setL_eq hs).1 ▸ H')
theorem s_stI (k : Walk P ops W) (F : Fr N a l) (hg : o.guard = none) (hd : o.dst = none) {z1 : Value} (hz : Zero1 P t z1) (ho : o.op = .store t x y) {b : Nat} {kd : IntKind} {i n q : Int} {xs : List Int} (hx : ev l x = some (.pointer (some ⟨b, 0 + i.toNat * 1, none⟩))) (hy : ev l y = some (.int kd n))
    (H : St w0 w ls) (j : Nat) (hj : ls[j]? = some (HP.blk b (icells kd xs) u)) (hq : idxO xs i = some q) (hk : ∀ w', St w0 w' (ls.set j (HP.blk b (icells kd (xs.set i.toNat n)) u)) → W rest a w') : W (o :: rest) a w :=
  s_store1 k F hg hd hz ho hx hy rfl rfl H j hj (by have := (List.getElem?_eq_some_iff.1 (idxO_some hq).2).1; simp [icells_length]; omega) fun w' H' => hk w' (by rw [icells_setI] at H'; exact H')
theorem s_stB (k : Walk P ops W) (F : Fr N a l) (hg : o.guard = none) (hd : o.dst = none) {z1 : Value} (hz : Zero1 P t z1) (ho : o.op = .store t x y) {b : Nat} {i n : Int} {q c : UInt8} {xs : List UInt8} (hx : ev l x = some (.pointer (some ⟨b, 0 + i.toNat * 1, none⟩))) (hy : ev l y = some (.int .u8 n)) (hc : u8O n = some c)
    (H : St w0 w ls) (j : Nat) (hj : ls[j]? = some (HP.blk b (bcells xs) u)) (hq : idxO xs i = some q) (hk : ∀ w', St w0 w' (ls.set j (HP.blk b (bcells (xs.set i.toNat c)) u)) → W rest a w') : W (o :: rest) a w :=
  s_store1 k F hg hd hz ho hx hy rfl rfl H j hj (by have := (List.getElem?_eq_some_iff.1 (idxO_some hq).2).1; simp [bcells_length]; omega) fun w' H' => hk w' (by rw [bcells_setI hc] at H'; exact H')
end
theorem St.slSubN {α : Type} {R : Rp α} {p : Option Addr} {cap : Nat} {xs : List α} {l : List HP} (H : St w0 w l) (m : Nat) (hm : R.n = m) (n : Nat) (hn : l[n]? = some (HP.sl R p cap xs)) {i j : Int} {zs : List α} (hz : slcO xs i j = some zs) : St w0 w (HP.sl R (shp p cap i.toNat m) (cap - i.toNat) zs :: l) := hm ▸ H.slSub n hn hz
/-! Short forms. -/
theorem sr {y : Code} {id : Nat} (h : wpList P l.toArray (Exit.then (fun a w => y.wp P Q a w) Q) l a w) : (Code.seq (.region id l.toArray false) y).wp P Q a w := wp_seq (r_lit h)
theorem nl {K : Act → World → Prop} {ops : Array Oper} (h : K a w) : wpList P ops (Exit.then K Q) [] a w := wpList_nil (c_then h)
end
end Go.Tri

/- Slices of three places, and slices in pieces. -/
set_option linter.unusedSimpArgs false
set_option linter.unusedVariables false
namespace Go.Tri
open Go.RowKit
section
variable {α : Type} {R : Rp α} {P : Program} {o : Oper} {a : Act} {w0 w : World} {N : Fs} {sl : List (Nat × Value)} {x y : Operand} {t e : TypeId} {l : List HP} {p : Option Addr} {cap : Nat} {xs : List α} {size bytes : Nat} {z0 : Value} {k k' k'' : IntKind}
end
/-! ### Slices in pieces -/
/-! ### Keys that are structs of numbers -/
structure KeyS (P : Program) (K : TypeId) {κ : Type} (cells : κ → List Value) (lits : κ → List Lit) (ok : κ → Prop) : Prop where
  key : P.keyTypeAt 3 K = true
  wide : ∃ fs, P.underlying K = some (.struct fs)
  form : ∀ k, ok k → (Value.agg (cells k).toArray).formed P K = true
  lit : ∀ k, ok k → P.keyLits 3 K (cells k) = some (lits k)
  inj : ∀ k k', lits k = lits k' → k = k'
  int : ∀ k, ∀ c ∈ cells k, ∃ q n, c = Value.int q n
def i64Ok (n : Int) : Prop := -9223372036854775808 ≤ n ∧ n ≤ 9223372036854775807
instance (n : Int) : Decidable (i64Ok n) := by unfold i64Ok; exact inferInstance
theorem St.slBy {w0 w : World} {ls : List HP} {p : Option Addr} {c : Nat} {xs : List UInt8} (H : St w0 w ls) (i : Nat) (hi : ls[i]? = some (HP.sl rByte p c xs)) : Sl w (.slice p xs.length c) xs.length (bcells xs) := by
  obtain ⟨B, S, hs, ⟨css, h1, h2⟩, _⟩ := H.get i hi
  have := h2 w hs
  rwa [rdl_bytes_flat h1] at this
section
variable {w0 w : World} {ls : List HP}
theorem St.blkFrz (H : St w0 w ls) (i : Nat) {b : Nat} {cs : List Value} {t : TypeId} (hi : ls[i]? = some (HP.blk b cs t)) : St w0 w (HP.row b 0 cs :: ls.eraseIdx i) :=
  (H.mv i hi).freezeH fun {B B'} S h hle hw w' hw' => by
    have h' := HP.loc _ h (w' := w') (fun b hb => hw w' hw' b hb)
    exact h'.1.row
theorem St.rowSl (H : St w0 w ls) (i : Nat) {b off : Nat} {cs : List Value} (hi : ls[i]? = some (HP.row b off cs)) {pre post : List Value} {xs : List UInt8} {k n : Nat} (hcs : cs = pre ++ (bcells xs ++ post)) (hk : pre.length = k) (hn : xs.length = n) (h0 : 0 < n) : St w0 w (HP.sl rByte (shp (some ⟨b, off + k, none⟩) n 0 1) (n - 0) xs :: ls) :=
  H.more fun B _ g => by
    obtain ⟨S, h⟩ := g i _ hi
    refine ⟨_, rdl_bytes B xs, fun w hw => ?_⟩
    rw [flat_bytes]
    refine .inr (.inr ⟨b, off + k, n - 0, ?_, by omega, ?_⟩)
    · unfold shp; rw [if_neg (by omega)]; simp [add_none]
    · have h1 : Row w b off cs := h w hw
      have := h1.sub k n
      rw [hcs, ← hk, List.drop_left, List.take_left' (by rw [bcells_length]; exact hn)] at this
      rw [← hk]; exact this
end
section
variable {P : Program} {o : Oper} {a : Act} {w : World} {N : Fs} {l : List (Nat × Value)} {x y z : Operand} {t : TypeId}
end
end Go.Tri

/- Pieces that are made of pieces. -/
set_option linter.unusedSimpArgs false
set_option linter.unusedVariables false
namespace Go.Tri
open Go.RowKit
theorem OwnR.mono : ∀ {l : List HP} {B : Base} {w : World} {S S' : Nat → Prop}, OwnR l B w S → (∀ b, S b → S' b) → OwnR l B w S'
  | [], _, _, _, _, _, _ => trivial
  | _ :: _, _, _, _, _, ⟨S1, S2, h1, h2, h3, h4, h5⟩, hs => ⟨S1, S2, h1, h2, h3, fun b hb => hs b (h4 b hb), fun b hb => hs b (h5 b hb)⟩
theorem OwnR.loc : ∀ {l : List HP} {B : Base} {w w' : World} {S : Nat → Prop}, OwnR l B w S → (∀ b, S b → w'.heap[b]? = w.heap[b]?) → OwnR l B w' S
  | [], _, _, _, _, _, _ => trivial
  | A :: _, _, _, _, _, ⟨S1, S2, h1, h2, h3, h4, h5⟩, hs => ⟨S1, S2, A.loc h1 fun b hb => hs b (h4 b hb), OwnR.loc h2 fun b hb => hs b (h5 b hb), h3, h4, h5⟩
theorem OwnR.base : ∀ {l : List HP} {B B' : Base} {w : World} {S : Nat → Prop}, OwnR l B w S → B.le B' → OwnR l B' w S
  | [], _, _, _, _, _, _ => trivial
  | A :: _, _, _, _, _, ⟨S1, S2, h1, h2, h3, h4, h5⟩, hs => ⟨S1, S2, A.mono h1 hs, OwnR.base h2 hs, h3, h4, h5⟩
theorem OwnR.app : ∀ {m l : List HP} {B : Base} {w : World} {S S1 S2 : Nat → Prop}, OwnR m B w S1 → OwnR l B w S2 → (∀ b, S1 b → S2 b → False) → (∀ b, S1 b → S b) → (∀ b, S2 b → S b) → OwnR (m ++ l) B w S
  | [], _, _, _, _, _, _, _, h2, _, _, h5 => h2.mono h5
  | _ :: _, _, _, _, _, _, S2, ⟨T1, T2, k1, k2, k3, k4, k5⟩, h2, h3, h4, h5 => ⟨T1, fun b => T2 b ∨ S2 b, k1, OwnR.app k2 h2 (fun b x y => h3 b (k5 b x) y) (fun _ x => .inl x) (fun _ x => .inr x), fun b x y => y.elim (k3 b x) (h3 b (k4 b x)), fun b x => h4 b (k4 b x), fun b x => x.elim (fun y => h4 b (k5 b y)) (h5 b)⟩
theorem OwnR.unapp : ∀ {m l : List HP} {B : Base} {w : World} {S : Nat → Prop}, OwnR (m ++ l) B w S → ∃ S1 S2 : Nat → Prop, OwnR m B w S1 ∧ OwnR l B w S2 ∧ (∀ b, S1 b → S2 b → False) ∧ (∀ b, S1 b → S b) ∧ (∀ b, S2 b → S b)
  | [], _, _, _, S, h => ⟨fun _ => False, S, trivial, h, fun _ x => x.elim, fun _ x => x.elim, fun _ x => x⟩
  | _ :: m, _, _, _, _, ⟨T1, T2, k1, k2, k3, k4, k5⟩ => by
    obtain ⟨S1, S2, j1, j2, j3, j4, j5⟩ := OwnR.unapp (m := m) k2
    exact ⟨fun b => T1 b ∨ S1 b, S2, ⟨T1, S1, k1, j1, fun b x y => k3 b x (j4 b y), fun _ x => .inl x, fun _ x => .inr x⟩, j2, fun b x y => x.elim (fun z => k3 b z (j5 b y)) (fun z => j3 b z y), fun b x => x.elim (k4 b) fun z => k5 b (j4 b z), fun b x => k5 b (j5 b x)⟩
/-- Pieces, told by something that isn't told. -/
def HP.ex {ι : Type} (f : ι → List HP) : HP :=
  HP.of (fun B w S => ∃ i, OwnR (f i) B w S) (fun ⟨i, h⟩ hs => ⟨i, h.loc hs⟩) (fun ⟨i, h⟩ hl => ⟨i, h.base hl⟩)
section
variable {w0 w : World} {l : List HP}
theorem St.ownR (H : St w0 w l) : (w.os = w0.os ∧ w.tape = w0.tape ∧ w.output = w0.output ∧ w0.heap.size ≤ w.heap.size) ∧ ∃ B, Sub B w ∧ OwnR l B w (fun b => b < w.heap.size ∧ B b = none ∧ w0.heap.size ≤ b) := by
  obtain ⟨hv, B, f, hs, h1, h2, h3⟩ := H
  exact ⟨hv, B, hs, OwnR.of ⟨f, h1, h2, h3⟩⟩
theorem St.ofOwnR {B : Base} (hv : w.os = w0.os ∧ w.tape = w0.tape ∧ w.output = w0.output ∧ w0.heap.size ≤ w.heap.size) (hs : Sub B w) (h : OwnR l B w (fun b => b < w.heap.size ∧ B b = none ∧ w0.heap.size ≤ b)) : St w0 w l := by
  obtain ⟨f, h1, h2, h3⟩ := OwnR.to h
  exact ⟨hv, B, f, hs, h1, h2, h3⟩
theorem St.exOpen {ι : Type} {f : ι → List HP} (H : St w0 w (HP.ex f :: l)) : ∃ i, St w0 w (f i ++ l) := by
  obtain ⟨hv, B, hs, S1, S2, ⟨i, h1⟩, h2, h3, h4, h5⟩ := H.ownR
  exact ⟨i, St.ofOwnR hv hs (h1.app h2 h3 h4 h5)⟩
theorem St.exShut {ι : Type} {f : ι → List HP} (i : ι) (H : St w0 w (f i ++ l)) : St w0 w (HP.ex f :: l) := by
  obtain ⟨hv, B, hs, h⟩ := H.ownR
  obtain ⟨S1, S2, h1, h2, h3, h4, h5⟩ := h.unapp
  exact St.ofOwnR hv hs ⟨S1, S2, ⟨i, h1⟩, h2, h3, h4, h5⟩
def pkL {α : Type} : Nat → List α → Option (α × List α)
  | _, [] => none
  | 0, a :: r => some (a, r)
  | n + 1, a :: r => match pkL n r with
    | some (x, r') => some (x, a :: r')
    | none => none
theorem pkL_eq {α : Type} : ∀ {n : Nat} {l r : List α} {a : α}, pkL n l = some (a, r) → l[n]? = some a ∧ l.eraseIdx n = r
  | _, [], _, _, h => by cases ‹Nat› <;> cases h
  | 0, _ :: _, _, _, h => by cases h; exact ⟨rfl, rfl⟩
  | n + 1, b :: r, r2, a, h => by
    simp only [pkL] at h
    split at h
    · rename_i x r' e
      cases h
      obtain ⟨h1, h2⟩ := pkL_eq e
      exact ⟨by simpa using h1, by simp [h2]⟩
    · cases h
theorem St.pk (H : St w0 w l) (n : Nat) {A : HP} {r : List HP} (h : pkL n l = some (A, r)) : St w0 w (A :: r) := by
  obtain ⟨h1, h2⟩ := pkL_eq h
  rw [← h2]; exact H.mv n h1
def spL {α : Type} : Nat → List α → Option (List α × List α)
  | 0, l => some ([], l)
  | _ + 1, [] => none
  | n + 1, a :: r => match spL n r with
    | some (f, t) => some (a :: f, t)
    | none => none
theorem spL_eq {α : Type} : ∀ {n : Nat} {l f t : List α}, spL n l = some (f, t) → l = f ++ t ∧ f.length = n
  | 0, l, f, t, h => by cases h; exact ⟨rfl, rfl⟩
  | n + 1, [], _, _, h => by cases h
  | n + 1, a :: r, f, t, h => by
    simp only [spL] at h
    split at h
    · rename_i f' t' e
      cases h
      obtain ⟨h1, h2⟩ := spL_eq e
      exact ⟨by rw [h1]; rfl, by simp [h2]⟩
    · cases h
def memN : Nat → List Nat → Bool
  | _, [] => false
  | i, j :: r => match Nat.beq i j with
    | true => true
    | false => memN i r
theorem memN_eq (i : Nat) : ∀ l : List Nat, memN i l = true ↔ i ∈ l
  | [] => by simp [memN]
  | j :: r => by
    simp only [memN]
    cases h : Nat.beq i j
    · have : i ≠ j := Nat.ne_of_beq_eq_false h
      simp [this, memN_eq i r]
    · have := Nat.eq_of_beq_eq_true h
      simp [this]
def pmG (front tail : List HP) : List Nat → Option (List HP)
  | [] => some tail
  | i :: r => match atL i front with
    | some A => match pmG front tail r with
      | some L => match memN i r with
        | false => some (A :: L)
        | true => match A.ps with
          | true => some (A :: L)
          | false => none
      | none => none
    | none => none
/-- The pieces in another order; what stays told may be told twice. -/
def pmL (n : Nat) (is : List Nat) (L : List HP) : Option (List HP) := match spL n L with
  | some (f, t) => pmG f t is
  | none => none
theorem pmG_at {front tail : List HP} : ∀ {is : List Nat} {L : List HP}, pmG front tail is = some L → L.length = is.length + tail.length ∧ (∀ q A, L[q]? = some A → (∃ i, is[q]? = some i ∧ front[i]? = some A ∧ (i ∈ is.drop (q + 1) → A.ps = true)) ∨ (is.length ≤ q ∧ tail[q - is.length]? = some A))
  | [], L, h => by cases h; exact ⟨by simp, fun q A hq => .inr ⟨Nat.zero_le _, by simpa using hq⟩⟩
  | i :: r, L, h => by
    simp only [pmG] at h
    split at h
    · rename_i A hA
      rw [atL_eq] at hA
      split at h
      · rename_i L' hL
        obtain ⟨h1, h2⟩ := pmG_at hL
        have key : L = A :: L' ∧ (i ∈ r → A.ps = true) := by
          split at h
          · rename_i hm; cases h; exact ⟨rfl, fun hi => by rw [(memN_eq i r).2 hi] at hm; cases hm⟩
          · split at h
            · rename_i hp; cases h; exact ⟨rfl, fun _ => hp⟩
            · cases h
        obtain ⟨rfl, hp⟩ := key
        refine ⟨by simp [h1]; omega, fun q C hq => ?_⟩
        cases q with
        | zero => simp at hq; subst hq; exact .inl ⟨i, rfl, hA, by simpa using hp⟩
        | succ q =>
          rcases h2 q C (by simpa using hq) with ⟨j, j1, j2, j3⟩ | ⟨j1, j2⟩
          · exact .inl ⟨j, by simpa using j1, j2, by simpa using j3⟩
          · exact .inr ⟨by simp; omega, by simpa using j2⟩
      · cases h
    · cases h
theorem St.pm (H : St w0 w l) (n : Nat) (is : List Nat) {L : List HP} (h : pmL n is l = some L) : St w0 w L := by
  unfold pmL at h
  split at h
  · rename_i front tail e
    obtain ⟨rfl, hn⟩ := spL_eq e
    obtain ⟨hl, hat⟩ := pmG_at h
    obtain ⟨hv, B, f, hs, h1, h2, h3⟩ := H
    let dup : Nat → Prop := fun q => ∃ i, is[q]? = some i ∧ i ∈ is.drop (q + 1)
    let ix : Nat → Nat := fun q => (is[q]?).getD (n + (q - is.length))
    have hix : ∀ q, q < L.length → ix q < (front ++ tail).length := by
      intro q hq
      obtain ⟨A, hA⟩ : ∃ A, L[q]? = some A := ⟨_, List.getElem?_eq_getElem hq⟩
      rcases hat q A hA with ⟨i, i1, i2, _⟩ | ⟨j1, j2⟩
      · have := (List.getElem?_eq_some_iff.1 i2).1
        simp only [ix, i1, Option.getD_some, List.length_append]; omega
      · have := (List.getElem?_eq_some_iff.1 j2).1
        have e2 : is[q]? = none := List.getElem?_eq_none j1
        simp only [ix, e2, Option.getD_none, List.length_append]; omega
    have hixA : ∀ q A, L[q]? = some A → (front ++ tail)[ix q]? = some A := by
      intro q A hA
      rcases hat q A hA with ⟨i, i1, i2, _⟩ | ⟨j1, j2⟩
      · have := (List.getElem?_eq_some_iff.1 i2).1
        simp only [ix, i1, Option.getD_some]
        rw [List.getElem?_append_left this]; exact i2
      · have e2 : is[q]? = none := List.getElem?_eq_none j1
        simp only [ix, e2, Option.getD_none]
        rw [List.getElem?_append_right (by omega), ← j2]
        congr 1; omega
    have inj : ∀ p q, p < L.length → q < L.length → ¬ dup p → ¬ dup q → ix p = ix q → p = q := by
      intro p q hp hq hdp hdq he
      rcases Nat.lt_trichotomy p q with hlt | hlt | hlt
      · exfalso
        obtain ⟨A, hA⟩ : ∃ A, L[p]? = some A := ⟨_, List.getElem?_eq_getElem hp⟩
        obtain ⟨C, hC⟩ : ∃ A, L[q]? = some A := ⟨_, List.getElem?_eq_getElem hq⟩
        rcases hat p A hA with ⟨i, i1, i2, _⟩ | ⟨j1, j2⟩
        · rcases hat q C hC with ⟨k, k1, k2, _⟩ | ⟨m1, m2⟩
          · simp only [ix, i1, k1, Option.getD_some] at he
            subst he
            refine hdp ⟨i, i1, ?_⟩
            have : (is.drop (p + 1))[q - (p + 1)]? = some i := by rw [List.getElem?_drop, show p + 1 + (q - (p + 1)) = q by omega]; exact k1
            exact List.mem_of_getElem? this
          · have := (List.getElem?_eq_some_iff.1 i2).1
            simp only [ix, i1, List.getElem?_eq_none m1, Option.getD_some, Option.getD_none] at he; omega
        · have e2 : is[q]? = none := List.getElem?_eq_none (by omega)
          simp only [ix, List.getElem?_eq_none j1, e2, Option.getD_none] at he; omega
      · exact hlt
      · exfalso
        obtain ⟨A, hA⟩ : ∃ A, L[q]? = some A := ⟨_, List.getElem?_eq_getElem hq⟩
        obtain ⟨C, hC⟩ : ∃ A, L[p]? = some A := ⟨_, List.getElem?_eq_getElem hp⟩
        rcases hat q A hA with ⟨i, i1, i2, _⟩ | ⟨j1, j2⟩
        · rcases hat p C hC with ⟨k, k1, k2, _⟩ | ⟨m1, m2⟩
          · simp only [ix, i1, k1, Option.getD_some] at he
            subst he
            refine hdq ⟨k, i1, ?_⟩
            have : (is.drop (q + 1))[p - (q + 1)]? = some k := by rw [List.getElem?_drop, show q + 1 + (p - (q + 1)) = p by omega]; exact k1
            exact List.mem_of_getElem? this
          · have := (List.getElem?_eq_some_iff.1 i2).1
            simp only [ix, i1, List.getElem?_eq_none m1, Option.getD_some, Option.getD_none] at he; omega
        · have e2 : is[p]? = none := List.getElem?_eq_none (by omega)
          simp only [ix, List.getElem?_eq_none j1, e2, Option.getD_none] at he; omega
    refine ⟨hv, B, fun q b => ¬ dup q ∧ f (ix q) b, hs, fun q A hA => ?_, fun p q b hp hq hfp hfq => ?_, fun q b hq hf => h3 _ b (hix q hq) hf.2⟩
    · have h4 := h1 _ A (hixA q A hA)
      by_cases hd : dup q
      · obtain ⟨i, i1, i2⟩ := hd
        rcases hat q A hA with ⟨k, k1, _, k3⟩ | ⟨j1, _⟩
        · rw [i1] at k1; cases k1
          exact A.pok (k3 i2) h4
        · rw [List.getElem?_eq_none j1] at i1; cases i1
      · have e : (fun b => ¬ dup q ∧ f (ix q) b) = f (ix q) := by funext b; simp [hd]
        show A.pr B w (fun b => ¬ dup q ∧ f (ix q) b)
        rw [e]; exact h4
    · exact inj p q hp hq hfp.1 hfq.1 (h2 _ _ b (hix p hp) (hix q hq) hfp.2 hfq.2)
  · cases h
/-- Known slots, picked. -/
def selL : List (Nat × Value) → List (Nat × Value) → Option (List (Nat × Value))
  | [], _ => some []
  | (k, _) :: r, l => match lk k l with
    | some v => match selL r l with
      | some r' => some ((k, v) :: r')
      | none => none
    | none => none
theorem selL_ok {l : List (Nat × Value)} : ∀ {ks l' : List (Nat × Value)}, selL ks l = some l' → AllLk l l'
  | [], _, h => by cases h; trivial
  | (k, _) :: r, l', h => by
    simp only [selL] at h
    split at h
    · rename_i v e
      split at h
      · rename_i r' e2; cases h; exact ⟨e, selL_ok e2⟩
      · cases h
    · cases h
theorem Fr.sl {N : Fs} {a : Act} {l l' : List (Nat × Value)} (F : Fr N a l) (h : selL l' l = some l') : Fr N a l' := F.cut _ (selL_ok h)
theorem Fr.bT {N : Fs} {a : Act} {l : List (Nat × Value)} (F : Fr N a l) (k : Nat) {p : Prop} [Decidable p] (h : p) (hk : lk k l = some (.bool (decide p))) : Fr N a ((k, .bool true) :: l) := F.bool hk (by rw [decide_eq_true h])
theorem Fr.bF {N : Fs} {a : Act} {l : List (Nat × Value)} (F : Fr N a l) (k : Nat) {p : Prop} [Decidable p] (h : ¬ p) (hk : lk k l = some (.bool (decide p))) : Fr N a ((k, .bool false) :: l) := F.bool hk (by rw [decide_eq_false h])
theorem Fr.nT {N : Fs} {a : Act} {l : List (Nat × Value)} (F : Fr N a l) (k : Nat) {p : Prop} [Decidable p] (h : p) (hk : lk k l = some (.bool (!decide p))) : Fr N a ((k, .bool false) :: l) := F.bool hk (by rw [decide_eq_true h]; rfl)
theorem Fr.nF {N : Fs} {a : Act} {l : List (Nat × Value)} (F : Fr N a l) (k : Nat) {p : Prop} [Decidable p] (h : ¬ p) (hk : lk k l = some (.bool (!decide p))) : Fr N a ((k, .bool true) :: l) := F.bool hk (by rw [decide_eq_false h]; rfl)
theorem Fr.vT {N : Fs} {a : Act} {l : List (Nat × Value)} (F : Fr N a l) (k : Nat) {b : Bool} (h : b = true) (hk : lk k l = some (.bool b)) : Fr N a ((k, .bool true) :: l) := F.bool hk (by rw [h])
theorem Fr.vF {N : Fs} {a : Act} {l : List (Nat × Value)} (F : Fr N a l) (k : Nat) {b : Bool} (h : ¬ b = true) (hk : lk k l = some (.bool b)) : Fr N a ((k, .bool false) :: l) := F.bool hk (by rw [eq_false_of_ne_true h])
/-- The shape of a call of a known function. -/
def opC (n : Nat) (sl : List (Nat × Value)) (o : Oper) : Option (Nat × FuncId × List Value) := match o.guard with
  | some _ => none
  | none => match o.dst with
    | none => none
    | some d => match Nat.blt d n with
      | false => none
      | true => match o.op with
        | .call c => match c.callee with
          | .value (.func f) => match evs sl c.args.toList with
            | some vs => some (d, f, vs)
            | none => none
          | _ => none
        | _ => none
theorem opC_ok {n d : Nat} {f : FuncId} {vs : List Value} {sl : List (Nat × Value)} {o : Oper} (h : opC n sl o = some (d, f, vs)) : o.guard = none ∧ o.dst = some d ∧ Nat.blt d n = true ∧ ∃ xs ts, o.op = .call { callee := .value (.func f), args := List.toArray xs, argTypes := ts } ∧ evs sl xs = some vs := by
  unfold opC at h
  split at h
  · cases h
  · rename_i hg
    split at h
    · cases h
    · rename_i d' hd
      split at h
      · cases h
      · rename_i hN
        split at h
        · rename_i c ho
          split at h
          · rename_i f' hc
            split at h
            · rename_i vs' hv
              cases h
              obtain ⟨cc, ⟨ca⟩, ct⟩ := c
              simp only at hc hv
              subst hc
              exact ⟨hg, hd, hN, ca, ct, ho, hv⟩
            · cases h
          · cases h
        · cases h
theorem sc {P : Program} {ops : Array Oper} {W : List Oper → Act → World → Prop} {rest : List Oper} {o : Oper} {a : Act} {N : Fs} {sl : List (Nat × Value)} {d : Nat} {f : FuncId} {vs : List Value} {R : Value → World → Prop} (kw : Walk P ops W) (F : Fr N a sl) (h : opC N.n sl o = some (d, f, vs)) (he : ∀ args w, (callFunc f args).run P w = .ok (.enter f args) w)
    (hc : Calls P f vs.toArray w fun e w' => ∃ v, e = .returned v ∧ R v w') (hk : ∀ v w' a', R v w' → Fr N a' ((d, v) :: sl) → W rest a' w') : W (o :: rest) a w := by
  obtain ⟨hg, hd, hN, xs, ts, ho, hv⟩ := opC_ok h
  exact s_call kw F hg hd hN (by rw [ho]; rfl) (y_call F ho hv he) hc hk
/-- Cells that read as x. -/
theorem St.mkRc {α : Type} {R : Rp α} (H : St w0 w l) {cs : List Value} {x : α} (hrd : ∀ {B : Base}, (∀ (j : Nat) (C : HP), l[j]? = some C → ∃ S, C.pr B w S) → R.rd B cs x) : St w0 w (HP.rc R cs x :: l) :=
  H.more fun B _ hp => hrd fun j C hj => hp j C hj
theorem St.rcLen {α : Type} {R : Rp α} (H : St w0 w l) (i : Nat) {cs : List Value} {x : α} (hi : l[i]? = some (HP.rc R cs x)) : cs.length = R.n := by
  obtain ⟨B, S, _, h, _⟩ := H.get i hi
  exact R.len h
theorem St.rcFlat {α : Type} {R : Rp α} (H : St w0 w l) (i : Nat) {cs : List Value} {x : α} (hi : l[i]? = some (HP.rc R cs x)) : Flat cs := by
  obtain ⟨B, S, _, h, _⟩ := H.get i hi
  exact R.flat h
end
/-! Short names. -/
theorem sq : type_of% @wp_seq := @wp_seq
theorem bl : type_of% @wp_block := @wp_block
theorem ct : type_of% @c_then := @c_then
theorem bn : type_of% @c_blkN := @c_blkN
theorem cx : type_of% @c_thenX := @c_thenX
theorem ch : type_of% @c_hit := @c_hit
theorem lz : type_of% @wpList_nil := @wpList_nil
theorem sk : type_of% @wp_skip := @wp_skip
theorem ex : type_of% @wp_exit := @wp_exit
theorem wr : type_of% @wp_ret := @wp_ret
theorem br : type_of% @c_blkR := @c_blkR
theorem tr : type_of% @c_thenR := @c_thenR
theorem rl : type_of% @r_lit := @r_lit
theorem cB : type_of% @x_cond := @x_cond
theorem cT : type_of% @x_condT := @x_condT
theorem cF : type_of% @x_condF := @x_condF
end Go.Tri

