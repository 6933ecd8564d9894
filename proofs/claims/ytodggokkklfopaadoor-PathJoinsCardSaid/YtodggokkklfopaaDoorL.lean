/- The engine: lists of elements in rows of cells. -/
import Derived.Test.YtodggokkklfopaaDoorM
set_option linter.unusedSimpArgs false
set_option linter.unusedVariables false
namespace Go.Tri
open Go.RowKit
/-- The cells of a list of elements. -/
def rows {α : Type} (en : α → List Value) (xs : List α) : List Value := xs.flatMap en
section
variable {α : Type} {en : α → List Value} {ok : α → Prop} {size : Nat}
theorem rows_app (en : α → List Value) (xs ys : List α) : rows en (xs ++ ys) = rows en xs ++ rows en ys := by simp [rows]
theorem rows_snoc (en : α → List Value) (xs : List α) (x : α) : rows en (xs ++ [x]) = rows en xs ++ en x := by simp [rows]
theorem rows_cons (en : α → List Value) (x : α) (xs : List α) : rows en (x :: xs) = en x ++ rows en xs := by simp [rows]
theorem rows_flat (h : ∀ x, Flat (en x)) (xs : List α) : Flat (rows en xs) := by
  intro v hv
  simp only [rows, List.mem_flatMap] at hv
  obtain ⟨x, _, hx⟩ := hv
  exact h x v hx
theorem rows_len (hlen : ∀ x, ok x → (en x).length = size) : ∀ (xs : List α), (∀ x ∈ xs, ok x) → (rows en xs).length = xs.length * size
  | [], _ => by simp [rows]
  | x :: xs, h => by
    rw [rows_cons, List.length_append, hlen x (h x (List.mem_cons_self ..)), rows_len hlen xs (fun y hy => h y (List.mem_cons_of_mem _ hy)), List.length_cons, Nat.succ_mul, Nat.add_comm]
theorem rows_take (hlen : ∀ x, ok x → (en x).length = size) (xs : List α) (hw : ∀ x ∈ xs, ok x) (k : Nat) (hk : k ≤ xs.length) : rows en (xs.take k) = (rows en xs).take (k * size) := by
  have h : rows en xs = rows en (xs.take k) ++ rows en (xs.drop k) := by rw [← rows_app, List.take_append_drop]
  have hl := rows_len hlen (xs.take k) (fun x hx => hw x (List.mem_of_mem_take hx))
  rw [List.length_take, Nat.min_eq_left hk] at hl
  rw [h, ← hl, List.take_left]
theorem rows_drop (hlen : ∀ x, ok x → (en x).length = size) (xs : List α) (hw : ∀ x ∈ xs, ok x) (k : Nat) (hk : k ≤ xs.length) : rows en (xs.drop k) = (rows en xs).drop (k * size) := by
  have h : rows en xs = rows en (xs.take k) ++ rows en (xs.drop k) := by rw [← rows_app, List.take_append_drop]
  have hl := rows_len hlen (xs.take k) (fun x hx => hw x (List.mem_of_mem_take hx))
  rw [List.length_take, Nat.min_eq_left hk] at hl
  rw [h, ← hl, List.drop_left]
theorem rows_set (hlen : ∀ x, ok x → (en x).length = size) (xs : List α) (hw : ∀ x ∈ xs, ok x) (k : Nat) (hk : k < xs.length) (v : α) : rows en (xs.set k v) = (rows en xs).take (k * size) ++ en v ++ (rows en xs).drop (k * size + size) := by
  rw [List.set_eq_take_append_cons_drop, if_pos hk, rows_app, rows_cons, ← rows_take hlen xs hw k (by omega), show k * size + size = (k + 1) * size by rw [Nat.succ_mul], ← rows_drop hlen xs hw (k + 1) (by omega), List.append_assoc]
theorem Row.elem (hlen : ∀ x, ok x → (en x).length = size) {w : World} {b off : Nat} {xs : List α} {k : Nat} {x : α} (h : Row w b off (rows en xs)) (hw : ∀ y ∈ xs, ok y) (hk : xs[k]? = some x) : Row w b (off + k * size) (en x) := by
  obtain ⟨hlt, hx⟩ := List.getElem?_eq_some_iff.1 hk
  have e : rows en xs = rows en (xs.take k) ++ (en x ++ rows en (xs.drop (k + 1))) := by
    rw [← rows_cons, ← rows_app, ← hx, ← List.drop_eq_getElem_cons hlt, List.take_append_drop]
  rw [e] at h
  have h2 := h.right
  rw [rows_len hlen _ (fun y hy => hw y (List.mem_of_mem_take hy)), List.length_take, Nat.min_eq_left (by omega)] at h2
  exact h2.left
end
/-- Numbers as cells. -/
def inC (k : IntKind) (x : Int) : List Value := [.int k x]
theorem inC_len (k : IntKind) (x : Int) (_ : True) : (inC k x).length = 1 := rfl
theorem inC_flat (k : IntKind) (x : Int) : Flat (inC k x) := by intro v hv; simp [inC] at hv; subst hv; rfl
/-- Texts as cells. -/
def stC (x : ByteArray) : List Value := [.string x]
theorem stC_len (x : ByteArray) (_ : True) : (stC x).length = 1 := rfl
theorem stC_flat (x : ByteArray) : Flat (stC x) := by intro v hv; simp [stC] at hv; subst hv; rfl
theorem st_of_own {w w' : World} {e : TypeId} {size : Nat} {r : Value} {n : Nat} {cs : List Value} (h : w'.ownsRow w.heap.size e size r n cs) (hb : Below w.heap.size w w') : St w w' [HP.own e size r n cs] := by
  refine ⟨hb, fun _ b => r.ownBlock = some b, ?_, ?_, ?_⟩
  · intro i A hi
    cases i with
    | succ i => simp at hi
    | zero =>
      simp at hi; subst hi
      refine ⟨⟨h.1, ?_⟩, fun b hb => hb⟩
      rcases h.2 with h | ⟨g, cap, cur, hv, hb, hr⟩
      · exact .inl h
      · exact .inr ⟨g, cap, cur, hv, Nat.zero_le _, hr⟩
  · intro i j b hi hj _ _; simp at hi hj; omega
  · intro i b _ hf; exact h.lt b hf
theorem own_base {w : World} {e : TypeId} {size : Nat} {r : Value} {n : Nat} {cs : List Value} (h : w.ownsRow 0 e size r n cs) {base : Nat} (hb : ∀ b, r.ownBlock = some b → base ≤ b) : w.ownsRow base e size r n cs := by
  refine ⟨h.1, ?_⟩
  rcases h.2 with h | ⟨g, cap, cur, rfl, _, hr⟩
  · exact .inl h
  · exact .inr ⟨g, cap, cur, rfl, hb g rfl, hr⟩
section
variable {P : Program} {o : Oper} {a : Act} {w : World} {N : Fs} {l : List (Nat × Value)} {x y : Operand} {t t' : TypeId} {v : Value} {k k' : IntKind} {m n r : Int}
theorem y_conv (F : Fr N a l) {d : TypeDesc} (hs : P.underlying t = some d) (hd : P.underlying t' = some (.int k)) (ho : o.op = .convert t t' x) (hx : ev l x = some (.int k' m)) (hr : k.wrap m = r) : (execOp a.eval o).run P w = .ok (.value (.int k r)) w := by
  unfold execOp
  simp only [ho, F.eval hx]
  have : (convert t t' (.int k' m)).run P w = .ok (.int k r) w := by
    unfold convert
    rw [Sem.run_bind, Go.Tri.run_underlying hs]
    simp only [Result.andThen_ok]
    rw [Sem.run_bind, Go.Tri.run_underlying hd]
    simp only [Result.andThen_ok, Conv.intToInt, hr]
    cases d <;> rfl
  rw [Sem.run_bind, this]; rfl
theorem y_shr (F : Fr N a l) (ho : o.op = .binOp .shr t x y t') (hx : ev l x = some (.int k m)) (hy : ev l y = some (.int k' n)) (hn : 0 ≤ n) (hr : m.fdiv (2 ^ min n.toNat k.bits) = r) : (execOp a.eval o).run P w = .ok (.value (.int k r)) w := by
  unfold execOp
  have h0 : ¬ n < 0 := by omega
  simp [ho, F.eval hx, F.eval hy, eqGuard, binOp, Op.shift, h0, hr]
theorem y_quo (F : Fr N a l) (ho : o.op = .binOp .quo t x y t') (hx : ev l x = some (.int k m)) (hy : ev l y = some (.int k n)) (hn : n ≠ 0) (hr : k.wrap (m.tdiv n) = r) : (execOp a.eval o).run P w = .ok (.value (.int k r)) w := by
  unfold execOp; simp [ho, F.eval hx, F.eval hy, eqGuard, binOp, Op.intDiv, hn, hr]
theorem y_rem (F : Fr N a l) (ho : o.op = .binOp .rem t x y t') (hx : ev l x = some (.int k m)) (hy : ev l y = some (.int k n)) (hn : n ≠ 0) (hr : m.tmod n = r) : (execOp a.eval o).run P w = .ok (.value (.int k r)) w := by
  unfold execOp; simp [ho, F.eval hx, F.eval hy, eqGuard, binOp, Op.intDiv, hn, hr]
theorem y_max (F : Fr N a l) {ts : Array TypeId} (ho : o.op = .call { callee := .builtin .max, args := #[x, y], argTypes := ts }) (hx : ev l x = some (.int k m)) (hy : ev l y = some (.int k n)) (hr : max m n = r) : (execOp a.eval o).run P w = .ok (.value (.int k r)) w := by
  have e : (if n > m then n else m) = r := by rw [← hr]; split <;> omega
  unfold execOp; simp [ho, resolve, invoke, builtin, F.eval hx, F.eval hy, Builtin.max_, Builtin.max2]; exact e
theorem y_min (F : Fr N a l) {ts : Array TypeId} (ho : o.op = .call { callee := .builtin .min, args := #[x, y], argTypes := ts }) (hx : ev l x = some (.int k m)) (hy : ev l y = some (.int k n)) (hr : min m n = r) : (execOp a.eval o).run P w = .ok (.value (.int k r)) w := by
  have e : (if n < m then n else m) = r := by rw [← hr]; split <;> omega
  unfold execOp; simp [ho, resolve, invoke, builtin, F.eval hx, F.eval hy, Builtin.min_, Builtin.min2]; exact e
end
theorem y_callV0 {P : Program} {o : Oper} {a : Act} {w : World} {N : Fs} {l : List (Nat × Value)} (F : Fr N a l) {f : FuncId} {g : Operand} {xs : List Operand} {ts : Array TypeId} (ho : o.op = .call { callee := .value g, args := xs.toArray, argTypes := ts }) (hg : ev l g = some (.func (.func f) #[] #[])) {vs : List Value} (hv : evs l xs = some vs)
    (he : ∀ args w, (callFunc f args).run P w = .ok (.enter f args) w) : (execOp a.eval o).run P w = .ok (.enter f vs.toArray) w := by
  have := F.evals hv
  unfold execOp
  simp [ho, resolve, F.eval hg, Deferred.ofValue, invoke, he, this]
theorem shr_one (k : IntKind) {m r : Int} (h : 0 ≤ m) (hr : m / 2 = r) : m.fdiv (2 ^ min (1 : Int).toNat k.bits) = r := by
  have : min (1 : Int).toNat k.bits = 1 := by cases k <;> rfl
  rw [this, Int.fdiv_eq_ediv_of_nonneg _ (by decide)]
  exact hr
theorem run_eqNil1 {P : Program} {t e : TypeId} (h : P.underlying t = some (.slice e)) {x y : Operand} (w : World) : (do eqGuard .eql t x y (.slice none 0 0) (.slice none 0 0); binOp .eql t (.slice none 0 0) (.slice none 0 0)).run P w = .ok (.bool true) w := by
  have h1 : ∀ d : Nat, (Op.equalIn (d + 1) t (.slice none 0 0) (.slice none 0 0)).run P w = .ok true w := fun d => by
    unfold Op.equalIn; rw [Sem.run_bind, run_underlying h]; rfl
  have h2 := h1 9999
  have h3 : (eqGuard .eql t x y (.slice none 0 0) (.slice none 0 0)).run P w = .ok () w := rfl
  rw [Sem.run_bind, h3]
  simp only [Result.andThen_ok, binOp, Op.equal, Op.maxDepth]
  rw [Sem.run_bind, h2]; rfl
theorem run_eqNil0 {P : Program} {t e : TypeId} (h : P.underlying t = some (.slice e)) {x y : Operand} (a : Addr) (n c : Nat) (w : World) : (do eqGuard .eql t x y (.slice (some a) n c) (.slice none 0 0); binOp .eql t (.slice (some a) n c) (.slice none 0 0)).run P w = .ok (.bool false) w := by
  have h3 : (eqGuard .eql t x y (.slice (some a) n c) (.slice none 0 0)).run P w = .ok () w := rfl
  rw [Sem.run_bind, h3]
  simp only [Result.andThen_ok]
  exact run_eq_nilSlice h a n c w
/-- Where the search by halves ends. -/
def bsL (f : Nat → Bool) (i j : Nat) : Nat := if h : i < j then (if f ((i + j) / 2) then bsL f ((i + j) / 2 + 1) j else bsL f i ((i + j) / 2)) else i
termination_by j - i
decreasing_by all_goals omega
theorem bsL_le (f : Nat → Bool) (i j : Nat) (h : i ≤ j) : i ≤ bsL f i j ∧ bsL f i j ≤ j := by
  induction i, j using bsL.induct f with
  | case1 i j hlt hf ih => rw [bsL, dif_pos hlt, if_pos hf]; have := ih (by omega); omega
  | case2 i j hlt hf ih => rw [bsL, dif_pos hlt, if_neg hf]; have := ih (by omega); omega
  | case3 i j hlt => rw [bsL, dif_neg hlt]; omega
theorem bsL_step1 {f : Nat → Bool} {i j h : Nat} (hlt : i < j) (hh : (i + j) / 2 = h) (hf : f h = true) : bsL f i j = bsL f (h + 1) j := by
  subst hh; rw [bsL.eq_1 f i j, dif_pos hlt, if_pos hf]
theorem bsL_step0 {f : Nat → Bool} {i j h : Nat} (hlt : i < j) (hh : (i + j) / 2 = h) (hf : f h = false) : bsL f i j = bsL f i h := by
  subst hh; rw [bsL.eq_1 f i j, dif_pos hlt, if_neg (by rw [hf]; simp)]
theorem bsL_end {f : Nat → Bool} {i j : Nat} (h : ¬ i < j) : bsL f i j = i := by rw [bsL, dif_neg h]
theorem bsL_spec (f : Nat → Bool) (i j : Nat) (hij : i ≤ j) (hm : ∀ a b, a ≤ b → b < j → f b = true → f a = true) :
    (∀ k, i ≤ k → k < bsL f i j → f k = true) ∧ (∀ k, bsL f i j ≤ k → k < j → f k = false) := by
  induction i, j using bsL.induct f with
  | case1 i j hlt hf ih =>
    rw [bsL, dif_pos hlt, if_pos hf]
    obtain ⟨h1, h2⟩ := ih (by omega) hm
    refine ⟨fun k hk hk2 => ?_, h2⟩
    by_cases h : (i + j) / 2 + 1 ≤ k
    · exact h1 k h hk2
    · exact hm k ((i + j) / 2) (by omega) (by omega) hf
  | case2 i j hlt hf ih =>
    rw [bsL, dif_pos hlt, if_neg hf]
    obtain ⟨h1, h2⟩ := ih (by omega) (fun a b hab hb => hm a b hab (by omega))
    refine ⟨h1, fun k hk hk2 => ?_⟩
    by_cases h : k < (i + j) / 2
    · exact h2 k hk h
    · cases e : f k with
      | false => rfl
      | true => exact absurd (hm ((i + j) / 2) k (by omega) hk2 e) hf
  | case3 i j hlt => rw [bsL, dif_neg hlt]; exact ⟨fun k _ _ => by omega, fun k _ _ => by omega⟩
section
variable {α : Type} (c : α → α → Int)
def ltAt (xs : List α) (v : α) (k : Nat) : Bool := match xs[k]? with | some x => decide (c x v < 0) | none => false
def findC (xs : List α) (v : α) : Nat := bsL (ltAt c xs v) 0 xs.length
def foundC (xs : List α) (v : α) : Bool := match xs[findC c xs v]? with | some x => decide (c x v = 0) | none => false
theorem findC_le (xs : List α) (v : α) : findC c xs v ≤ xs.length := (bsL_le _ 0 xs.length (Nat.zero_le _)).2
theorem ltAt_some {xs : List α} {v x : α} {k : Nat} (h : xs[k]? = some x) : ltAt c xs v k = decide (c x v < 0) := by simp [ltAt, h]
theorem foundC_some {xs : List α} {v x : α} {i : Nat} (hi : findC c xs v = i) (h : xs[i]? = some x) : foundC c xs v = decide (c x v = 0) := by simp [foundC, hi, h]
theorem foundC_none {xs : List α} {v : α} {i : Nat} (hi : findC c xs v = i) (h : ¬ i < xs.length) : foundC c xs v = false := by simp [foundC, hi, List.getElem?_eq_none (show xs.length ≤ i by omega)]
theorem foundC_at {xs : List α} {v : α} (h : foundC c xs v = true) : ∃ x, xs[findC c xs v]? = some x ∧ c x v = 0 := by
  unfold foundC at h
  cases e : xs[findC c xs v]? with
  | none => simp [e] at h
  | some x => simp [e] at h; exact ⟨x, rfl, h⟩
end
end Go.Tri
