/- Keys of a map, sorted. -/
import Derived.Test.YtnagibpmfabkjaaGreatDoorS
import Derived.Shelf.SlSortCmp.WholeK
set_option linter.unusedSimpArgs false
set_option linter.unusedVariables false
namespace Go.Tri
open Go.RowKit Go.Sort Go.Proofs
/-! ### The order of texts -/
theorem cmp_self : ∀ a : List UInt8, Lib.compareBytes a a = 0
  | [] => rfl
  | a :: as' => by simp [Lib.compareBytes, cmp_self as']
theorem cmp_zero : ∀ a b : List UInt8, Lib.compareBytes a b = 0 → a = b
  | [], [], _ => rfl
  | [], _ :: _, h => by simp [Lib.compareBytes] at h
  | _ :: _, [], h => by simp [Lib.compareBytes] at h
  | a :: as', b :: bs, h => by
    simp only [Lib.compareBytes] at h
    split at h
    · simp at h
    · split at h
      · simp at h
      · rename_i h1 h2
        have : a = b := UInt8.le_antisymm (UInt8.not_lt.1 h2) (UInt8.not_lt.1 h1)
        rw [this, cmp_zero as' bs h]
theorem cmp_swap : ∀ a b : List UInt8, Lib.compareBytes b a = - Lib.compareBytes a b
  | [], [] => rfl
  | [], _ :: _ => rfl
  | _ :: _, [] => rfl
  | a :: as', b :: bs => by
    simp only [Lib.compareBytes]
    by_cases h1 : a < b
    · have h2 : ¬ b < a := UInt8.not_lt.2 (UInt8.le_of_lt h1)
      simp [h1, h2]
    · by_cases h2 : b < a
      · simp [h1, h2]
      · simp [h1, h2, cmp_swap as' bs]
theorem cmp_trans : ∀ a b c : List UInt8, Lib.compareBytes a b < 0 → Lib.compareBytes b c < 0 → Lib.compareBytes a c < 0
  | [], [], c, h, _ => by simp [Lib.compareBytes] at h
  | [], _ :: _, [], _, h => by simp [Lib.compareBytes] at h
  | [], _ :: _, _ :: _, _, _ => by simp [Lib.compareBytes]
  | _ :: _, [], _, h, _ => by simp [Lib.compareBytes] at h
  | _ :: _, _ :: _, [], _, h => by simp [Lib.compareBytes] at h
  | a :: as', b :: bs, c :: cs, h1, h2 => by
    simp only [Lib.compareBytes] at *
    by_cases ab : a < b
    · by_cases bc : b < c
      · simp [UInt8.lt_trans ab bc]
      · by_cases cb : c < b
        · simp [bc, cb] at h2
        · have : b = c := UInt8.le_antisymm (UInt8.not_lt.1 cb) (UInt8.not_lt.1 bc)
          subst this; simp [ab]
    · by_cases ba : b < a
      · simp [ab, ba] at h1
      · have : a = b := UInt8.le_antisymm (UInt8.not_lt.1 ba) (UInt8.not_lt.1 ab)
        subst this
        simp only [UInt8.lt_irrefl, if_false] at h1
        by_cases bc : a < c
        · simp [bc]
        · by_cases cb : c < a
          · simp [bc, cb] at h2
          · simp only [bc, cb, if_false] at h2 ⊢
            exact cmp_trans as' bs cs h1 h2
def ltK (a b : List UInt8) : Prop := Lib.compareBytes a b < 0
/-! ### The keys of a map, in order -/
/-! ### Rows of digests -/
abbrev H32 := {l : List UInt8 // l.length = 32}
instance : Inhabited H32 := ⟨⟨List.replicate 32 0, by simp⟩⟩
def encH (x : H32) : List Value := bcells x.1
theorem encH_len (x : H32) : (encH x).length = 32 := by unfold encH; rw [bcells_length]; exact x.2
theorem flat_len (d : List H32) : (d.map encH).flatten.length = d.length * 32 := by
  induction d with
  | nil => rfl
  | cons x d ih => simp only [List.map_cons, List.flatten_cons, List.length_append, encH_len, ih, List.length_cons]; omega
section
variable {w0 w : World} {ls : List HP} {e : TypeId} {b cap : Nat} {xs : List (List UInt8)}
end
/-! ### Ranges over keys -/
/-! ### Comparing -/
theorem y_ext {P : Program} {N : Fs} {a : Act} {l : List (Nat × Value)} {o : Oper} {w : World} {v : Value} (F : Fr N a l) {f : FuncId} {xs : List Operand} {ts : Array TypeId} (ho : o.op = .call { callee := .value (.func f), args := xs.toArray, argTypes := ts }) {vs : List Value} (hv : evs l xs = some vs)
    (he : (callFunc f vs.toArray).run P w = .ok (.value v) w) : (execOp a.eval o).run P w = .ok (.value v) w := by
  have := F.evals hv
  unfold execOp
  simp [ho, resolve, Act.eval, Deferred.ofValue, invoke, he, this]
/-! ### What is sorted -/
theorem aget_isSome {κ β : Type} [DecidableEq κ] (k : κ) : ∀ l : List (κ × β), (aget k l).isSome = true ↔ k ∈ l.map (·.1)
  | [] => by simp [aget]
  | (k', v) :: l => by
    simp only [aget]
    split
    · rename_i h; simp [h]
    · rename_i h
      rw [aget_isSome k l]; simp [Ne.symm h]
theorem St.owCase {α : Type} {R : Rp α} {w0 w : World} {ls : List HP} {e : TypeId} {p : Option Addr} {cap : Nat} {xs : List α} (H : St w0 w ls) (i : Nat) (hi : ls[i]? = some (HP.ow R e p cap xs)) : (p = none ∧ cap = 0 ∧ xs = []) ∨ ∃ b, p = some ⟨b, 0, none⟩ := by
  obtain ⟨B, H⟩ := H.out
  obtain ⟨S0, css, c0, ⟨hl0, ⟨h, h'⟩ | ⟨g, cap', cur, h, hb0, hg, hnc, hm, hsz, ht⟩⟩, hS⟩ := H.at hi
  · injection h with h1 h2 h3
    exact .inl ⟨h1, h3, List.eq_nil_of_length_eq_zero h2⟩
  · injection h with h1
    exact .inr ⟨g, h1⟩
theorem AggT.run_szOf {P : Program} {t : TypeId} {n : Nat} {z : List Value} (h : AggT P t n z) (w : World) : (Go.sizeOf t).run P w = .ok n w := by
  obtain ⟨i, hi, he⟩ := Option.map_eq_some_iff.1 h.info
  injection he with h1 _
  subst h1
  simp [Go.sizeOf, typeInfo, Sem.run, hi]
/-! ### There is such a list -/
def leK (a b : List UInt8) : Bool := decide (Lib.compareBytes a b ≤ 0)
theorem leK_trans (a b c : List UInt8) (h1 : leK a b = true) (h2 : leK b c = true) : leK a c = true := by
  have h1 : Lib.compareBytes a b ≤ 0 := of_decide_eq_true h1
  have h2 : Lib.compareBytes b c ≤ 0 := of_decide_eq_true h2
  refine decide_eq_true ?_
  by_cases e1 : Lib.compareBytes a b = 0
  · rw [cmp_zero _ _ e1]; exact h2
  · by_cases e2 : Lib.compareBytes b c = 0
    · rw [← cmp_zero _ _ e2]; exact h1
    · have := cmp_trans a b c (by omega) (by omega)
      omega
theorem leK_total (a b : List UInt8) : (leK a b || leK b a) = true := by
  have := cmp_swap a b
  unfold leK
  by_cases h : Lib.compareBytes a b ≤ 0
  · simp [h]
  · have : Lib.compareBytes b a ≤ 0 := by omega
    simp [this]
theorem enum_of {β : Type} {m : List UInt8 → Option β} : ∀ (ks : List (List UInt8)) (m : List UInt8 → Option β), ks.Nodup → (∀ k, k ∈ ks ↔ (m k).isSome = true) → ∃ kv, Enum m kv ∧ kv.map (·.1) = ks
  | ks, m, hn, hk => by
    have key : ∀ l : List (List UInt8), (∀ k ∈ l, (m k).isSome = true) → ∃ kv : List (List UInt8 × β), kv.map (·.1) = l ∧ ∀ k v, (k, v) ∈ kv → m k = some v := by
      intro l
      induction l with
      | nil => intro _; exact ⟨[], rfl, fun k v h => by cases h⟩
      | cons a l ih =>
        intro h
        obtain ⟨kv, h1, h2⟩ := ih fun k hk => h k (List.mem_cons_of_mem _ hk)
        obtain ⟨v, hv⟩ := Option.isSome_iff_exists.1 (h a (by simp))
        refine ⟨(a, v) :: kv, by simp [h1], fun k v' hm => ?_⟩
        rcases List.mem_cons.1 hm with e | e
        · cases e; exact hv
        · exact h2 k v' e
    obtain ⟨kv, h1, h2⟩ := key ks fun k h => (hk k).1 h
    refine ⟨kv, ⟨by rw [h1]; exact hn, fun k => ?_⟩, h1⟩
    by_cases hi : k ∈ ks
    · have h3 := (aget_isSome k kv).2 (by rw [h1]; exact hi)
      obtain ⟨v, hv⟩ := Option.isSome_iff_exists.1 h3
      rw [hv]; exact h2 k v (aget_mem' hv)
    · have h3 : (aget k kv) = none := by
        rcases hx : aget k kv with _ | v
        · rfl
        · exact absurd (by rw [← h1]; exact (aget_isSome k kv).1 (by rw [hx]; rfl)) hi
      have h4 : m k = none := by
        rcases hx : m k with _ | v
        · rfl
        · exact absurd ((hk k).2 (by rw [hx]; rfl)) hi
      rw [h3, h4]
end Go.Tri
