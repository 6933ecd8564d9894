/- Plain: names and paths. -/
import Derived.Test.YtnagibpmfabkjaaGreatDoorP
import Derived.Test.YtnagibpmfabkjaaGreatDoorMod
set_option linter.unusedSimpArgs false
set_option linter.unusedVariables false
namespace Go.Tri
open Go.RowKit
section
variable {α σ ρ : Type}
/-- A loop that looks at each in turn, until one is met. -/
theorem loop_fs (xs : List α) (g : α → Option ρ) (e : ρ) {f : Int → Option (Int ⊕ ρ)} (h1 : ∀ (i : Nat) (h : i < xs.length), f (i : Int) = some (match g xs[i] with | none => .inl ((i + 1 : Nat) : Int) | some r => .inr r)) (h2 : f (xs.length : Int) = some (.inr e)) : loopO f 0 = some ((xs.findSome? g).getD e) := by
  have key : ∀ (m i : Nat), i + m = xs.length → loopO f (i : Int) = some (((xs.drop i).findSome? g).getD e) := by
    intro m
    induction m with
    | zero =>
      intro i h
      obtain rfl : i = xs.length := by omega
      rw [loopO_eq, h2]; simp
    | succ m ih =>
      intro i h
      have hi : i < xs.length := by omega
      rw [loopO_eq, h1 i hi, List.drop_eq_getElem_cons hi]
      cases hg : g xs[i] with
      | none => simp only [Option.bind_some, List.findSome?_cons, hg]; exact ih (i + 1) (by omega)
      | some r => simp only [Option.bind_some, List.findSome?_cons, hg, Option.getD_some]
  have := key xs.length 0 (by omega)
  simpa using this
/-- The same, the counter being put into the state. -/
theorem loop_foldM {τ : Type} (mk : σ → Int → τ) (xs : List α) (g : σ → α → σ) (fin : σ → ρ) (s0 : σ) (I : Nat → σ → Prop) {f : τ → Option (τ ⊕ ρ)} (h0 : I 0 s0) (h1 : ∀ (i : Nat) (s : σ) (h : i < xs.length), I i s → f (mk s (i : Int)) = some (.inl (mk (g s xs[i]) ((i + 1 : Nat) : Int))) ∧ I (i + 1) (g s xs[i])) (h2 : ∀ s, I xs.length s → f (mk s (xs.length : Int)) = some (.inr (fin s))) : loopO f (mk s0 0) = some (fin (xs.foldl g s0)) ∧ I xs.length (xs.foldl g s0) := by
  have key : ∀ (m i : Nat) (s : σ), i + m = xs.length → I i s → loopO f (mk s (i : Int)) = some (fin ((xs.drop i).foldl g s)) ∧ I xs.length ((xs.drop i).foldl g s) := by
    intro m
    induction m with
    | zero =>
      intro i s h hi
      obtain rfl : i = xs.length := by omega
      rw [loopO_eq, h2 s hi]; simp [hi]
    | succ m ih =>
      intro i s h hs
      have hi : i < xs.length := by omega
      obtain ⟨h3, h4⟩ := h1 i s hi hs
      rw [loopO_eq, h3, List.drop_eq_getElem_cons hi]
      exact ih (i + 1) _ (by omega) h4
  have := key xs.length 0 s0 (by omega) h0
  simpa using this
/-- A loop over all in order of a map, each step told. -/
theorem foldO_eq {β : Type} {f : σ → β → Option (σ ⊕ ρ)} (g : σ → β → σ) : ∀ (l : List β) (s : σ), (∀ x ∈ l, ∀ s, f s x = some (.inl (g s x))) → foldO f s l = some (.inl (l.foldl g s))
  | [], _, _ => rfl
  | x :: l, s, h => by
    show (f s x).bind _ = _
    rw [h x List.mem_cons_self]
    exact foldO_eq g l _ fun y hy => h y (List.mem_cons_of_mem _ hy)
/-- With what is known of the state. -/
theorem foldO_inv {β : Type} {f : σ → β → Option (σ ⊕ ρ)} (g : σ → β → σ) (I : List β → σ → Prop) (l0 : List β) : ∀ (l pre : List β) (s : σ), pre ++ l = l0 → I pre s → (∀ pre x post s, pre ++ x :: post = l0 → I pre s → f s x = some (.inl (g s x)) ∧ I (pre ++ [x]) (g s x)) → foldO f s l = some (.inl (l.foldl g s)) ∧ I l0 (l.foldl g s)
  | [], pre, s, he, hi, _ => ⟨rfl, by simpa [← he] using hi⟩
  | x :: l, pre, s, he, hi, h => by
    obtain ⟨h1, h2⟩ := h pre x l s he hi
    have h3 := foldO_inv g I l0 l (pre ++ [x]) (g s x) (by simpa using he) h2 h
    refine ⟨?_, h3.2⟩
    show (f s x).bind _ = _
    rw [h1]; exact h3.1
end
/-! ### Names -/
def nmC (c : UInt8) : Bool := decide (33 ≤ c.toNat) && decide (c.toNat ≤ 126) && decide (c.toNat ≠ 47)
def isNm (x : List UInt8) : Bool := x.all nmC && decide (x ≠ []) && decide (x.length ≤ 8)
def NP (xs : List (List UInt8)) : Prop := ∀ x ∈ xs, isNm x = true
def pth (xs : List (List UInt8)) : List UInt8 := 47 :: jn xs
theorem isNm_ne {x : List UInt8} (h : isNm x = true) : ∀ c ∈ x, c ≠ 47 := by
  intro c hc e
  simp only [isNm, Bool.and_eq_true, List.all_eq_true] at h
  have := h.1.1 c hc
  simp only [nmC, Bool.and_eq_true, decide_eq_true_eq] at this
  exact this.2 (by rw [e]; rfl)
theorem isNm_z {x : List UInt8} (h : isNm x = true) : ∀ c ∈ x, c ≠ 0 := by
  intro c hc e
  simp only [isNm, Bool.and_eq_true, List.all_eq_true] at h
  have := h.1.1 c hc
  simp only [nmC, Bool.and_eq_true, decide_eq_true_eq] at this
  have h0 := this.1.1
  rw [e] at h0
  exact absurd h0 (by decide)
theorem isNm_nil {x : List UInt8} (h : isNm x = true) : x ≠ [] := by
  simp only [isNm, Bool.and_eq_true, decide_eq_true_eq] at h
  exact h.1.2
theorem jn_nil : jn [] = [] := rfl
theorem jn_one (x : List UInt8) : jn [x] = x := by simp [jn, Lib.join, List.intercalate, List.intersperse]
theorem jn_cons (x y : List UInt8) (r : List (List UInt8)) : jn (x :: y :: r) = x ++ 47 :: jn (y :: r) := by simp [jn, Lib.join, List.intercalate, List.intersperse]
theorem jn_app : ∀ (a b : List (List UInt8)), a ≠ [] → b ≠ [] → jn (a ++ b) = jn a ++ 47 :: jn b
  | [], _, h, _ => (h rfl).elim
  | [x], y :: r, _, _ => by rw [jn_one]; exact jn_cons x y r
  | [_], [], _, h => (h rfl).elim
  | x :: y :: a, b, _, h => by
    have := jn_app (y :: a) b (by simp) h
    rw [List.cons_append, List.cons_append, jn_cons, jn_cons, ← List.cons_append, this]; simp
theorem sp_ne (r : List UInt8) : sp r ≠ [] := by
  cases r with
  | nil => simp [sp]
  | cons c r =>
    simp only [sp]
    split
    · simp
    · split <;> simp
theorem jn_sp : ∀ r : List UInt8, jn (sp r) = r
  | [] => rfl
  | c :: r => by
    have ih := jn_sp r
    obtain ⟨h, t, e⟩ : ∃ h t, sp r = h :: t := by
      cases hs : sp r with
      | nil => exact (sp_ne r hs).elim
      | cons h t => exact ⟨h, t, rfl⟩
    simp only [sp]
    rw [e] at ih ⊢
    split
    · rename_i hc
      rw [jn_cons, ih, hc]; rfl
    · cases t with
      | nil => rw [jn_one] at ih ⊢; rw [ih]
      | cons y t => rw [jn_cons] at ih ⊢; rw [← ih]; rfl
theorem sp_one : ∀ {x : List UInt8}, (∀ c ∈ x, c ≠ 47) → sp x = [x]
  | [], _ => rfl
  | c :: x, h => by
    have := sp_one (x := x) fun c hc => h c (List.mem_cons_of_mem _ hc)
    simp [sp, this, h c List.mem_cons_self]
theorem sp_app : ∀ {x : List UInt8} (r : List UInt8), (∀ c ∈ x, c ≠ 47) → sp (x ++ 47 :: r) = x :: sp r
  | [], r, _ => by simp [sp]
  | c :: x, r, h => by
    have := sp_app (x := x) r fun c hc => h c (List.mem_cons_of_mem _ hc)
    simp [sp, this, h c List.mem_cons_self]
theorem sp_jn : ∀ {xs : List (List UInt8)}, xs ≠ [] → (∀ x ∈ xs, ∀ c ∈ x, c ≠ 47) → sp (jn xs) = xs
  | [], h, _ => (h rfl).elim
  | [x], _, h => by rw [jn_one]; exact sp_one (h x List.mem_cons_self)
  | x :: y :: r, _, h => by
    rw [jn_cons, sp_app _ (h x List.mem_cons_self), sp_jn (by simp) fun z hz => h z (List.mem_cons_of_mem _ hz)]
theorem sp_len (r : List UInt8) : (sp r).length ≤ r.length + 1 := by
  induction r with
  | nil => simp [sp]
  | cons c r ih =>
    simp only [sp]
    split
    · simp; omega
    · split
      · rename_i e; rw [e] at ih; simp at ih ⊢; omega
      · simp
def okP (p : List UInt8) : Bool := decide (p = [47]) || ((p.head? == some 47) && decide (p.length ≤ 24) && (sp p.tail).all isNm)
def nmP (p : List UInt8) : List (List UInt8) := if p = [47] then [] else if okP p = true then sp p.tail else []
theorem NP.sl {xs : List (List UInt8)} (h : NP xs) : ∀ x ∈ xs, ∀ c ∈ x, c ≠ 47 := fun x hx => isNm_ne (h x hx)
theorem jn_ne {xs : List (List UInt8)} (h : NP xs) (hn : xs ≠ []) : jn xs ≠ [] := by
  intro e
  have := sp_jn hn h.sl
  rw [e] at this
  have h1 : ([] : List UInt8) ∈ xs := by rw [← this]; simp [sp]
  exact isNm_nil (h _ h1) rfl
theorem pth_ok {xs : List (List UInt8)} (h : NP xs) (hl : (pth xs).length ≤ 24) : okP (pth xs) = true := by
  unfold okP
  by_cases hn : xs = []
  · subst hn; rfl
  · have h1 : (pth xs).head? = some 47 := rfl
    have h2 : (pth xs).tail = jn xs := rfl
    rw [h1, h2, sp_jn hn h.sl]
    simp only [Bool.or_eq_true, Bool.and_eq_true, decide_eq_true_eq, List.all_eq_true]
    exact .inr ⟨⟨rfl, hl⟩, h⟩
theorem pth_nm {xs : List (List UInt8)} (h : NP xs) (hl : (pth xs).length ≤ 24) : nmP (pth xs) = xs := by
  unfold nmP
  by_cases hn : xs = []
  · subst hn; rfl
  · have h2 : (pth xs).tail = jn xs := rfl
    rw [if_neg (fun e => jn_ne h hn (by simpa [pth] using e)), if_pos (pth_ok h hl), h2, sp_jn hn h.sl]
theorem okP_pth {p : List UInt8} (h : okP p = true) : NP (nmP p) ∧ p = pth (nmP p) ∧ p.length ≤ 24 := by
  have h' := h
  unfold okP at h
  simp only [Bool.or_eq_true, Bool.and_eq_true, decide_eq_true_eq, List.all_eq_true] at h
  by_cases hp : p = [47]
  · subst hp; exact ⟨fun x hx => by simp [nmP] at hx, rfl, by decide⟩
  · obtain ⟨⟨h1, h2⟩, h3⟩ := h.resolve_left hp
    unfold nmP
    rw [if_neg hp, if_pos h']
    refine ⟨h3, ?_, h2⟩
    unfold pth
    rw [jn_sp]
    cases p with
    | nil => simp at h1
    | cons c p => simp at h1; subst h1; rfl
theorem nmP_bad {p : List UInt8} (h : okP p = false) : nmP p = [] := by
  unfold nmP
  split
  · rfl
  · rw [if_neg (by rw [h]; decide)]
theorem nmP_root : nmP [47] = [] := rfl
theorem nmP_ne {p : List UInt8} (h : okP p = true) (hr : p ≠ [47]) : nmP p ≠ [] := fun e => hr (by rw [(okP_pth h).2.1, e]; rfl)
theorem nmP_len (p : List UInt8) : (nmP p).length ≤ p.length + 1 := by
  unfold nmP
  split
  · simp
  · split
    · have := sp_len p.tail; simp at this; omega
    · simp
theorem jn_take {xs : List (List UInt8)} (i : Nat) : (jn (xs.take i)).length ≤ (jn xs).length := by
  by_cases h1 : xs.take i = []
  · rw [h1]; simp [jn_nil]
  · by_cases h2 : xs.drop i = []
    · rw [List.take_of_length_le (List.drop_eq_nil_iff.1 h2)]; exact Nat.le_refl _
    · have := jn_app _ _ h1 h2
      rw [List.take_append_drop] at this
      rw [this]; simp
theorem jn_nmP (p : List UInt8) : (jn (nmP p)).length ≤ p.length := by
  by_cases h : okP p = true
  · have := (okP_pth h).2.1
    have h2 := congrArg List.length this
    simp only [pth, List.length_cons] at h2
    omega
  · rw [nmP_bad (by simpa using h)]; simp [jn_nil]
end Go.Tri
namespace Go.Proofs.YtnagibpmfabkjaaGreatDoor
open Go.RowKit Go.Tri
theorem name_eq (x : List UInt8) (h : x.length ≤ 1000000) : m_path_Name x = some (isNm x) := by
  unfold m_path_Name
  rw [loop_fs x (fun c => if nmC c = true then none else some (.inr false)) (.inl ()) (fun i hi => ?_) ?_]
  · simp only [Option.bind_some]
    by_cases ha : x.all nmC = true
    · have : x.findSome? (fun c => if nmC c = true then none else some (Sum.inr false : Unit ⊕ Bool)) = none := by
        rw [List.findSome?_eq_none_iff]
        intro c hc
        rw [if_pos (List.all_eq_true.1 ha c hc)]
      rw [this]
      show (if x = [] then some false else some (decide ((x.length : Int) ≤ 8))) = _
      unfold isNm
      rw [ha]
      by_cases hx : x = []
      · simp [hx]
      · rw [if_neg hx]; simp [hx]; omega
    · have : x.findSome? (fun c => if nmC c = true then none else some (Sum.inr false : Unit ⊕ Bool)) = some (.inr false) := by
        have ha' : ¬ ∀ c ∈ x, nmC c = true := fun h => ha (List.all_eq_true.2 h)
        clear ha h
        induction x with
        | nil => exact (ha' (by simp)).elim
        | cons c x ih =>
          rw [List.findSome?_cons]
          by_cases hc : nmC c = true
          · rw [if_pos hc]
            exact ih fun h => ha' fun d hd => by
              rcases List.mem_cons.1 hd with rfl | hd
              · exact hc
              · exact h d hd
          · rw [if_neg hc]
      rw [this]
      show some false = _
      unfold isNm
      rw [show x.all nmC = false by simpa using ha]; rfl
  · rw [if_neg (by omega)]
  · rw [if_pos (by omega), idxO_get hi]
    simp only [Option.bind_some]
    unfold nmC
    by_cases h1 : (x[i].toNat : Int) < 33
    · rw [if_pos h1, if_neg (by simp; omega)]
    · rw [if_neg h1]
      by_cases h2 : 126 < (x[i].toNat : Int)
      · rw [if_pos h2, if_neg (by simp; omega)]
      · rw [if_neg h2]
        by_cases h3 : (x[i].toNat : Int) = 47
        · rw [if_pos h3, if_neg (by simp; omega)]
        · rw [if_neg h3, if_pos (by simp; omega), i64_id (by omega) (by omega)]
          rfl
theorem anyBad_eq (xs : List (List UInt8)) (hx : xs.length ≤ 1000000) (h : ∀ x ∈ xs, x.length ≤ 1000000) : anyBad xs = some (!xs.all isNm) := by
  unfold anyBad ixName
  have key : ∀ (i : Nat) (hi : i < xs.length), m_path_names_1 xs[i] = some (!isNm xs[i]) := fun i hi => by
    unfold m_path_names_1
    rw [name_eq _ (h _ (List.getElem_mem _))]; rfl
  refine (congrArg (fun o => Option.bind o _) (bind_run (t := if xs.all isNm = true then (-1 : Int) else ((xs.findIdx fun x => !isNm x : Nat) : Int)) (fun k (s : Int) => s = (k : Int) ∧ ∀ j (hj : j < xs.length), j < k → isNm xs[j] = true) (fun r => (r = .inl () ∧ xs.all isNm = true) ∨ (∃ k : Nat, r = .inr (k : Int) ∧ ∃ hk : k < xs.length, isNm xs[k] = false ∧ ∀ j (hj : j < xs.length), j < k → isNm xs[j] = true)) xs.length ⟨rfl, fun j hj hk => by omega⟩ ?_ ?_ ?_)).trans ?_
  · rintro i _ hi ⟨rfl, hne⟩
    simp only [key i hi, idxO_get hi, Option.bind_some]
    rw [if_pos (by omega)]
    by_cases hb : isNm xs[i] = true
    · rw [if_neg (by rw [hb]; decide), i64_id (by omega) (by omega)]
      exact .inl ⟨_, rfl, rfl, fun j hj hk => by
        by_cases e : j = i
        · subst e; exact hb
        · exact hne j hj (by omega)⟩
    · have hb : isNm xs[i] = false := by simpa using hb
      rw [if_pos (by rw [hb]; rfl)]
      exact .inr ⟨_, rfl, .inr ⟨i, rfl, hi, hb, hne⟩⟩
  · rintro _ ⟨rfl, hne⟩
    refine ⟨.inl (), by rw [if_neg (by omega)], .inl ⟨rfl, List.all_eq_true.2 fun x hx => ?_⟩⟩
    obtain ⟨j, hj, rfl⟩ := List.getElem_of_mem hx
    exact hne j hj hj
  · rintro _ (⟨rfl, h1⟩ | ⟨k, rfl, hk, hb, hne⟩)
    · rw [if_pos h1]; rfl
    · have hall : ¬ xs.all isNm = true := fun hh => by
        have := List.all_eq_true.1 hh _ (List.getElem_mem hk)
        rw [hb] at this; cases this
      have hf : xs.findIdx (fun x => !isNm x) = k := by
        rw [List.findIdx_eq hk]
        exact ⟨by simp [hb], fun j hj => by simp [hne j (by omega) hj]⟩
      rw [if_neg hall, hf]; rfl
  · simp only [Option.bind_some]
    by_cases ha : xs.all isNm = true
    · rw [if_pos ha, ha]; rfl
    · rw [if_neg ha, show xs.all isNm = false by simpa using ha]
      simp
theorem sp_lens (r : List UInt8) : ∀ x ∈ sp r, x.length ≤ r.length := by
  induction r with
  | nil => intro x hx; simp [sp] at hx; simp [hx]
  | cons c r ih =>
    intro x hx
    simp only [sp] at hx
    split at hx
    · rcases List.mem_cons.1 hx with rfl | hx
      · simp
      · have := ih x hx; simp; omega
    · split at hx
      · rename_i h t e
        rw [e] at ih
        rcases List.mem_cons.1 hx with rfl | hx
        · have := ih h List.mem_cons_self; simp; omega
        · have := ih x (List.mem_cons_of_mem _ hx); simp; omega
      · simp at hx; simp [hx]
theorem names_eq (p : List UInt8) (h : p.length ≤ 100000) : pNames p = some (nmP p, okP p) := by
  unfold pNames
  by_cases hr : p = [47]
  · rw [if_pos hr, hr]; rfl
  rw [if_neg hr]
  have hcut : cutPre p [47] = some (if p.head? = some 47 then p.tail else p, decide (p.head? = some 47)) := by
    unfold cutPre Lib.trimPrefix Lib.hasPrefix
    cases p with
    | nil => rfl
    | cons c p =>
      by_cases hc : c = 47
      · subst hc; simp [List.isPrefixOf]
      · have : ([47] : List UInt8).isPrefixOf (c :: p) = false := by simp [List.isPrefixOf, Ne.symm hc]
        rw [this]; simp [hc]
  rw [hcut]
  simp only [Option.bind_some]
  generalize hq : (if p.head? = some 47 then p.tail else p) = q
  have hql : q.length ≤ p.length := by
    rw [← hq]; split
    · simp
    · exact Nat.le_refl _
  have hsplit : strSplit q [47] = some (sp q) := by
    unfold strSplit genSplit splitO
    rw [if_pos ⟨rfl, rfl, rfl, by omega⟩]; rfl
  rw [hsplit]
  simp only [Option.bind_some]
  by_cases h1 : p.head? = some 47
  · rw [if_pos h1] at hq
    subst hq
    rw [if_neg (by simp [h1])]
    by_cases h2 : 24 < (p.length : Int)
    · rw [if_pos h2]
      have hk : okP p = false := by
        unfold okP
        rw [decide_eq_false hr, decide_eq_false (show ¬ p.length ≤ 24 by omega)]; simp
      rw [nmP_bad hk, hk]
    · rw [if_neg h2, anyBad_eq _ (by have := sp_len p.tail; omega) fun x hx => by have := sp_lens _ x hx; omega]
      simp only [Option.bind_some]
      have hk : okP p = (sp p.tail).all isNm := by
        unfold okP
        rw [decide_eq_false hr, decide_eq_true (show p.length ≤ 24 by omega), h1]; simp
      by_cases h3 : (sp p.tail).all isNm = true
      · rw [h3] at hk
        rw [if_neg (by rw [h3]; decide)]
        unfold nmP
        rw [if_neg hr, if_pos hk, hk]
      · have h3' : (sp p.tail).all isNm = false := by simpa using h3
        rw [h3'] at hk
        rw [if_pos (by rw [h3']; rfl), nmP_bad hk, hk]
  · have hk : okP p = false := by
      unfold okP
      rw [decide_eq_false hr]
      simp [h1]
    rw [if_pos (by simp [h1]), nmP_bad hk, hk]
theorem check_eq (p : List UInt8) (h : p.length ≤ 100000) : m_path_Check p = some (if okP p = true then 0 else 90) := by
  unfold m_path_Check
  rw [names_eq p h]
  simp only [Option.bind_some]
  cases okP p <;> rfl
theorem join_eq (xs : List (List UInt8)) (h1 : xs.length ≤ 100000) (h2 : (jn xs).length ≤ 100000) : m_path_join xs = some (pth xs) := by
  unfold m_path_join strJoin joinO
  rw [if_pos ⟨rfl, h1, h2⟩]
  simp only [Option.bind_some]
  rw [appO_byte (by simp; omega)]; rfl
/-- The path above. -/
def par (p : List UInt8) : List UInt8 := if nmP p = [] then [] else pth (nmP p).dropLast
def bas (p : List UInt8) : List UInt8 := (nmP p).getLast?.getD []
theorem parent_eq (p : List UInt8) (h : p.length ≤ 90000) : m_path_Parent p = some (par p) := by
  unfold m_path_Parent par
  rw [names_eq p (by omega)]
  simp only [Option.bind_some]
  have hl := nmP_len p
  have hj := jn_nmP p
  by_cases h0 : nmP p = []
  · rw [if_pos (by rw [h0]; rfl), if_pos h0]
  · have hp : 0 < (nmP p).length := List.length_pos_iff.2 h0
    rw [if_neg (by omega), if_neg h0, i64_id (by omega) (by omega)]
    rw [show ((nmP p).length : Int) - 1 = (((nmP p).length - 1 : Nat) : Int) by omega, show (0 : Int) = ((0 : Nat) : Int) from rfl, slcO_of (Nat.zero_le _) (by omega)]
    simp only [Option.bind_some, List.drop_zero]
    have ht : (nmP p).take ((nmP p).length - 1) = (nmP p).dropLast := by rw [List.dropLast_eq_take]
    have := jn_take (xs := nmP p) ((nmP p).length - 1)
    rw [ht] at this ⊢
    rw [join_eq _ (by simp; omega) (by omega)]; rfl
theorem base_eq (p : List UInt8) (h : p.length ≤ 90000) : m_path_Base p = some (bas p) := by
  unfold m_path_Base bas
  rw [names_eq p (by omega)]
  simp only [Option.bind_some]
  have hl := nmP_len p
  by_cases h0 : nmP p = []
  · rw [if_pos (by rw [h0]; rfl), h0]; rfl
  · have hp : 0 < (nmP p).length := List.length_pos_iff.2 h0
    rw [if_neg (by omega), i64_id (by omega) (by omega), show ((nmP p).length : Int) - 1 = (((nmP p).length - 1 : Nat) : Int) by omega, idxO_get (by omega)]
    simp only [Option.bind_some]
    rw [List.getLast?_eq_getElem?, List.getElem?_eq_getElem (by omega)]; rfl
theorem equalT_eq (x y : List (List UInt8)) (hx : x.length ≤ 1000000) : m_slices_Equal___string_string_ x y = some (decide (x = y)) := by
  unfold m_slices_Equal___string_string_
  by_cases hl : (x.length : Int) = (y.length : Int)
  · rw [if_pos hl]
    refine bind_run (fun k (s : Int) => s = (k : Int) ∧ ∀ j, j < k → x.getD j [] = y.getD j []) (fun r => (r = .inl () ∧ x = y) ∨ (r = .inr false ∧ x ≠ y)) x.length ⟨rfl, fun j hj => by omega⟩ ?_ ?_ ?_
    · rintro k _ hk ⟨rfl, hne⟩
      rw [if_pos (by omega), idxO_getD [] rfl hk, idxO_getD [] rfl (show k < y.length by omega)]
      simp only [Option.bind_some]
      by_cases e : x.getD k [] = y.getD k []
      · rw [if_pos e, i64_id (by omega) (by omega)]
        exact .inl ⟨_, rfl, rfl, fun j hj => by
          by_cases ej : j = k
          · subst ej; exact e
          · exact hne j (by omega)⟩
      · rw [if_neg e]
        exact .inr ⟨_, rfl, .inr ⟨rfl, fun h => e (by rw [h])⟩⟩
    · rintro _ ⟨rfl, hne⟩
      refine ⟨.inl (), ?_, .inl ⟨rfl, List.ext_getElem (by omega) fun j h1 h2 => ?_⟩⟩
      · rw [if_neg (by omega)]
      · have := hne j h1
        simpa [List.getD_eq_getElem?_getD, List.getElem?_eq_getElem h1, List.getElem?_eq_getElem h2] using this
    · rintro _ (⟨rfl, h1⟩ | ⟨rfl, h1⟩)
      · simp [h1]
      · simp [h1]
  · rw [if_neg hl, decide_eq_false fun h => hl (by rw [h])]
def wthn (p q : List UInt8) : Bool := okP p && okP q && decide (nmP p <+: nmP q)
theorem within_eq (p q : List UInt8) (hp : p.length ≤ 90000) (hq : q.length ≤ 90000) : m_path_Within p q = some (wthn p q) := by
  unfold m_path_Within wthn
  rw [names_eq p (by omega), names_eq q (by omega)]
  simp only [Option.bind_some]
  have hl := nmP_len p
  cases okP p with
  | false => rfl
  | true =>
    cases okP q with
    | false => rfl
    | true =>
      rw [if_pos rfl, if_pos rfl]
      by_cases hle : ((nmP p).length : Int) ≤ ((nmP q).length : Int)
      · rw [if_pos hle, show (0 : Int) = ((0 : Nat) : Int) from rfl, slcO_of (Nat.zero_le _) (by omega)]
        simp only [Option.bind_some, List.drop_zero]
        rw [equalT_eq _ _ (by omega)]
        simp only [Option.bind_some, Bool.true_and]
        congr 1
        rw [decide_eq_decide]
        constructor
        · intro h; rw [h]; exact List.take_prefix _ _
        · intro h; exact List.prefix_iff_eq_take.1 h
      · rw [if_neg hle]
        congr 1
        symm
        simp only [Bool.true_and, decide_eq_false_iff_not]
        intro h
        have := h.length_le
        omega
theorem anc_eq (p : List UInt8) (h : p.length ≤ 90000) : m_path_Ancestors p = some ((List.range (nmP p).length).map fun i => pth ((nmP p).take i)) := by
  unfold m_path_Ancestors
  rw [names_eq p (by omega)]
  simp only [Option.bind_some]
  have hl := nmP_len p
  have hj := jn_nmP p
  have key := loop_for0 (σ := List (List UInt8)) (ρ := List (List UInt8)) (f := (fun (s47 : (List (List UInt8)) × Int) => if s47.2 < (((nmP p, okP p).1).length : Int) then ((slcO (nmP p, okP p).1 0 s47.2).bind fun x51 =>
(m_path_join x51).bind fun x52 =>
(appO s47.1 ([x52])).bind fun x55 =>
some (.inl (x55, IntKind.i64.wrap (s47.2 + 1))))
 else (some (.inr s47.1)))) (fun i s => s ++ [pth ((nmP p).take i)]) id (nmP p).length (fun i s => s = (List.range i).map fun j => pth ((nmP p).take j)) (fun i s hi hs => ?_) (fun s hs => ?_) (s0 := []) rfl
  · rw [key.1]
    simp only [Option.bind_some, id]
    rw [key.2]
  · have ht := jn_take (xs := nmP p) i
    refine ⟨?_, by rw [hs, List.range_succ, List.map_append]; rfl⟩
    show (if (i : Int) < ((nmP p).length : Int) then _ else _) = _
    rw [if_pos (by omega), show (0 : Int) = ((0 : Nat) : Int) from rfl, slcO_of (Nat.zero_le _) (by show i ≤ (nmP p).length; omega)]
    simp only [Option.bind_some, List.drop_zero]
    rw [join_eq _ (by simp; omega) (by omega)]
    simp only [Option.bind_some]
    rw [appO_of (by rw [hs]; simp; omega)]
    simp only [Option.bind_some]
    rw [i64_id (by omega) (by omega)]; rfl
  · show (if ((nmP p).length : Int) < ((nmP p).length : Int) then _ else _) = _
    rw [if_neg (by omega)]; rfl
end Go.Proofs.YtnagibpmfabkjaaGreatDoor
