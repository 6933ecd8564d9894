/- Paths and their names, in plain terms. -/
import Derived.Test.YtodggokkklfopaaDoorPatE
set_option linter.unusedSimpArgs false
set_option linter.unusedVariables false
namespace Go.Proofs.YtodggokkklfopaaDoor
open Go.ChangeShapes Go.WideShapes Go.ChangeAt Go.RowKit Go.Tri
theorem sp_ne (l : List UInt8) : sp l ≠ [] := by
  cases l with
  | nil => simp [sp]
  | cons c r =>
    simp only [sp]
    split
    · simp
    · split <;> simp
theorem sp_app : ∀ a b : List UInt8, sp (a ++ 47 :: b) = sp a ++ sp b
  | [], b => by simp [sp]
  | c :: r, b => by
    have ih := sp_app r b
    simp only [List.cons_append, sp]
    split
    · rw [ih]; rfl
    · rw [ih]
      cases e : sp r with
      | nil => exact absurd e (sp_ne r)
      | cons h t => simp
theorem jn_sp : ∀ l : List UInt8, jn (sp l) = l
  | [] => rfl
  | c :: r => by
    have ih := jn_sp r
    simp only [sp]
    split
    · rename_i h
      cases e : sp r with
      | nil => exact absurd e (sp_ne r)
      | cons x t => rw [jn_cons, ← e, ih, h]; rfl
    · cases e : sp r with
      | nil => exact absurd e (sp_ne r)
      | cons x t =>
        rw [e] at ih
        cases t with
        | nil => rw [jn_one] at ih; simp only [jn_one, ih]
        | cons y t => rw [jn_cons] at ih; simp only [jn_cons]; rw [← ih]; rfl
theorem jn_app {xs ys : List (List UInt8)} (hx : xs ≠ []) (hy : ys ≠ []) : jn (xs ++ ys) = jn xs ++ 47 :: jn ys := by
  induction xs with
  | nil => exact absurd rfl hx
  | cons x r ih =>
    cases r with
    | nil =>
      cases ys with
      | nil => exact absurd rfl hy
      | cons y t => rw [jn_one]; simp only [List.cons_append, List.nil_append]; rw [jn_cons]
    | cons z r => simp only [List.cons_append] at ih ⊢; rw [jn_cons, ih (by simp), jn_cons]; simp
theorem name_slash {x : List UInt8} (h : nameB x = true) : ∀ c ∈ x, c ≠ 47 := by
  intro c hc e
  simp only [nameB, Bool.and_eq_true, List.all_eq_true] at h
  have := h.2 c hc
  subst e; exact absurd this (by decide)
theorem name_ne {x : List UInt8} (h : nameB x = true) : x ≠ [] := by
  intro e; subst e; exact absurd h (by decide)
theorem sp_jn : ∀ {xs : List (List UInt8)}, xs ≠ [] → xs.all nameB = true → sp (jn xs) = xs
  | [], h, _ => absurd rfl h
  | [x], _, h => by rw [jn_one]; exact sp_noslash (name_slash (by simpa using h))
  | x :: y :: r, _, h => by
    simp only [List.all_cons, Bool.and_eq_true] at h
    rw [jn_cons, sp_slash _ (name_slash h.1), sp_jn (by simp) (by simp [h.2])]
theorem pfx_iff (l : List UInt8) : Lib.hasPrefix l [47] = true ↔ ∃ r, l = 47 :: r := by
  cases l with
  | nil => simp [Lib.hasPrefix, List.isPrefixOf]
  | cons a r => simp [Lib.hasPrefix, List.isPrefixOf]; exact eq_comm
theorem trim_cons (r : List UInt8) : Lib.trimPrefix (47 :: r) [47] = r := by
  have : Lib.hasPrefix (47 :: r) [47] = true := (pfx_iff _).2 ⟨r, rfl⟩
  simp [Lib.trimPrefix, this]
/-- A path's two forms. -/
theorem ok_form {l : List UInt8} (h : okP l = true) : (l = [47] ∧ pns l = []) ∨ (∃ r, l = 47 :: r ∧ r ≠ [] ∧ l.length ≤ 24 ∧ pns l = sp r ∧ (sp r).all nameB = true) := by
  by_cases h1 : l = [47]
  · exact .inl ⟨h1, by simp [pns, h1]⟩
  · refine .inr ?_
    have h2 := h
    unfold okP at h2
    rw [decide_eq_false h1, Bool.false_or, Bool.and_eq_true, Bool.and_eq_true, pfx_iff, decide_eq_true_eq] at h2
    obtain ⟨⟨⟨r, e⟩, h3⟩, h4⟩ := h2
    have hp : pns l = sp r := by unfold pns; rw [if_pos h, if_neg h1, e, trim_cons]
    rw [e, trim_cons] at h4
    exact ⟨r, e, fun h0 => h1 (by rw [e, h0]), h3, hp, h4⟩
theorem ok_mk {r : List UInt8} (h : (47 :: r).length ≤ 24) (ha : (sp r).all nameB = true) : okP (47 :: r) = true ∧ pns (47 :: r) = sp r := by
  have hr : r ≠ [] := by intro e; subst e; exact absurd ha (by decide)
  have h1 : (47 :: r) ≠ [47] := by simpa using hr
  have ho : okP (47 :: r) = true := by
    unfold okP
    rw [decide_eq_false h1, Bool.false_or, (pfx_iff _).2 ⟨r, rfl⟩, trim_cons, ha, decide_eq_true h]; rfl
  exact ⟨ho, by unfold pns; rw [if_pos ho, if_neg h1, trim_cons]⟩
theorem ok_names {l : List UInt8} (h : okP l = true) : (pns l).all nameB = true := by
  rcases ok_form h with ⟨_, h2⟩ | ⟨r, _, _, _, h2, h3⟩
  · rw [h2]; rfl
  · rw [h2]; exact h3
theorem ok_pth {l : List UInt8} (h : okP l = true) : pth (pns l) = l := by
  rcases ok_form h with ⟨h1, h2⟩ | ⟨r, h1, _, _, h2, h3⟩
  · rw [h2, h1]; rfl
  · rw [h2, pth, jn_sp, h1]; rfl
theorem ok_len {l : List UInt8} (h : okP l = true) : l.length ≤ 24 := by
  rcases ok_form h with ⟨h1, h2⟩ | ⟨r, h1, _, h4, h2, h3⟩
  · rw [h1]; decide
  · exact h4
theorem pth_ok {xs : List (List UInt8)} (ha : xs.all nameB = true) (hl : (pth xs).length ≤ 24) : okP (pth xs) = true ∧ pns (pth xs) = xs := by
  cases xs with
  | nil => exact ⟨by decide, by decide⟩
  | cons x r =>
    have e : sp (jn (x :: r)) = x :: r := sp_jn (by simp) ha
    have := ok_mk (r := jn (x :: r)) hl (by rw [e]; exact ha)
    rw [e] at this
    exact this
theorem jn_len : ∀ xs : List (List UInt8), xs ≠ [] → (jn xs).length + 1 = tot xs
  | [], h => absurd rfl h
  | [x], _ => by simp [jn_one, tot]
  | x :: y :: r, _ => by
    have := jn_len (y :: r) (by simp)
    rw [jn_cons]
    simp only [tot, List.map_cons, List.sum_cons, List.length_append, List.length_cons] at *
    omega
theorem pth_take_len {xs : List (List UInt8)} (k : Nat) (h : (pth xs).length ≤ 24) : (pth (xs.take k)).length ≤ 24 := by
  cases e : xs.take k with
  | nil => decide
  | cons y r =>
    have hx : xs ≠ [] := by intro h0; rw [h0] at e; simp at e
    have h1 := jn_len (y :: r) (by simp)
    have h2 := jn_len xs hx
    have h3 := tot_take xs k
    rw [e] at h3
    simp only [pth, List.length_append, List.length_cons, List.length_nil] at h ⊢
    omega
theorem all_take {xs : List (List UInt8)} (k : Nat) (h : xs.all nameB = true) : (xs.take k).all nameB = true := by
  rw [List.all_eq_true] at h ⊢
  exact fun x hx => h x (List.mem_of_mem_take hx)
/-- The paths above a path are paths. -/
theorem up_ok {l : List UInt8} (h : okP l = true) (k : Nat) : okP (pth ((pns l).take k)) = true ∧ pns (pth ((pns l).take k)) = (pns l).take k :=
  pth_ok (all_take k (ok_names h)) (pth_take_len k (by rw [ok_pth h]; exact ok_len h))
theorem pns_ne {l : List UInt8} (h : okP l = true) (h1 : l ≠ [47]) : pns l ≠ [] := by
  rcases ok_form h with ⟨h2, _⟩ | ⟨r, _, _, _, h2, _⟩
  · exact absurd h2 h1
  · rw [h2]; exact sp_ne r
theorem ok_root {l : List UInt8} (h : okP l = true) (h1 : pns l = []) : l = [47] := by
  by_cases h2 : l = [47]
  · exact h2
  · exact absurd h1 (pns_ne h h2)
def flt (xs : List (List UInt8)) : List UInt8 := xs.flatMap fun x => [47] ++ x
theorem flt_pth : ∀ xs : List (List UInt8), xs ≠ [] → flt xs = pth xs
  | [], h => absurd rfl h
  | [x], _ => by simp [flt, pth, jn_one]
  | x :: y :: r, _ => by
    have ih := flt_pth (y :: r) (by simp)
    have e : flt (x :: y :: r) = [47] ++ x ++ flt (y :: r) := by simp [flt]
    rw [e, ih, pth, pth, jn_cons]; simp
theorem flt_succ {xs : List (List UInt8)} {k : Nat} {x : List UInt8} (h : xs[k]? = some x) : flt (xs.take (k + 1)) = flt (xs.take k) ++ ([47] ++ x) := by
  rw [List.take_add_one, h]; simp [flt]
theorem flt_len (xs : List (List UInt8)) : (flt xs).length = tot xs := by
  induction xs with
  | nil => rfl
  | cons x r ih =>
    have e : flt (x :: r) = [47] ++ x ++ flt r := by simp [flt]
    rw [e]; simp [ih, tot]; omega
theorem tot_mem {xs : List (List UInt8)} {x : List UInt8} (h : x ∈ xs) : x.length ≤ tot xs := by
  induction xs with
  | nil => cases h
  | cons y r ih =>
    rw [List.mem_cons] at h
    simp only [tot, List.map_cons, List.sum_cons] at *
    rcases h with rfl | h
    · omega
    · have := ih h; omega
/-- The document's Within. -/
def rwth (l m : List UInt8) : Bool := okP l && okP m && (decide (l = [47]) || decide (l = m) || (decide (l.length < m.length) && decide (m.take l.length = l) && decide (m[l.length]? = some 47)))
theorem rwth_eq (l m : List UInt8) : rwth l m = wthP l m := by
  unfold rwth wthP
  cases ho : okP l with
  | false => rfl
  | true =>
    cases hm : okP m with
    | false => rfl
    | true =>
      simp only [Bool.true_and]
      rw [Bool.eq_iff_iff]
      simp only [Bool.or_eq_true, Bool.and_eq_true, decide_eq_true_eq]
      constructor
      · rintro ((h | h) | ⟨⟨h1, h2⟩, h3⟩)
        · have : pns l = [] := by rw [h]; decide
          simp [this]
        · subst h; simp
        · obtain ⟨t, e⟩ : ∃ t, m = l ++ 47 :: t := by
            refine ⟨m.drop (l.length + 1), ?_⟩
            obtain ⟨h4, h5⟩ := List.getElem?_eq_some_iff.1 h3
            conv => lhs; rw [← List.take_append_drop l.length m]
            rw [h2, List.drop_eq_getElem_cons h4, h5]
          rcases ok_form ho with ⟨h6, h7⟩ | ⟨r, h6, _, _, h7, _⟩
          · simp [h7]
          · have e2 : m = 47 :: (r ++ 47 :: t) := by rw [e, h6]; rfl
            have h8 : pns m = sp r ++ sp t := by
              rcases ok_form hm with ⟨h9, _⟩ | ⟨r2, h9, _, _, h10, _⟩
              · rw [e2] at h9; simp at h9
              · rw [e2] at h9; cases h9; rw [h10, sp_app]
            rw [h7, h8]; simp
      · rintro ⟨h1, h2⟩
        by_cases hz : pns l = []
        · exact .inl (.inl (ok_root ho hz))
        · obtain ⟨zs, hzs⟩ : ∃ zs, pns m = pns l ++ zs := ⟨(pns m).drop (pns l).length, by
            conv => rhs; lhs; rw [h2]
            rw [List.take_append_drop]⟩
          by_cases hz2 : zs = []
          · rw [hz2, List.append_nil] at hzs
            exact .inl (.inr (by rw [← ok_pth ho, ← ok_pth hm, hzs]))
          · have e : m = l ++ 47 :: jn zs := by
              rw [← ok_pth hm, hzs, pth, jn_app hz hz2]
              conv => rhs; lhs; rw [← ok_pth ho, pth]
              simp
            exact .inr ⟨⟨by rw [e]; simp, by rw [e]; simp⟩, by rw [e]; simp⟩
theorem wth_trans {l m n : List UInt8} (h1 : wthP l m = true) (h2 : wthP m n = true) : wthP l n = true := by
  simp only [wthP, Bool.and_eq_true, decide_eq_true_eq] at *
  obtain ⟨⟨⟨a1, a2⟩, a3⟩, a4⟩ := h1
  obtain ⟨⟨⟨b1, b2⟩, b3⟩, b4⟩ := h2
  refine ⟨⟨⟨a1, b2⟩, by omega⟩, ?_⟩
  rw [a4] at *
  rw [b4] at a4 ⊢
  rw [List.take_take] at a4 ⊢
  simp only [List.length_take] at a3 b3 a4 ⊢
  congr 1
  omega
theorem wth_self (l : List UInt8) : wthP l l = okP l := by
  unfold wthP
  cases okP l <;> simp
theorem wth_up {l : List UInt8} (h : okP l = true) {k : Nat} (hk : k < (pns l).length) : wthP (pth ((pns l).take k)) l = true ∧ wthP l (pth ((pns l).take k)) = false := by
  obtain ⟨h1, h2⟩ := up_ok h k
  unfold wthP
  rw [h, h1, h2]
  constructor
  · simp [List.length_take]; omega
  · simp [List.length_take]; omega
theorem bas_form {l : List UInt8} (h : pns l ≠ []) : ∃ b, basP l = b ∧ pns l = (pns l).take ((pns l).length - 1) ++ [b] ∧ b ∈ pns l := by
  have hl : 0 < (pns l).length := List.length_pos_iff.2 h
  obtain ⟨b, hb⟩ : ∃ b, (pns l)[(pns l).length - 1]? = some b := ⟨_, List.getElem?_eq_getElem (by omega)⟩
  refine ⟨b, by simp [basP, hb], ?_, List.mem_of_getElem? hb⟩
  have h1 : (pns l).take ((pns l).length - 1 + 1) = pns l := by rw [Nat.sub_add_cancel hl, List.take_length]
  conv => lhs; rw [← h1, List.take_add_one, hb]
  rfl
theorem bas_name {l : List UInt8} (h : okP l = true) (h1 : l ≠ [47]) : nameB (basP l) = true := by
  obtain ⟨b, e, _, hb⟩ := bas_form (pns_ne h h1)
  have := ok_names h
  rw [List.all_eq_true] at this
  rw [e]; exact this b hb
theorem again_root {l : List UInt8} (h : okP l = true) (h1 : l ≠ [47]) (h2 : parP l = [47]) : [47] ++ basP l = l := by
  obtain ⟨b, e, h3, hb⟩ := bas_form (pns_ne h h1)
  rw [parP_some (pns_ne h h1)] at h2
  have h4 : (pns l).take ((pns l).length - 1) = [] := by
    obtain ⟨_, h5⟩ := up_ok h ((pns l).length - 1)
    rw [h2] at h5
    rw [← h5]; decide
  rw [h4, List.nil_append] at h3
  conv => rhs; rw [← ok_pth h, h3, pth, jn_one]
  rw [e]
theorem again_deep {l : List UInt8} (h : okP l = true) (h1 : l ≠ [47]) (h2 : parP l ≠ [47]) : (parP l ++ [47]) ++ basP l = l := by
  obtain ⟨b, e, h3, hb⟩ := bas_form (pns_ne h h1)
  rw [parP_some (pns_ne h h1)] at h2 ⊢
  have h4 : (pns l).take ((pns l).length - 1) ≠ [] := by
    intro h5; rw [h5] at h2; exact h2 rfl
  conv => rhs; rw [← ok_pth h, h3, pth, jn_app h4 (by simp), jn_one]
  rw [e, pth]; simp
theorem par_len {l : List UInt8} (h : okP l = true) : (parP l).length ≤ 24 := by
  unfold parP
  split
  · decide
  · exact ok_len (up_ok h _).1
theorem bas_len {l : List UInt8} (h : okP l = true) (h1 : l ≠ [47]) : (basP l).length ≤ 8 := by
  have := bas_name h h1
  simp only [nameB, Bool.and_eq_true, decide_eq_true_eq] at this
  omega
theorem anc_get {l : List UInt8} {n k : Nat} {x : List UInt8} (h : (anc l n)[k]? = some x) : x = pth ((pns l).take k) ∧ k < n := by
  obtain ⟨h1, h2⟩ := List.getElem?_eq_some_iff.1 h
  simp [anc] at h1 h2
  exact ⟨h2.symm, h1⟩
/-- A path with a text behind it. -/
def JQ (l m q : List UInt8) : Prop := okP l = true ∧ ((l = [47] ∧ q = [47] ++ m) ∨ (l ≠ [47] ∧ q = (l ++ [47]) ++ m))
theorem JQ.form {l m q : List UInt8} (h : JQ l m q) (hm : m ≠ []) : ∃ r, q = 47 :: r ∧ r ≠ [] ∧ sp r = pns l ++ sp m := by
  obtain ⟨ho, ⟨e, hq⟩ | ⟨e, hq⟩⟩ := h
  · exact ⟨m, hq, hm, by rw [e]; rfl⟩
  · rcases ok_form ho with ⟨h6, h7⟩ | ⟨r, h6, _, _, h7, _⟩
    · exact absurd h6 e
    · refine ⟨r ++ 47 :: m, by rw [hq, h6]; simp, by simp, ?_⟩
      rw [sp_app, h7]
theorem JQ.ok {l m q : List UInt8} (h : JQ l m q) (hm : m ≠ []) (ho : okP q = true) : pns q = pns l ++ sp m ∧ (sp m).all nameB = true := by
  obtain ⟨r, e, hr, hs⟩ := h.form hm
  rcases ok_form ho with ⟨h6, _⟩ | ⟨r2, h6, _, _, h7, h8⟩
  · rw [e] at h6; simp at h6; exact absurd h6 hr
  · rw [e] at h6; cases h6
    rw [hs] at h7 h8
    rw [List.all_append, Bool.and_eq_true] at h8
    exact ⟨h7, h8.2⟩
theorem JQ.mk {l m q : List UInt8} (h : JQ l m q) (hm : nameB m = true) (hl : q.length ≤ 24) : okP q = true ∧ pns q = pns l ++ [m] := by
  obtain ⟨r, e, hr, hs⟩ := h.form (name_ne hm)
  rw [sp_noslash (name_slash hm)] at hs
  have := ok_mk (r := r) (by rw [← e]; exact hl) (by rw [hs, List.all_append, ok_names h.1]; simp [hm])
  rw [hs, ← e] at this
  exact this
theorem JQ.long {l m q : List UInt8} (h : JQ l m q) (hl : 24 < q.length) : okP q = false := by
  cases e : okP q with
  | false => rfl
  | true => have := ok_len e; omega
theorem JQ.empty {l q : List UInt8} (h : JQ l [] q) : okP q = decide (l = [47]) := by
  obtain ⟨ho, ⟨e, hq⟩ | ⟨e, hq⟩⟩ := h
  · rw [hq, e]; decide
  · rw [decide_eq_false e]
    cases hk : okP q with
    | false => rfl
    | true =>
      exfalso
      rcases ok_form ho with ⟨h6, h7⟩ | ⟨r, h6, _, _, h7, _⟩
      · exact e h6
      · rcases ok_form hk with ⟨h8, _⟩ | ⟨r2, h8, _, _, _, h9⟩
        · rw [hq, h6] at h8; simp at h8
        · have : r2 = r ++ 47 :: [] := by rw [hq, h6] at h8; simp at h8; exact h8.symm
          rw [this, sp_app] at h9
          simp [sp] at h9
          exact absurd h9.2 (by decide)
theorem JQ.more {l m q : List UInt8} (h : JQ l m q) (hm : m ≠ []) (hn : nameB m = false) (ho : okP q = true) : (pns l).length + 1 < (pns q).length := by
  obtain ⟨h1, h2⟩ := h.ok hm ho
  rw [h1, List.length_append]
  cases e : sp m with
  | nil => exact absurd e (sp_ne m)
  | cons x t =>
    cases t with
    | nil =>
      have h3 := jn_sp m
      rw [e, jn_one] at h3
      rw [e] at h2
      simp [h3, hn] at h2
    | cons y t => simp
theorem JQ.par {l m q : List UInt8} (h : JQ l m q) (hm : nameB m = true) (hl : q.length ≤ 24) : parP q = l ∧ basP q = m ∧ wthP l q = true ∧ (pns q).length = (pns l).length + 1 := by
  obtain ⟨h1, h2⟩ := h.mk hm hl
  refine ⟨?_, ?_, ?_, ?_⟩
  · rw [parP_some (by rw [h2]; simp), h2]
    simp
    exact ok_pth h.1
  · simp [basP, h2]
  · unfold wthP; rw [h.1, h1, h2]; simp
  · rw [h2]; simp
end Go.Proofs.YtodggokkklfopaaDoor
