/- The plain law of Choose: what is chosen does not hang on the order of the votes, and none that counts is above it. -/
import Derived.Test.YtoohllmhlbgamaaVoteE
set_option linter.unusedSimpArgs false
set_option linter.unusedVariables false
namespace Go.Proofs.Ytoohllmhlbgamaa
open Go.Tri

/-- x goes ahead of y. -/
def Abv (x y : Vote) : Prop := y.normal < x.normal ∨ x.normal = y.normal ∧ (y.gen < x.gen ∨ x.gen = y.gen ∧ (0 < Lib.compareBytes x.head y.head ∨ x.head = y.head ∧ (x.node < y.node ∨ x.node = y.node ∧ y.commit < x.commit)))
theorem abv_iff (x y : Vote) : 0 < betterI x y ↔ Abv x y := by
  have h := above_better x y
  have h' : 0 < betterI x y ↔ aboveB x y = true := by rw [h]; simp
  rw [h']
  unfold aboveB Abv
  by_cases h2 : x.normal = y.normal
  · rw [if_neg (by simp [h2])]
    by_cases h3 : x.gen = y.gen
    · rw [if_neg (by simp [h3])]
      by_cases h5 : x.head = y.head
      · rw [if_neg (by simp [h5])]
        by_cases h0 : x.node = y.node
        · rw [if_neg (by simp [h0])]; simp [h2, h3, h5, h0, compare_self]
        · rw [if_pos h0]; simp [h2, h3, h5, h0, compare_self]
      · rw [if_pos h5]; simp [h2, h3, h5, compare_sym]
    · rw [if_pos h3]; simp [h2, h3]
  · rw [if_pos h2]; simp [h2]
theorem lexTrans {a1 a2 a3 e1 e2 e3 b1 b2 b3 : Prop} (hll : a1 → a2 → a3) (hle : a1 → e2 → a3) (hel : e1 → a2 → a3) (hee : e1 → e2 → e3) (ht : b1 → b2 → b3) : (a1 ∨ e1 ∧ b1) → (a2 ∨ e2 ∧ b2) → (a3 ∨ e3 ∧ b3) := by
  rintro (h | ⟨h, k⟩) (h' | ⟨h', k'⟩)
  · exact .inl (hll h h')
  · exact .inl (hle h h')
  · exact .inl (hel h h')
  · exact .inr ⟨hee h h', ht k k'⟩
theorem compare_trans : ∀ a b c : List UInt8, 0 < Lib.compareBytes a b → 0 < Lib.compareBytes b c → 0 < Lib.compareBytes a c
  | [], [], _, h, _ => by simp [Lib.compareBytes] at h
  | [], _ :: _, _, h, _ => by simp [Lib.compareBytes] at h
  | _ :: _, [], [], _, h => by simp [Lib.compareBytes] at h
  | _ :: _, [], _ :: _, _, h => by simp [Lib.compareBytes] at h
  | _ :: _, _ :: _, [], _, _ => by simp [Lib.compareBytes]
  | x :: a, y :: b, z :: c, h, h' => by
    unfold Lib.compareBytes at h h' ⊢
    simp only [UInt8.lt_iff_toNat_lt] at h h' ⊢
    by_cases h1 : x.toNat < y.toNat
    · simp [h1] at h
    · by_cases h2 : y.toNat < z.toNat
      · simp [h2] at h'
      · rw [if_neg h1] at h; rw [if_neg h2] at h'
        by_cases h3 : y.toNat < x.toNat
        · rw [if_neg (by omega), if_pos (by omega)]; decide
        · by_cases h4 : z.toNat < y.toNat
          · rw [if_neg (by omega), if_pos (by omega)]; decide
          · rw [if_neg h3] at h; rw [if_neg h4] at h'
            rw [if_neg (by omega), if_neg (by omega)]
            exact compare_trans a b c h h'
theorem Abv.trans {x y z : Vote} : Abv x y → Abv y z → Abv x z := by
  unfold Abv
  refine lexTrans (by omega) (by omega) (by omega) (by omega) (lexTrans (by omega) (by omega) (by omega) (by omega) (lexTrans (compare_trans _ _ _) (fun h e => e ▸ h) (fun e h => e ▸ h) (fun e e' => e.trans e') (lexTrans (by omega) (by omega) (by omega) (by omega) (by omega))))
theorem Abv.irrefl (x : Vote) : ¬ Abv x x := by simp [Abv, compare_self]
theorem Abv.total {x y : Vote} (h : ¬ Abv x y) (h' : ¬ Abv y x) (hv : x.view = y.view) : x = y := by
  unfold Abv at h h'
  have h2 : x.normal = y.normal := by omega
  have h3 : x.gen = y.gen := by
    by_cases e : y.gen < x.gen
    · exact absurd (.inr ⟨h2, .inl e⟩) h
    · by_cases e' : x.gen < y.gen
      · exact absurd (.inr ⟨h2.symm, .inl e'⟩) h'
      · omega
  have h5 : x.head = y.head := by
    by_cases e : x.head = y.head
    · exact e
    · have := compare_ne _ _ e
      by_cases e1 : 0 < Lib.compareBytes x.head y.head
      · exact absurd (.inr ⟨h2, .inr ⟨h3, .inl e1⟩⟩) h
      · have e2 : 0 < Lib.compareBytes y.head x.head := (compare_sym y.head x.head).1 (by omega)
        exact absurd (.inr ⟨h2.symm, .inr ⟨h3.symm, .inl e2⟩⟩) h'
  have h0 : x.node = y.node := by
    by_cases e : x.node < y.node
    · exact absurd (.inr ⟨h2, .inr ⟨h3, .inr ⟨h5, .inl e⟩⟩⟩) h
    · by_cases e' : y.node < x.node
      · exact absurd (.inr ⟨h2.symm, .inr ⟨h3.symm, .inr ⟨h5.symm, .inl e'⟩⟩⟩) h'
      · omega
  have h4 : x.commit = y.commit := by
    by_cases e : y.commit < x.commit
    · exact absurd (.inr ⟨h2, .inr ⟨h3, .inr ⟨h5, .inr ⟨h0, e⟩⟩⟩⟩) h
    · by_cases e' : x.commit < y.commit
      · exact absurd (.inr ⟨h2.symm, .inr ⟨h3.symm, .inr ⟨h5.symm, .inr ⟨h0.symm, e'⟩⟩⟩⟩) h'
      · omega
  cases x; cases y; simp_all

/-- What is known of Choose's state, whatever the order. -/
structure CSpec (view : Int) (xs : List Vote) (s : CSt) : Prop where
  nodup : (s.who.map (·.1)).Nodup
  mem : ∀ n, n ∈ s.who.map (·.1) ↔ ∃ x ∈ xs, x.view = view ∧ x.node = n
  best : s.who ≠ [] → s.best ∈ xs ∧ s.best.view = view
  none : s.who = [] → s.best = Vote.zero
  top : ∀ x ∈ xs, x.view = view → ¬ Abv x s.best ∧ s.who ≠ []
  commit : ∀ x ∈ xs, x.view = view → x.commit ≤ s.commit
  from' : s.commit = 0 ∨ ∃ x ∈ xs, x.view = view ∧ x.commit = s.commit
  pos : 0 ≤ s.commit
theorem aset_keys (k : Int) (v : Value) : ∀ l : List (Int × Value), ∀ n, n ∈ (aset k v l).map (·.1) ↔ n = k ∨ n ∈ l.map (·.1)
  | [], n => by simp [aset]
  | (k', v') :: r, n => by
    by_cases h : k' = k
    · subst h; simp [aset]
    · simp only [aset, h, if_false, List.map_cons, List.mem_cons, aset_keys k v r n]
      constructor
      · rintro (h | h | h) <;> simp [h]
      · rintro (h | h | h) <;> simp [h]
theorem aset_nodup (k : Int) (v : Value) : ∀ l : List (Int × Value), (l.map (·.1)).Nodup → ((aset k v l).map (·.1)).Nodup
  | [], _ => by simp [aset]
  | (k', v') :: r, h => by
    rw [List.map_cons, List.nodup_cons] at h
    by_cases hk : k' = k
    · subst hk; simp only [aset, if_true, List.map_cons, List.nodup_cons]; exact h
    · simp only [aset, hk, if_false, List.map_cons, List.nodup_cons]
      refine ⟨fun hm => ?_, aset_nodup k v r h.2⟩
      rcases (aset_keys k v r k').1 hm with e | e
      · exact hk e
      · exact h.1 e
theorem CSt.spec (view : Int) (xs : List Vote) : CSpec view xs (CSt.of view xs) := by
  induction xs using snocInd with
  | nil => exact ⟨by simp [CSt.of], by simp [CSt.of], by simp [CSt.of], fun _ => rfl, by simp, by simp, .inl rfl, Int.le_refl _⟩
  | snoc xs x ih =>
    rw [CSt.of_snoc]
    generalize CSt.of view xs = s at ih ⊢
    unfold CSt.step
    by_cases hv : x.view = view
    · rw [if_pos hv]
      have hne : aset x.node (.int .i64 1) s.who ≠ [] := aset_ne _ _ _
      refine ⟨aset_nodup _ _ _ ih.nodup, ?_, ?_, fun h => absurd h hne, ?_, ?_, ?_, ?_⟩
      · intro n
        rw [aset_keys, ih.mem]
        constructor
        · rintro (rfl | ⟨y, hy, h⟩)
          · exact ⟨x, by simp, hv, rfl⟩
          · exact ⟨y, by simp [hy], h⟩
        · rintro ⟨y, hy, hyv, rfl⟩
          rcases List.mem_append.1 hy with h | h
          · exact .inr ⟨y, h, hyv, rfl⟩
          · simp at h; subst h; exact .inl rfl
      · intro _
        dsimp only
        split
        · exact ⟨by simp, hv⟩
        · rename_i h
          have h1 : s.who ≠ [] := fun e => h (.inl e)
          have := ih.best h1
          exact ⟨by simp [this.1], this.2⟩
      · intro y hy hyv
        refine ⟨?_, hne⟩
        dsimp only
        split
        · rename_i h
          rcases List.mem_append.1 hy with hy | hy
          · rcases h with h | h
            · exact absurd h (ih.top y hy hyv).2
            · intro ha
              exact (ih.top y hy hyv).1 (ha.trans ((abv_iff _ _).1 h))
          · simp at hy; subst hy; exact Abv.irrefl _
        · rename_i h
          rcases List.mem_append.1 hy with hy | hy
          · exact (ih.top y hy hyv).1
          · simp at hy; subst hy
            exact fun ha => h (.inr ((abv_iff _ _).2 ha))
      · intro y hy hyv
        dsimp only
        rcases List.mem_append.1 hy with hy | hy
        · have := ih.commit y hy hyv
          split <;> omega
        · simp at hy; subst hy
          split <;> omega
      · dsimp only
        split
        · exact .inr ⟨x, by simp, hv, rfl⟩
        · rcases ih.from' with h | ⟨y, hy, h⟩
          · exact .inl h
          · exact .inr ⟨y, by simp [hy], h⟩
      · dsimp only
        have := ih.pos
        split <;> omega
    · rw [if_neg hv]
      have hx : ∀ y, y ∈ xs ++ [x] → y.view = view → y ∈ xs := fun y hy hyv => by
        rcases List.mem_append.1 hy with h | h
        · exact h
        · simp at h; subst h; exact absurd hyv hv
      refine ⟨ih.nodup, ?_, fun h => ⟨by simp [(ih.best h).1], (ih.best h).2⟩, ih.none, fun y hy hyv => ih.top y (hx y hy hyv) hyv, fun y hy hyv => ih.commit y (hx y hy hyv) hyv, ?_, ih.pos⟩
      · intro n
        rw [ih.mem]
        constructor
        · rintro ⟨y, hy, h⟩; exact ⟨y, by simp [hy], h⟩
        · rintro ⟨y, hy, h⟩; exact ⟨y, hx y hy h.1, h⟩
      · rcases ih.from' with h | ⟨y, hy, h⟩
        · exact .inl h
        · exact .inr ⟨y, by simp [hy], h⟩
theorem length_le_of_sub {l : List Int} (hl : l.Nodup) : ∀ m : List Int, (∀ n, n ∈ l → n ∈ m) → l.length ≤ m.length := by
  induction l with
  | nil => intro m _; simp
  | cons a l ih =>
    intro m h
    rw [List.nodup_cons] at hl
    have ha := h a (by simp)
    have := ih hl.2 (m.erase a) (fun n hn => by
      have hne : n ≠ a := fun e => hl.1 (e ▸ hn)
      exact (List.mem_erase_of_ne hne).2 (h n (by simp [hn])))
    rw [List.length_erase_of_mem ha] at this
    have hp : 0 < m.length := List.length_pos_of_mem ha
    simp; omega
/-- Two lists with the same votes, in whatever order: the same is chosen. -/
theorem chooseV_same (view nodes : Int) (xs ys : List Vote) (h : ∀ x, x ∈ xs ↔ x ∈ ys) : chooseV view nodes xs = chooseV view nodes ys := by
  have A := CSt.spec view xs
  have B := CSt.spec view ys
  have hk : ∀ n, n ∈ (CSt.of view xs).who.map (·.1) ↔ n ∈ (CSt.of view ys).who.map (·.1) := fun n => by
    rw [A.mem, B.mem]
    constructor
    · rintro ⟨x, hx, h'⟩; exact ⟨x, (h x).1 hx, h'⟩
    · rintro ⟨x, hx, h'⟩; exact ⟨x, (h x).2 hx, h'⟩
  have hlen : (CSt.of view xs).who.length = (CSt.of view ys).who.length := by
    have h1 := length_le_of_sub A.nodup _ (fun n hn => (hk n).1 hn)
    have h2 := length_le_of_sub B.nodup _ (fun n hn => (hk n).2 hn)
    simp at h1 h2; omega
  have hc : (CSt.of view xs).commit = (CSt.of view ys).commit := by
    have h1 : (CSt.of view xs).commit ≤ (CSt.of view ys).commit := by
      rcases A.from' with e | ⟨x, hx, hv, e⟩
      · rw [e]; exact B.pos
      · rw [← e]; exact B.commit x ((h x).1 hx) hv
    have h2 : (CSt.of view ys).commit ≤ (CSt.of view xs).commit := by
      rcases B.from' with e | ⟨x, hx, hv, e⟩
      · rw [e]; exact A.pos
      · rw [← e]; exact A.commit x ((h x).2 hx) hv
    omega
  have hb : (CSt.of view xs).best = (CSt.of view ys).best := by
    by_cases h0 : (CSt.of view xs).who = []
    · have h0' : (CSt.of view ys).who = [] := List.length_eq_zero_iff.1 (by rw [← hlen, h0]; rfl)
      rw [A.none h0, B.none h0']
    · have h0' : (CSt.of view ys).who ≠ [] := fun e => h0 (List.length_eq_zero_iff.1 (by rw [hlen, e]; rfl))
      have a := A.best h0
      have b := B.best h0'
      exact Abv.total (B.top _ ((h _).1 a.1) a.2).1 (A.top _ ((h _).2 b.1) b.2).1 (a.2.trans b.2.symm)
  unfold chooseV
  rw [hlen, hc, hb]
end Go.Proofs.Ytoohllmhlbgamaa
