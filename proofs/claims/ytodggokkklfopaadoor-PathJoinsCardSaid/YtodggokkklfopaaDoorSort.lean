/- Plain laws of sorting in place; an element of an owned slice is written. -/
import Derived.Test.YtodggokkklfopaaDoorO
set_option linter.unusedSimpArgs false
set_option linter.unusedVariables false
namespace Go.Tri
open Go.RowKit
/-- A strict order under which things may be alike. -/
structure SWO {α : Type} (lt : α → α → Bool) : Prop where
  asym : ∀ x y, lt x y = true → lt y x = false
  trans : ∀ x y z, lt y x = false → lt z y = false → lt z x = false
theorem SWO.irr {α : Type} {lt : α → α → Bool} (h : SWO lt) (x : α) : lt x x = false := by
  cases e : lt x x with
  | false => rfl
  | true => have := h.asym x x e; rw [e] at this; exact this
def ltI (x y : Int) : Bool := decide (x < y)
theorem swoI : SWO ltI := ⟨fun x y h => by simp [ltI] at *; omega, fun x y z h1 h2 => by simp [ltI] at *; omega⟩
section
variable {α : Type} (lt : α → α → Bool)
/-- Sorted from a up to b. -/
def Srt (a b : Nat) (ys : List α) : Prop := ∀ p q x y, a ≤ p → p < q → q < b → ys[p]? = some x → ys[q]? = some y → lt y x = false
end
section
variable {α : Type} {lt : α → α → Bool}
/-- Turned from a up to b alone. -/
structure Seg (a b : Nat) (xs ys : List α) : Prop where
  len : ys.length = xs.length
  perm : ys.Perm xs
  out : ∀ i, i < a ∨ b ≤ i → ys[i]? = xs[i]?
  mem : ∀ k y, a ≤ k → k < b → ys[k]? = some y → ∃ k', a ≤ k' ∧ k' < b ∧ xs[k']? = some y
theorem Seg.refl (a b : Nat) (xs : List α) : Seg a b xs xs := ⟨rfl, List.Perm.refl _, fun _ _ => rfl, fun k _ h1 h2 h3 => ⟨k, h1, h2, h3⟩⟩
theorem Seg.trans {a b : Nat} {xs ys zs : List α} (h : Seg a b xs ys) (k : Seg a b ys zs) : Seg a b xs zs := ⟨k.len.trans h.len, k.perm.trans h.perm, fun i hi => (k.out i hi).trans (h.out i hi), fun j y h1 h2 h3 => by
  obtain ⟨j1, a1, a2, a3⟩ := k.mem j y h1 h2 h3
  exact h.mem j1 y a1 a2 a3⟩
theorem Seg.wide {a b a' b' : Nat} {xs ys : List α} (h : Seg a b xs ys) (ha : a' ≤ a) (hb : b ≤ b') : Seg a' b' xs ys := ⟨h.len, h.perm, fun i hi => h.out i (by omega), fun k y h1 h2 h3 => by
  by_cases e : a ≤ k ∧ k < b
  · obtain ⟨k', b1, b2, b3⟩ := h.mem k y e.1 e.2 h3
    exact ⟨k', by omega, by omega, b3⟩
  · exact ⟨k, h1, h2, by rw [← h.out k (by omega)]; exact h3⟩⟩
theorem swap_get {l : List α} {i j : Nat} {x y : α} (hi : l[i]? = some x) (hj : l[j]? = some y) (k : Nat) : ((l.set i y).set j x)[k]? = if j = k then some x else if i = k then some y else l[k]? := by
  have h1 := (List.getElem?_eq_some_iff.1 hi).1
  have h2 := (List.getElem?_eq_some_iff.1 hj).1
  rw [List.getElem?_set, List.getElem?_set, List.length_set]
  by_cases e1 : j = k
  · simp [e1, e1 ▸ h2]
  · by_cases e2 : i = k
    · simp [e1, e2, e2 ▸ h1]
    · simp [e1, e2]
theorem set_perm_cons {l : List α} {i : Nat} {x y : α} (hi : l[i]? = some x) : (x :: l.set i y).Perm (y :: l) := by
  obtain ⟨h, rfl⟩ := List.getElem?_eq_some_iff.1 hi
  rw [List.set_eq_take_append_cons_drop, if_pos h]
  have e : l = l.take i ++ l[i] :: l.drop (i + 1) := by
    conv => lhs; rw [← List.take_append_drop i l, List.drop_eq_getElem_cons h]
  have p1 : (l[i] :: (l.take i ++ y :: l.drop (i + 1))).Perm (l[i] :: y :: (l.take i ++ l.drop (i + 1))) := List.Perm.cons _ List.perm_middle
  have p2 : (y :: l).Perm (y :: l[i] :: (l.take i ++ l.drop (i + 1))) := by
    refine List.Perm.cons _ ?_
    conv => lhs; rw [e]
    exact List.perm_middle
  exact p1.trans ((List.Perm.swap _ _ _).trans p2.symm)
theorem swap_perm {l : List α} {i j : Nat} {x y : α} (hi : l[i]? = some x) (hj : l[j]? = some y) : ((l.set i y).set j x).Perm l := by
  by_cases e : i = j
  · subst e
    rw [hi] at hj; cases hj
    rw [List.set_set, set_same hi]
  · have h1 : (l.set i y)[j]? = some y := by rw [List.getElem?_set_ne e]; exact hj
    have p1 := set_perm_cons (y := x) h1
    have p2 := set_perm_cons (y := y) hi
    exact List.Perm.cons_inv (p1.trans p2)
theorem Seg.swap {a b : Nat} {xs l : List α} {i j : Nat} {x y : α} (h : Seg a b xs l) (hi : l[i]? = some x) (hj : l[j]? = some y) (ha : a ≤ i) (hb : i < b) (ha' : a ≤ j) (hb' : j < b) : Seg a b xs ((l.set i y).set j x) := by
  refine h.trans ⟨by simp, swap_perm hi hj, fun k hk => ?_, fun k z h1 h2 h3 => ?_⟩
  · rw [swap_get hi hj, if_neg (by omega), if_neg (by omega)]
  · rw [swap_get hi hj] at h3
    by_cases e1 : j = k
    · rw [if_pos e1] at h3; cases h3; exact ⟨i, ha, hb, hi⟩
    · rw [if_neg e1] at h3
      by_cases e2 : i = k
      · rw [if_pos e2] at h3; cases h3; exact ⟨j, ha', hb', hj⟩
      · rw [if_neg e2] at h3; exact ⟨k, h1, h2, h3⟩
/-- While one element is brought to its place: all pairs are in order but those whose later one is at j. -/
def Ins (lt : α → α → Bool) (a i j : Nat) (zs : List α) : Prop := ∀ p q x y, a ≤ p → p < q → q ≤ i → q ≠ j → zs[p]? = some x → zs[q]? = some y → lt y x = false
theorem Ins.start {a i : Nat} {zs : List α} (h : Srt lt a i zs) : Ins lt a i i zs := fun p q x y h1 h2 h3 h4 hx hy => h p q x y h1 h2 (by omega) hx hy
theorem Ins.done (hl : SWO lt) {a i j : Nat} {zs : List α} (h : Ins lt a i j zs) (ha : a ≤ j) (hj : a < j → ∀ x y, zs[j]? = some x → zs[j - 1]? = some y → lt x y = false) (hlen : i < zs.length) (hji : j ≤ i) : Srt lt a (i + 1) zs := by
  intro p q x y h1 h2 h3 hx hy
  by_cases e : q = j
  · subst e
    have hz : zs[q - 1]? = some zs[q - 1] := List.getElem?_eq_getElem (by omega)
    have h4 := hj (by omega) y _ hy hz
    by_cases e2 : p = q - 1
    · subst e2; rw [hz] at hx; cases hx; exact h4
    · exact hl.trans x _ y (h p (q - 1) x _ h1 (by omega) (by omega) (by omega) hx hz) h4
  · exact h p q x y h1 h2 (by omega) e hx hy
theorem Ins.step (hl : SWO lt) {a i j : Nat} {zs : List α} {x y : α} (h : Ins lt a i j zs) (ha : a < j) (hji : j ≤ i) (hx : zs[j]? = some x) (hy : zs[j - 1]? = some y) (hlt : lt x y = true) : Ins lt a i (j - 1) ((zs.set j y).set (j - 1) x) := by
  intro p q u v h1 h2 h3 h4 hu hv
  rw [swap_get hx hy] at hu hv
  by_cases eq1 : j = q
  · subst eq1
    rw [if_neg (by omega), if_pos rfl] at hv
    cases hv
    by_cases ep : j - 1 = p
    · rw [if_pos ep] at hu; cases hu; exact hl.asym _ _ hlt
    · rw [if_neg ep, if_neg (by omega)] at hu
      exact h p (j - 1) u y h1 (by omega) (by omega) (by omega) hu hy
  · rw [if_neg (fun e => h4 e.symm), if_neg eq1] at hv
    by_cases ep : j - 1 = p
    · rw [if_pos ep] at hu; cases hu
      exact h j q x v (by omega) (by omega) h3 (fun e => eq1 e.symm) hx hv
    · by_cases ep2 : j = p
      · rw [if_neg ep, if_pos ep2] at hu; cases hu
        exact h (j - 1) q y v (by omega) (by omega) h3 (fun e => eq1 e.symm) hy hv
      · rw [if_neg ep, if_neg ep2] at hu
        exact h p q u v h1 h2 h3 (fun e => eq1 e.symm) hu hv
theorem Srt.short {a b : Nat} (h : b ≤ a + 1) (ys : List α) : Srt lt a b ys := fun p q x y h1 h2 h3 _ _ => by omega
theorem Srt.narrow {a b a' b' : Nat} {ys : List α} (h : Srt lt a b ys) (ha : a ≤ a') (hb : b' ≤ b) : Srt lt a' b' ys := fun p q x y h1 h2 h3 => h p q x y (by omega) h2 (by omega)
end
/-! ### Writing an element -/
theorem rows_one {α : Type} {en : α → List Value} (h1 : ∀ x, (en x).length = 1) (xs : List α) (k : Nat) (hk : k < xs.length) (x : α) {v : Value} (hv : en x = [v]) : rows en (xs.set k x) = (rows en xs).set k v := by
  have hlen : ∀ x, True → (en x).length = 1 := fun x _ => h1 x
  have hl := rows_len hlen xs (fun _ _ => trivial)
  rw [rows_set hlen xs (fun _ _ => trivial) k hk x, hv, Nat.mul_one, set_split _ _ _ (by omega)]
theorem St.ownP {w0 w : World} {ls : List HP} (H : St w0 w ls) (i : Nat) {e : TypeId} {size : Nat} {p : Option Addr} {m cap n : Nat} {xs : List Value} (hi : ls[i]? = some (HP.own e size (.slice p m cap) n xs)) : m = n ∧ n ≤ cap ∧ (0 < n → ∃ g, p = some ⟨g, 0, none⟩) := by
  obtain ⟨p', cap', h, hc, hp⟩ := H.ownForm i hi
  cases h
  exact ⟨rfl, hc, hp⟩
theorem s_setElem {P : Program} {w0 w : World} {ls : List HP} {t : TypeId} {ops : Array Oper} {rest : List Oper} {o : Oper} {a : Act} {W : List Oper → Act → World → Prop} {N : Fs} {l : List (Nat × Value)} {x y : Operand} {z1 : Value} {α : Type} {en : α → List Value}
    (kw : Walk P ops W) (F : Fr N a l) (hg : o.guard = none) (hd : o.dst = none) (hz : Zero1 P t z1) (ho : o.op = .store t x y) {p : Option Addr} {g n cap k : Nat} (hp : p = some ⟨g, 0, none⟩) (hx : ev l x = some (.pointer (some ⟨g, 0 + k * 1, none⟩))) {xs : List α} {v : Value} (hy : ev l y = some v) (u : α) (hu : en u = [v]) (hc : v.cells = #[v]) (h1 : v.oneCell' = true)
    (H : St w0 w ls) (i : Nat) (hi : ls[i]? = some (HP.own t 1 (.slice p n cap) n (rows en xs))) (hen : ∀ x, (en x).length = 1) (hn : xs.length = n) (hkn : k < n)
    (hk : ∀ w', St w0 w' (ls.set i (HP.own t 1 (.slice p n cap) n (rows en (xs.set k u)))) → W rest a w') : W (o :: rest) a w := by
  subst hp
  obtain ⟨hl, ⟨h, _⟩ | ⟨g', cap', cur, h, _, hgg, hnc, hm, hs, ht⟩⟩ := H.owns i hi
  · cases h
  · cases h
    have hb : Blk w g cur.toList t := by unfold Blk; simpa using hgg
    have hsz : cur.toList.length = cap := by simpa using hs
    rw [Nat.zero_add, Nat.mul_one] at hx
    refine s_none kw F hg hd (by rw [ho]; rfl) (y_store1 F hz ho hx hy hc h1 hb (by omega)) (hk _ (H.chg i hi (fun S hA => hA.2 g rfl) (Chg.setRow w g _) fun S hA => ⟨⟨?_, .inr ⟨g, cap, _, rfl, Nat.zero_le _, hb.set_same _, hnc, hm, ?_, ?_⟩⟩, hA.2⟩))
    · rw [rows_one hen xs k (by omega) u hu, List.length_set]; exact hl
    · simp only [List.size_toArray, List.length_set, hsz, Nat.mul_one]
    · rw [rows_one hen xs k (by omega) u hu, ← ht, Nat.mul_one, List.take_set]
end Go.Tri
