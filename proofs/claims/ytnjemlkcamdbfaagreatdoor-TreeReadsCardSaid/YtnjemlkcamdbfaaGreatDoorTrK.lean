/- Plain: rows of nodes are built. -/
import Derived.Test.YtnjemlkcamdbfaaGreatDoorTrJ
import Derived.Test.YtnjemlkcamdbfaaGreatDoorTrG
set_option linter.unusedSimpArgs false
set_option linter.unusedVariables false
namespace Go.Proofs.YtnjemlkcamdbfaaGreatDoor
open Go.RowKit Go.Tri
abbrev Bk := List (List UInt8 × List UInt8)
def z32 : List UInt8 := List.replicate 32 0
def nd (lv : Nat) (g : List Pr) : Nd := if lv = 0 then (0, g, []) else ((lv : Int), [], g)
def hdF (g : List Pr) : List UInt8 := (g.headD ([], [])).1
def cutN {α : Type} : List Nat → List α → List (List α)
  | [], _ => []
  | n :: ns, l => l.take n :: cutN ns (l.drop n)
theorem cutN_len {α : Type} : ∀ (ns : List Nat) (l : List α), (cutN ns l).length = ns.length
  | [], _ => rfl
  | n :: ns, l => by simp [cutN, cutN_len ns]
/-- A row of nodes. -/
def rowS (lv : Nat) : List (List Pr) → Bk × List Pr → (Bk × List Pr) ⊕ Int
  | [], s => .inl s
  | g :: gs, s => if (wrN (nd lv g)).2 = 0 then rowS lv gs (s.1 ++ [(Hs (wrN (nd lv g)).1, (wrN (nd lv g)).1)], s.2 ++ [(hdF g, Hs (wrN (nd lv g)).1)]) else .inr (wrN (nd lv g)).2
def mapOf (b : Bk) : List UInt8 → Option (List UInt8) := b.foldl (fun m x => fset x.1 x.2 m) fnil
theorem mapOf_app (b : Bk) (x : List UInt8 × List UInt8) : mapOf (b ++ [x]) = fset x.1 x.2 (mapOf b) := by simp [mapOf]
theorem wr_small {n : Nd} (h : (wrN n).2 = 0) : (wrN n).1.length ≤ 470 := (wrN_ok (n := n) (b := (wrN n).1) (by rw [← h])).2.2.2.2
theorem rbPut_eq (b : Bk) (hb : b.length ≤ 10000000) (n : Nd) (h1 : SmallP n.2.1) (h2 : SmallP n.2.2) : rbPut (b.map (·.1), b.map (·.2)) n =
    some (if (wrN n).2 = 0 then (Hs (wrN n).1, 0, ((b ++ [(Hs (wrN n).1, (wrN n).1)]).map (·.1), (b ++ [(Hs (wrN n).1, (wrN n).1)]).map (·.2))) else (z32, (wrN n).2, (b.map (·.1), b.map (·.2)))) := by
  unfold rbPut
  rw [rWrite_eq n h1 h2]
  simp only [Option.bind_some]
  by_cases h : (wrN n).2 = 0
  · have := wr_small h
    rw [if_pos h, if_pos h, rSum_eq _ (by omega)]
    simp only [Option.bind_some]
    rw [appO_of (by simp; omega)]
    simp only [Option.bind_some]
    rw [appO_of (by simp; omega)]
    simp
  · rw [if_neg h, if_neg h]; rfl
theorem trPut_eq (m : List UInt8 → Option (List UInt8)) (n : Nd) (f : List UInt8) (h1 : SmallP n.2.1) (h2 : SmallP n.2.2) : trPut m n f =
    some (if (wrN n).2 = 0 then ((f, Hs (wrN n).1), 0, fset (Hs (wrN n).1) (wrN n).1 m) else (([], z32), (wrN n).2, m)) := by
  unfold trPut
  rw [ndWrite_eq n h1 h2]
  simp only [Option.bind_some]
  by_cases h : (wrN n).2 = 0
  · have := wr_small h
    rw [if_pos h, if_pos h, shaSum_eq _ (by omega)]
    rfl
  · rw [if_neg h, if_neg h]; rfl
theorem SmallP.sub {l g : List Pr} (h : SmallP l) (h2 : ∀ p ∈ g, p ∈ l) (h3 : g.length ≤ l.length) : SmallP g := ⟨Nat.le_trans h3 h.1, fun p hp => h.2 p (h2 p hp)⟩
theorem SmallP.nil : SmallP [] := ⟨by simp, by simp⟩
theorem SmallP.cut {l : List Pr} (h : SmallP l) (a n : Nat) : SmallP ((l.drop a).take n) := h.sub (fun p hp => List.mem_of_mem_drop (List.mem_of_mem_take hp)) (by simp; omega)
theorem nd_small {g : List Pr} (h : SmallP g) (lv : Nat) : SmallP (nd lv g).2.1 ∧ SmallP (nd lv g).2.2 := by
  unfold nd
  by_cases e : lv = 0
  · rw [if_pos e]; exact ⟨h, SmallP.nil⟩
  · rw [if_neg e]; exact ⟨SmallP.nil, h⟩
/-! ### The program's lists are cut -/
theorem cut_eq (l : List Pr) (ns : List Nat) (hl : l.length ≤ 100000) (hn : ns.length ≤ 100000) (hs : ns.sum ≤ l.length) : m_tree_cut_api_Pair_ l (izN ns) = some (cutN ns l) := by
  unfold m_tree_cut_api_Pair_
  refine (congrArg (fun o => Option.bind o _) (loop_xs0 (s0 := ((l, []) : List Pr × List (List Pr))) ns (fun (s : List Pr × List (List Pr)) (i : Int) => (s.1, s.2, i)) (fun s n => .inl (s.1.drop n, s.2 ++ [s.1.take n])) (fun s => s.2) (fun i s => s.1.length = l.length - (ns.take i).sum ∧ s.2.length ≤ i) (by simp) (fun i s n hn' hI => ?_) (fun s hI => by rw [if_neg (by rw [izN_len]; simp)]))).trans ?_
  · have hi := (List.getElem?_eq_some_iff.1 hn').1
    have hsum : (ns.take (i + 1)).sum = (ns.take i).sum + n := by rw [List.take_add_one, hn']; simp
    have hle : (ns.take (i + 1)).sum ≤ ns.sum := by
      conv => rhs; rw [← List.take_append_drop (i + 1) ns, List.sum_append]
      omega
    simp only
    rw [if_pos (by rw [izN_len]; omega), idxO_nat (x := (n : Int)) (by simp [izN, hn'])]
    simp only [Option.bind_some]
    have e1 : slcO s.1 0 (n : Int) = some (s.1.take n) := by
      have := slcO_of (xs := s.1) (i := 0) (j := n) (by omega) (by omega)
      simpa using this
    have e2 : slcO s.1 (n : Int) (s.1.length : Int) = some (s.1.drop n) := by
      have := slcO_of (xs := s.1) (i := n) (j := s.1.length) (by omega) (by omega)
      simpa using this
    rw [e1]
    simp only [Option.bind_some]
    rw [appO_of (by simp; omega)]
    simp only [Option.bind_some]
    rw [e2]
    simp only [Option.bind_some]
    rw [i64_id (by omega) (by omega)]
    exact ⟨rfl, fun s' hs' => by cases hs'; simp; omega⟩
  · have hrun : ∀ (ns : List Nat) (s : List Pr × List (List Pr)), runE (fun s n => (.inl (s.1.drop n, s.2 ++ [s.1.take n]) : _ ⊕ List (List Pr))) (fun s => s.2) ns s = s.2 ++ cutN ns s.1 := by
      intro ns
      induction ns with
      | nil => intro s; simp [runE, cutN]
      | cons n ns ih => intro s; simp only [runE, cutN]; rw [ih]; simp
    rw [hrun]; rfl
theorem cutK_eq (l : List Pr) (ns : List Nat) (hl : l.length ≤ 100000) (hn : ns.length ≤ 100000) (hs : ns.sum ≤ l.length) : m_tree_cut_api_Kid_ l (izN ns) = some (cutN ns l) := cut_eq l ns hl hn hs
/-! ### Sizes -/
theorem lvs_sum (l : List Pr) : (lvs l).sum = l.length ∧ (lvs l).length ≤ l.length + 1 ∧ (l ≠ [] → (lvs l).length ≤ l.length) ∧ 1 ≤ (lvs l).length := by
  have hlen : ∀ (l : List Pr) (s : List Nat × Nat × Nat), (l.foldl lfS s).1.length + (l.foldl lfS s).2.1 ≤ s.1.length + s.2.1 + l.length ∧ (l.foldl lfS s).1.sum + (l.foldl lfS s).2.1 = s.1.sum + s.2.1 + l.length := by
    intro l
    induction l with
    | nil => intro s; simp
    | cons p l ih =>
      intro s
      have h1 := ih (lfS s p)
      have h2 := lfS_len s p
      have h3 : (lfS s p).1.sum + (lfS s p).2.1 = s.1.sum + s.2.1 + 1 := by
        unfold lfS
        by_cases h1 : 0 < s.2.1 ∧ 200 < s.2.2 + szP p
        · rw [if_pos h1]; cases mark p.1 0 <;> simp <;> try omega
        · rw [if_neg h1]; cases mark p.1 0 <;> simp <;> try omega
      simp only [List.foldl_cons, List.length_cons]; omega
  have h := hlen l ([], 0, 0)
  have hne : l ≠ [] → 1 ≤ l.length := fun h => by cases l with | nil => exact absurd rfl h | cons _ _ => simp
  unfold lvs lfF
  generalize l.foldl lfS ([], 0, 0) = t at *
  simp only [List.length_nil, List.sum_nil] at h
  by_cases h0 : 0 < t.2.1
  · rw [if_pos (.inl h0)]; simp; omega
  · by_cases h1 : t.1 = []
    · obtain ⟨o, c, z⟩ := t
      simp only at h h0 h1 ⊢
      subst h1
      rw [if_pos (.inr rfl)]
      simp only [List.length_nil, List.sum_nil, List.nil_append, List.sum_cons, List.length_cons] at h ⊢
      exact ⟨by omega, by omega, fun hl => by have := hne hl; omega, by omega⟩
    · rw [if_neg (by rintro (h | h); exact h0 h; exact h1 h)]
      have : 1 ≤ t.1.length := by cases ht : t.1 with | nil => exact absurd ht h1 | cons _ _ => simp
      omega
theorem inn_sum (lv : Nat) (l : List (List UInt8)) : (inn lv l).sum = l.length ∧ (inn lv l).length ≤ l.length ∧ (l ≠ [] → 1 ≤ (inn lv l).length) ∧ ∀ n ∈ inn lv l, 1 ≤ n := by
  have hlen : ∀ (l : List (List UInt8)) (s : List Nat × Nat), (∀ n ∈ s.1, 1 ≤ n) → (l.foldl (inS lv) s).1.length + (l.foldl (inS lv) s).2 ≤ s.1.length + s.2 + l.length ∧ (l.foldl (inS lv) s).1.sum + (l.foldl (inS lv) s).2 = s.1.sum + s.2 + l.length ∧ ∀ n ∈ (l.foldl (inS lv) s).1, 1 ≤ n := by
    intro l
    induction l with
    | nil => intro s hs; simpa using hs
    | cons p l ih =>
      intro s hs
      have h2 := inS_len lv s p
      have h3 : (inS lv s p).1.sum + (inS lv s p).2 = s.1.sum + s.2 + 1 ∧ ∀ n ∈ (inS lv s p).1, 1 ≤ n := by
        unfold inS
        split
        · refine ⟨by simp; omega, fun n hn => ?_⟩
          rcases List.mem_append.1 hn with h | h
          · exact hs n h
          · simp at h; omega
        · exact ⟨by simp; omega, hs⟩
      have h1 := ih (inS lv s p) h3.2
      simp only [List.foldl_cons, List.length_cons]
      exact ⟨by omega, by omega, h1.2.2⟩
  have h := hlen l ([], 0) (by simp)
  have hne : l ≠ [] → 1 ≤ l.length := fun h => by cases l with | nil => exact absurd rfl h | cons _ _ => simp
  unfold inn inF
  generalize l.foldl (inS lv) ([], 0) = t at *
  simp only [List.length_nil, List.sum_nil] at h
  obtain ⟨h1, h2, h3⟩ := h
  by_cases h0 : 0 < t.2
  · rw [if_pos h0]
    refine ⟨by simp; omega, by simp; omega, fun _ => by simp, fun n hn => ?_⟩
    rcases List.mem_append.1 hn with h | h
    · exact h3 n h
    · simp at h; omega
  · rw [if_neg h0]
    refine ⟨by omega, by omega, fun hl => ?_, h3⟩
    have := hne hl
    cases ht : t.1 with
    | nil => rw [ht] at h2; simp at h2; omega
    | cons _ _ => simp
/-- What a row has. -/
theorem rowS_some (lv : Nat) : ∀ (gs : List (List Pr)) (s t : Bk × List Pr), rowS lv gs s = .inl t → t.1.length = s.1.length + gs.length ∧ t.2.length = s.2.length + gs.length ∧ ∀ p ∈ t.2, p ∈ s.2 ∨ ((∃ g ∈ gs, p.1 = hdF g) ∧ p.2.length = 32)
  | [], s, t, h => by cases h; exact ⟨rfl, rfl, fun p hp => .inl hp⟩
  | g :: gs, s, t, h => by
    unfold rowS at h
    split at h
    · obtain ⟨h1, h2, h3⟩ := rowS_some lv gs _ _ h
      refine ⟨by rw [h1]; simp; omega, by rw [h2]; simp; omega, fun p hp => ?_⟩
      rcases h3 p hp with h | ⟨⟨g', hg', e⟩, h⟩
      · rcases List.mem_append.1 h with h | h
        · exact .inl h
        · simp at h; subst h; exact .inr ⟨⟨g, by simp, rfl⟩, Hs_len _⟩
      · exact .inr ⟨⟨g', List.mem_cons_of_mem _ hg', e⟩, h⟩
    · cases h
theorem cutN_mem {α : Type} : ∀ (ns : List Nat) (l : List α) (g : List α), g ∈ cutN ns l → ∀ x ∈ g, x ∈ l
  | n :: ns, l, g, h, x, hx => by
    rcases List.mem_cons.1 h with rfl | h
    · exact List.mem_of_mem_take hx
    · exact List.mem_of_mem_drop (cutN_mem ns _ g h x hx)
theorem hdF_len {l : List Pr} (hl : SmallP l) {g : List Pr} (hg : ∀ x ∈ g, x ∈ l) : (hdF g).length ≤ 100000 := by
  unfold hdF
  cases g with
  | nil => simp
  | cons p g => exact (hl.2 p (hg p (by simp))).1
theorem row_small {l : List Pr} (hl : SmallP l) {lv : Nat} {ns : List Nat} {b : Bk} {t : Bk × List Pr} (hn : ns.length ≤ 100000) (h : rowS lv (cutN ns l) (b, []) = .inl t) : SmallP t.2 ∧ t.2.length = ns.length ∧ t.1.length = b.length + ns.length := by
  obtain ⟨h1, h2, h3⟩ := rowS_some lv _ _ _ h
  rw [cutN_len] at h1 h2
  simp at h2
  refine ⟨⟨by omega, fun p hp => ?_⟩, h2, h1⟩
  rcases h3 p hp with h | ⟨⟨g, hg, e⟩, h⟩
  · cases h
  · rw [e]; exact ⟨hdF_len hl (cutN_mem ns l g hg), by omega⟩
end Go.Proofs.YtnjemlkcamdbfaaGreatDoor
