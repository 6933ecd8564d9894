/- Plain: the document's sectors, sorted digests. -/
import Derived.Test.YtfepdfjhejkemaaDoorDuoB
set_option linter.unusedSimpArgs false
set_option linter.unusedVariables false
namespace Go.Proofs.YtfepdfjhejkemaaDoor
open Go.RowKit Go.Tri
/-! ### Sectors -/
theorem pad_eq (x : List UInt8) (h : x.length ≤ 512) : m_triremeref04_pad x = some (x ++ List.replicate (512 - x.length) 0) := by
  unfold m_triremeref04_pad
  rw [show mkO 512 (0 : UInt8) = some (List.replicate 512 0) from rfl]
  simp only [Option.bind_some]
  refine bind_run (fun i s => s = (x.take i ++ List.replicate (512 - i) 0, (i : Int))) (fun r => r = x ++ List.replicate (512 - x.length) 0) x.length rfl ?_ ?_ ?_
  · rintro i _ hi rfl
    refine .inl ⟨_, ?_, rfl⟩
    simp only
    rw [if_pos (by omega), idxO_getD 0 rfl hi]
    simp only [Option.bind_some]
    rw [idxO_getD 0 rfl (by simp; omega)]
    simp only [Option.bind_some]
    rw [u8_ok, i64_id (by omega) (by omega)]
    simp only [Option.bind_some, Int.toNat_natCast]
    have e : (x.take i ++ List.replicate (512 - i) (0 : UInt8)).set i (x.getD i 0) = x.take (i + 1) ++ List.replicate (512 - (i + 1)) 0 := by
      rw [List.set_append_right _ _ (by simp only [List.length_take]; omega), List.length_take, show i - min i x.length = 0 by omega, show 512 - i = (512 - (i + 1)) + 1 by omega, List.replicate_succ, List.set_cons_zero, List.take_add_one, List.getElem?_eq_getElem hi, List.getD_eq_getElem?_getD, List.getElem?_eq_getElem hi]
      simp only [Option.toList_some, Option.getD_some, List.append_assoc, List.singleton_append]
    rw [e]
    rfl
  · rintro _ rfl
    refine ⟨_, ?_, rfl⟩
    simp only
    rw [if_neg (by omega), List.take_length]
  · rintro _ rfl
    rfl
theorem rWrap_big (b : List UInt8) (h : 470 < b.length) : m_triremeref04_Wrap b = some ([], 23) := by
  unfold m_triremeref04_Wrap; rw [if_pos (by omega)]
theorem rWrap_ok (b : List UInt8) (h : b.length ≤ 470) : m_triremeref04_Wrap b = some (Wr b, 0) := by
  unfold m_triremeref04_Wrap
  rw [if_neg (by omega), show quoO .i64 (b.length : Int) 256 = _ from quoO_nat b.length 256 (by omega) (by omega), show remO (b.length : Int) 256 = _ from remO_nat b.length 256 (by omega)]
  simp only [Option.bind_some]
  rw [show u8O 66 = some 66 from rfl, wrap_u8', wrap_u8', u8O_of (by omega) (by omega), u8O_of (by omega) (by omega)]
  simp only [Option.bind_some]
  rw [appO_of (by simp; omega)]
  simp only [Option.bind_some]
  rw [pad_eq _ (by simp; omega)]
  have e1 : (((b.length / 256 : Nat) : Int) % 256) = ((b.length / 256 ^ 1 % 256 : Nat) : Int) := by omega
  have e2 : (((b.length % 256 : Nat) : Int) % 256) = ((b.length / 256 ^ 0 % 256 : Nat) : Int) := by omega
  rw [e1, e2]
  simp only [Option.bind_some, Wr, len2, List.length_append, List.length_cons, List.length_nil, List.cons_append, List.nil_append, List.append_assoc]
  rw [show 512 - (b.length + (0 + 1 + 1 + 1)) = 509 - b.length by omega]
theorem u8_toNat (c : UInt8) : u8 ((c.toNat : Nat) : Int) = c := by simp [u8]
theorem three (s : List UInt8) (h : s.length = 512) : ∃ a b c r, s = a :: b :: c :: r ∧ r.length = 509 := by
  match s, h with
  | a :: b :: c :: r, h => exact ⟨a, b, c, r, rfl, by simpa using h⟩
/-- The document reads a sector as the program does. -/
theorem rUnwrap_total (s : List UInt8) (hs : s.length = 512) : ∃ b r, m_triremeref04_Unwrap s = some (b, r) ∧ ((r = 0 ∧ b.length ≤ 470 ∧ s = Wr b) ∨ (r = 22 ∧ b = [] ∧ ∀ b' : List UInt8, b'.length ≤ 470 → s ≠ Wr b')) := by
  obtain ⟨a, b, c, r, rfl, hr⟩ := three s hs
  have bad : ∀ p : Prop, (∀ b' : List UInt8, b'.length ≤ 470 → a :: b :: c :: r = Wr b' → False) → ∃ b1 r1, some (([] : List UInt8), (22 : Int)) = some (b1, r1) ∧ ((r1 = 0 ∧ b1.length ≤ 470 ∧ a :: b :: c :: r = Wr b1) ∨ (r1 = 22 ∧ b1 = [] ∧ ∀ b' : List UInt8, b'.length ≤ 470 → a :: b :: c :: r ≠ Wr b')) := fun _ h => ⟨_, _, rfl, .inr ⟨rfl, rfl, h⟩⟩
  have parts : ∀ b' : List UInt8, b'.length ≤ 470 → a :: b :: c :: r = Wr b' → a = 66 ∧ 256 * b.toNat + c.toNat = b'.length ∧ r = b' ++ List.replicate (509 - b'.length) 0 := by
    intro b' hb' e
    simp only [Wr, len2, List.cons_append, List.nil_append, List.append_assoc] at e
    injection e with e1 e
    injection e with e2 e
    injection e with e3 e
    refine ⟨e1, ?_, e⟩
    rw [e2, e3]
    simp [u8]
    omega
  unfold m_triremeref04_Unwrap
  rw [if_pos (by omega), show idxO (a :: b :: c :: r) 0 = some a from rfl, show idxO (a :: b :: c :: r) 1 = some b from rfl, show idxO (a :: b :: c :: r) 2 = some c from rfl]
  simp only [Option.bind_some]
  have hb := b.toNat_lt
  have hc := c.toNat_lt
  rw [i64_id (n := (b.toNat : Int)) (by omega) (by omega), i64_id (n := 256 * (b.toNat : Int)) (by omega) (by omega), i64_id (n := (c.toNat : Int)) (by omega) (by omega), i64_id (n := 256 * (b.toNat : Int) + (c.toNat : Int)) (by omega) (by omega)]
  by_cases h1 : (a.toNat : Int) = 66
  · have ha : a = 66 := UInt8.toNat_inj.1 (by show a.toNat = 66; omega)
    rw [if_pos h1]
    obtain ⟨n, hn⟩ : ∃ n : Nat, 256 * b.toNat + c.toNat = n := ⟨_, rfl⟩
    have hnI : 256 * (b.toNat : Int) + (c.toNat : Int) = (n : Int) := by omega
    rw [hnI]
    by_cases h2 : (470 : Int) < (n : Int)
    · rw [if_pos h2]
      exact bad True fun b' hb' e => by have := parts b' hb' e; omega
    · rw [if_neg h2, i64_id (n := 3 + (n : Int)) (by omega) (by omega)]
      refine bind_runP (C := fun o => ∃ b1 r1, o = some (b1, r1) ∧ ((r1 = 0 ∧ b1.length ≤ 470 ∧ a :: b :: c :: r = Wr b1) ∨ (r1 = 22 ∧ b1 = [] ∧ ∀ b' : List UInt8, b'.length ≤ 470 → a :: b :: c :: r ≠ Wr b'))) (fun i (s : Int) => s = ((3 + (n + i) : Nat) : Int) ∧ ∀ j, j < i → r.getD (n + j) 0 = 0) (fun o => (o = .inl () ∧ ∀ j, j < 509 - n → r.getD (n + j) 0 = 0) ∨ (o = .inr ([], 22) ∧ ∃ j, j < 509 - n ∧ r.getD (n + j) 0 ≠ 0)) (509 - n) ⟨by omega, fun j hj => by omega⟩ ?_ ?_ ?_
      · rintro i _ hi ⟨rfl, hz⟩
        rw [if_pos (by omega), idxO_getD (n := 3 + (n + i)) 0 rfl (by omega)]
        simp only [Option.bind_some]
        have hg : (a :: b :: c :: r).getD (3 + (n + i)) 0 = r.getD (n + i) 0 := by rw [show 3 + (n + i) = (n + i) + 1 + 1 + 1 by omega]; rfl
        rw [hg]
        by_cases e : ((r.getD (n + i) 0).toNat : Int) = 0
        · rw [if_pos e, i64_id (by omega) (by omega)]
          refine .inl ⟨_, rfl, by omega, fun j hj => ?_⟩
          by_cases ej : j = i
          · subst ej; exact UInt8.toNat_inj.1 (by show _ = 0; omega)
          · exact hz j (by omega)
        · rw [if_neg e]
          exact .inr ⟨_, rfl, .inr ⟨rfl, i, hi, fun e' => e (by rw [e']; rfl)⟩⟩
      · rintro _ ⟨rfl, hz⟩
        refine ⟨.inl (), ?_, .inl ⟨rfl, hz⟩⟩
        rw [if_neg (by omega)]
      · rintro _ (⟨rfl, hz⟩ | ⟨rfl, j, hj, hne⟩)
        · have hsl : slcO (a :: b :: c :: r) 3 (3 + (n : Int)) = some (r.take n) := by
            have := slcO_of (xs := a :: b :: c :: r) (i := 3) (j := 3 + n) (by omega) (by omega)
            rw [show (3 : Int) + (n : Int) = ((3 + n : Nat) : Int) by omega]
            refine this.trans ?_
            rw [show 3 + n = n + 1 + 1 + 1 by omega]
            rfl
          simp only [Sum.elim_inl]
          rw [hsl]
          simp only [Option.bind_some]
          rw [appO_of (by simp; omega)]
          refine ⟨r.take n, 0, rfl, .inl ⟨rfl, by simp; omega, ?_⟩⟩
          have hl : (r.take n).length = n := by simp; omega
          have hd : r.drop n = List.replicate (509 - n) 0 := by
            refine List.ext_getElem (by simp; omega) fun j h1 h2 => ?_
            have := hz j (by simpa using h2)
            simp only [List.length_drop] at h1
            rw [List.getD_eq_getElem?_getD, List.getElem?_eq_getElem (by omega)] at this
            simpa using this
          have eb : u8 ((n / 256 ^ 1 % 256 : Nat) : Int) = b := by rw [show n / 256 ^ 1 % 256 = b.toNat by omega]; exact u8_toNat b
          have ec : u8 ((n / 256 ^ 0 % 256 : Nat) : Int) = c := by rw [show n / 256 ^ 0 % 256 = c.toNat by omega]; exact u8_toNat c
          unfold Wr len2
          rw [hl, eb, ec, ← hd, ha]
          simp
        · exact bad True fun b' hb' e => hne (by
            obtain ⟨_, e2, e3⟩ := parts b' hb' e
            rw [e3, List.getD_eq_getElem?_getD, List.getElem?_append_right (by omega), List.getElem?_replicate]
            split <;> rfl)
  · rw [if_neg h1]
    exact bad True fun b' hb' e => h1 (by rw [(parts b' hb' e).1]; rfl)
/-- Both read one sector alike. -/
theorem both_unwrap (s : List UInt8) (hs : s.length = 512) : (∃ b, b.length ≤ 470 ∧ s = Wr b ∧ unwrap s = some (b, 0) ∧ m_triremeref04_Unwrap s = some (b, 0)) ∨ (∃ x r, unwrap s = some (x, r) ∧ r ≠ 0 ∧ m_triremeref04_Unwrap s = some ([], 22) ∧ ∀ b' : List UInt8, b'.length ≤ 470 → s ≠ Wr b') := by
  obtain ⟨b, r, h1, h2⟩ := rUnwrap_total s hs
  rcases h2 with ⟨rfl, hb, rfl⟩ | ⟨rfl, rfl, hn⟩
  · exact .inl ⟨b, hb, rfl, unwrap_Wr b hb, h1⟩
  · obtain ⟨x, r, h3, h4⟩ := unwrap_total s hs
    exact .inr ⟨x, r, h3, fun hr => hn x (h4 hr).1 (h4 hr).2, h1, hn⟩
/-! ### Digests -/
theorem lawDigests_eq (l : List (List UInt8)) (hl : l.length ≤ 1000000) (hb : ∀ b ∈ l, b.length ≤ 140737488351232) : lawDigests l = some (l.map Hs) := by
  unfold lawDigests
  refine bind_run (fun i s => s = ((l.take i).map Hs, (i : Int))) (fun r => r = l.map Hs) l.length rfl ?_ ?_ ?_
  · rintro i _ hi rfl
    refine .inl ⟨_, ?_, rfl⟩
    have hg : l.getD i [] = l[i] := by rw [List.getD_eq_getElem?_getD, List.getElem?_eq_getElem hi]; rfl
    simp only
    rw [if_pos (by omega), idxO_getD [] rfl hi, hg]
    simp only [Option.bind_some]
    rw [rSum_eq _ (hb _ (List.getElem_mem hi))]
    simp only [Option.bind_some]
    rw [appO_of (by simp only [List.length_map, List.length_take, List.length_cons, List.length_nil]; omega), i64_id (by omega) (by omega), List.take_add_one, List.getElem?_eq_getElem hi, List.map_append]
    rfl
  · rintro _ rfl
    refine ⟨_, ?_, rfl⟩
    simp only
    rw [if_neg (by omega), List.take_length]
  · rintro _ rfl
    rfl
/-! ### Sorted -/
instance ltKDec (a b : List UInt8) : Decidable (ltK a b) := by unfold ltK; infer_instance
theorem shift_step (L : List (List UInt8)) (x : List UInt8) (k : Nat) (hk : k < L.length) :
    idxO (L.take (k + 1) ++ x :: L.drop (k + 1)) ((k + 1 : Nat) : Int) = some x ∧ idxO (L.take (k + 1) ++ x :: L.drop (k + 1)) (k : Int) = some (L.getD k []) ∧
    ((L.take (k + 1) ++ x :: L.drop (k + 1)).set (k + 1) (L.getD k [])).set k x = L.take k ++ x :: L.drop k := by
  have hg : L.getD k [] = L[k] := by rw [List.getD_eq_getElem?_getD, List.getElem?_eq_getElem hk]; rfl
  have hlt : (L.take (k + 1)).length = k + 1 := by simp; omega
  have htk : L.take (k + 1) = L.take k ++ [L[k]] := by rw [List.take_add_one, List.getElem?_eq_getElem hk]; rfl
  have hlk : (L.take k).length = k := by simp; omega
  refine ⟨?_, ?_, ?_⟩
  · rw [idxO_getD (n := k + 1) [] rfl (by simp; omega), List.getD_eq_getElem?_getD, List.getElem?_append_right (by omega), hlt, Nat.sub_self]; rfl
  · rw [idxO_getD (n := k) [] rfl (by simp; omega), List.getD_eq_getElem?_getD, List.getElem?_append_left (by omega), List.getElem?_take_of_lt (by omega), ← List.getD_eq_getElem?_getD]
  · rw [List.set_append_right _ _ (by omega), hlt, Nat.sub_self, List.set_cons_zero, hg, htk, List.append_assoc, List.set_append_right _ _ (by omega), hlk, Nat.sub_self, List.singleton_append, List.set_cons_zero, List.drop_eq_getElem_cons hk]
/-- x is put into a sorted list. -/
theorem ins_sorted {L : List (List UInt8)} {x : List UInt8} {at' : Nat} (hL : L.Pairwise ltK) (h1 : ∀ j, j < at' → ltK (L.getD j []) x) (h2 : at' < L.length → ltK x (L.getD at' [])) (h3 : at' ≤ L.length) : (L.take at' ++ x :: L.drop at').Pairwise ltK := by
  have hlow : ∀ y ∈ L.take at', ltK y x := fun y hy => by
    obtain ⟨j, hj, rfl⟩ := List.getElem_of_mem hy
    have := h1 j (by simp at hj; omega)
    simp only [List.length_take] at hj
    rw [List.getD_eq_getElem?_getD, List.getElem?_eq_getElem (by omega)] at this
    simpa using this
  have hhigh : ∀ y ∈ L.drop at', ltK x y := fun y hy => by
    have hlt : at' < L.length := by
      by_cases h : at' < L.length
      · exact h
      · rw [List.drop_eq_nil_of_le (by omega)] at hy; cases hy
    have h4 := h2 hlt
    have hp := hL.sublist (List.drop_sublist at' L)
    rw [List.drop_eq_getElem_cons hlt] at hy hp
    rw [List.getD_eq_getElem?_getD, List.getElem?_eq_getElem hlt] at h4
    rcases List.mem_cons.1 hy with rfl | hy
    · exact h4
    · exact cmp_trans _ _ _ h4 (List.rel_of_pairwise_cons hp hy)
  refine List.pairwise_append.2 ⟨hL.sublist (List.take_sublist _ _), List.pairwise_cons.2 ⟨hhigh, hL.sublist (List.drop_sublist _ _)⟩, fun a ha b hb => ?_⟩
  rcases List.mem_cons.1 hb with rfl | hb
  · exact hlow a ha
  · exact cmp_trans _ _ _ (hlow a ha) (hhigh b hb)
/-- What stands in the list when so many are in. -/
def SortI (src : List (List UInt8)) (i : Nat) (L : List (List UInt8)) : Prop := L.Pairwise ltK ∧ (∀ k, k ∈ L ↔ k ∈ src.take i) ∧ L.length ≤ i
theorem sorted_eq (src : List (List UInt8)) (hl : src.length ≤ 1000000) (h32 : ∀ x ∈ src, x.length = 32) : ∃ l, m_triremeref05_Sorted src = some l ∧ SortI src src.length l := by
  unfold m_triremeref05_Sorted
  refine bind_runP (C := fun o => ∃ l, o = some l ∧ SortI src src.length l) (fun i s => s.2 = (i : Int) ∧ SortI src i s.1) (fun r => SortI src src.length r) src.length ⟨rfl, List.Pairwise.nil, fun k => by simp, by simp⟩ ?_ ?_ ?_
  · rintro i ⟨L, k⟩ hi ⟨hk, hP, hM, hlen⟩
    simp only at hk hP hM hlen
    subst hk
    obtain ⟨x, hx⟩ : ∃ x, src[i]? = some x := ⟨_, List.getElem?_eq_getElem hi⟩
    have hg : src.getD i [] = x := by simp [List.getD_eq_getElem?_getD, hx]
    have hx32 : x.length = 32 := h32 x (List.mem_of_getElem? hx)
    have hidx : idxO src (i : Int) = some x := by rw [idxO_getD [] rfl hi, hg]
    have hm' : ∀ y, y ∈ src.take (i + 1) ↔ y ∈ L ∨ y = x := fun y => by
      rw [List.take_add_one, hx, List.mem_append, ← hM y]; simp
    have hL32 : ∀ y ∈ L, y.length = 32 := fun y hy => h32 y (List.mem_of_mem_take ((hM y).1 hy))
    have hLg : ∀ j, j < L.length → L.getD j [] ∈ L := fun j hj => by rw [List.getD_eq_getElem?_getD, List.getElem?_eq_getElem hj]; exact List.getElem_mem hj
    left
    simp only
    rw [if_pos (by omega), hidx, i64_id (n := (i : Int) + 1) (by omega) (by omega)]
    simp only [Option.bind_some]
    refine bind_runP (C := fun o => ∃ s', Option.bind (α := List (List UInt8)) o (fun r3242 => some (Sum.inl (r3242, (i : Int) + 1))) = some (Sum.inl s') ∧ s'.2 = ((i + 1 : Nat) : Int) ∧ SortI src (i + 1) s'.1) (fun j (s : Int) => s = (j : Int) ∧ ∀ q, q < j → ltK (L.getD q []) x) (fun r => ∃ j : Nat, r = (j : Int) ∧ j ≤ L.length ∧ (∀ q, q < j → ltK (L.getD q []) x) ∧ (j < L.length → ¬ ltK (L.getD j []) x)) L.length ⟨rfl, fun q hq => by omega⟩ ?_ ?_ ?_
    · rintro j _ hj ⟨rfl, hq⟩
      rw [if_pos (by omega), idxO_getD [] rfl hj]
      simp only [Option.bind_some]
      rw [less_eq _ _ (hL32 _ (hLg j hj)) hx32]
      simp only [Option.bind_some]
      by_cases hlt : ltK (L.getD j []) x
      · rw [if_pos (decide_eq_true (show Lib.compareBytes (L.getD j []) x < 0 from hlt)), i64_id (by omega) (by omega)]
        exact .inl ⟨_, rfl, by omega, fun q hq' => by
          by_cases e : q = j
          · subst e; exact hlt
          · exact hq q (by omega)⟩
      · rw [if_neg (show ¬ (decide (Lib.compareBytes (L.getD j []) x < 0) = true) from fun h => hlt (of_decide_eq_true h))]
        exact .inr ⟨_, rfl, j, rfl, by omega, hq, fun _ => hlt⟩
    · rintro _ ⟨rfl, hq⟩
      exact ⟨_, by rw [if_neg (by omega)], L.length, rfl, Nat.le_refl _, hq, fun h => by omega⟩
    · rintro _ ⟨at', rfl, hat, hlow, hnot⟩
      -- the shift
      have shift : ltK x (L.getD at' []) ∨ ¬ at' < L.length → ∀ (f : (List (List UInt8)) × Int → Option ((List (List UInt8)) × Int ⊕ List (List UInt8))), (∀ k : Nat, at' ≤ k → k < L.length → f (L.take (k + 1) ++ x :: L.drop (k + 1), ((k + 1 : Nat) : Int)) = some (.inl (L.take k ++ x :: L.drop k, (k : Int)))) → f (L.take at' ++ x :: L.drop at', (at' : Int)) = some (.inr (L.take at' ++ x :: L.drop at')) →
          ∃ s' : List (List UInt8) × Int, Option.bind (α := List (List UInt8)) (Option.bind (α := List (List UInt8)) (loopO f (L ++ [x], IntKind.i64.wrap (((L ++ [x]).length : Int) - 1))) fun r => some r) (fun r3242 => some ((Sum.inl (r3242, (i : Int) + 1)) : (List (List UInt8) × Int) ⊕ List (List UInt8))) = some (Sum.inl s') ∧ s'.2 = ((i + 1 : Nat) : Int) ∧ SortI src (i + 1) s'.1 := by
        intro hcase f hf he
        refine ⟨(L.take at' ++ x :: L.drop at', ((i + 1 : Nat) : Int)), ?_, rfl, ins_sorted hP hlow (fun h => hcase.resolve_right (fun hn => hn h)) hat, fun y => ?_, by simp; omega⟩
        · have hrun : loopO f (L ++ [x], IntKind.i64.wrap (((L ++ [x]).length : Int) - 1)) = some (L.take at' ++ x :: L.drop at') := by
            obtain ⟨r, h1, rfl⟩ := loop_run (f := f) (fun j s => s = (L.take (L.length - j) ++ x :: L.drop (L.length - j), ((L.length - j : Nat) : Int))) (fun r => r = L.take at' ++ x :: L.drop at') (L.length - at') (fun j s hj hs => by
              subst hs
              refine .inl ⟨_, ?_, rfl⟩
              have := hf (L.length - (j + 1)) (by omega) (by omega)
              rw [show L.length - (j + 1) + 1 = L.length - j by omega] at this
              exact this) (fun s hs => by
              subst hs
              exact ⟨_, by rw [show L.length - (L.length - at') = at' by omega]; exact he, rfl⟩) (L.length - at') 0 (L ++ [x], (L.length : Int)) (by omega) (by simp)
            rw [show IntKind.i64.wrap (((L ++ [x]).length : Int) - 1) = (L.length : Int) by rw [List.length_append, List.length_singleton, i64_id (by omega) (by omega)]; omega]
            exact h1
          rw [hrun]
          rfl
        · rw [hm' y]
          constructor
          · intro h
            rcases List.mem_append.1 h with h | h
            · exact .inl (List.mem_of_mem_take h)
            · rcases List.mem_cons.1 h with h | h
              · exact .inr h
              · exact .inl (List.mem_of_mem_drop h)
          · rintro (h | rfl)
            · rw [← List.take_append_drop at' L] at h
              rcases List.mem_append.1 h with h | h
              · exact List.mem_append_left _ h
              · exact List.mem_append_right _ (List.mem_cons_of_mem _ h)
            · exact List.mem_append_right _ List.mem_cons_self
      by_cases hlt : at' < L.length
      · rw [if_pos (by omega), idxO_getD [] rfl hlt]
        simp only [Option.bind_some]
        by_cases e : L.getD at' [] = x
        · rw [if_pos e]
          refine ⟨_, rfl, rfl, hP, fun y => ?_, by simp only; omega⟩
          rw [hm' y]
          exact ⟨.inl, fun h => h.elim id fun h => by rw [h, ← e]; exact hLg at' hlt⟩
        · rw [if_neg e, appO_of (by simp; omega)]
          simp only [Option.bind_some]
          have hgt : ltK x (L.getD at' []) := by
            have h1 := hnot hlt
            have h2 := cmp_zero (L.getD at' []) x
            have h3 := cmp_swap x (L.getD at' [])
            have h4 : Lib.compareBytes (L.getD at' []) x ≠ 0 := fun h => e (h2 h)
            unfold ltK at *
            omega
          refine shift (.inl hgt) _ (fun k h1 h2 => ?_) ?_
          · obtain ⟨s1, s2, s3⟩ := shift_step L x k h2
            have s2' : idxO ((L.take (k + 1) ++ x :: L.drop (k + 1)).set (k + 1) (L.getD k [])) (k : Int) = some (L.getD k []) := by
              rw [idxO_getD (n := k) [] rfl (by simp; omega), set_get, if_neg (by omega), ← idxO_getD (n := k) [] rfl (by simp; omega), s2]
            simp only
            rw [if_pos (by omega), s1, i64_id (n := ((k + 1 : Nat) : Int) - 1) (by omega) (by omega), show ((k + 1 : Nat) : Int) - 1 = (k : Int) by omega, s2]
            simp only [Option.bind_some, Int.toNat_natCast]
            rw [s2']
            simp only [Option.bind_some]
            rw [s3]
          · simp only
            rw [if_neg (by omega)]
      · rw [if_neg (by omega), appO_of (by simp; omega)]
        simp only [Option.bind_some]
        refine shift (.inr hlt) _ (fun k h1 h2 => ?_) ?_
        · omega
        · simp only
          rw [if_neg (by omega)]
  · rintro ⟨L, k⟩ ⟨hk, h⟩
    simp only at hk h
    subst hk
    refine ⟨L, ?_, h⟩
    simp only
    rw [if_neg (by omega)]
  · intro r h
    exact ⟨r, rfl, h⟩
end Go.Proofs.YtfepdfjhejkemaaDoor
