/- Plain: a crash is told alike by the program's disk and the document's. -/
import Derived.Test.YtfepdfjhejkemaaDoorDuo
set_option linter.unusedSimpArgs false
set_option linter.unusedVariables false
namespace Go.Proofs.YtfepdfjhejkemaaDoor
open Go.RowKit Go.Tri
/-- A number of 64 bits. -/
def I64 (x : Int) : Prop := -9223372036854775808 ≤ x ∧ x ≤ 9223372036854775807
theorem andI_three (x : Int) : andI .i64 x 3 = x % 4 := by
  have h : (BitVec.ofInt IntKind.i64.bits x &&& BitVec.ofInt IntKind.i64.bits 3).toNat = (x % 4).toNat := by
    show (BitVec.ofInt 64 x &&& BitVec.ofInt 64 3).toNat = _
    rw [BitVec.toNat_and, show (BitVec.ofInt 64 3).toNat = 2 ^ 2 - 1 from rfl, Nat.and_two_pow_sub_one_eq_mod, BitVec.toNat_ofInt]
    omega
  unfold andI
  rw [h, i64_id (by omega) (by omega)]
  omega
theorem tparts (x : Int) (b : Nat) (hb : 0 < b) : ∃ q r : Int, x.tdiv b = q ∧ x.tmod b = r ∧ (b : Int) * q + r = x ∧ -b < r ∧ r < b ∧ (0 ≤ x → 0 ≤ r ∧ 0 ≤ q) ∧ (x ≤ 0 → r ≤ 0 ∧ q ≤ 0) := by
  refine ⟨_, _, rfl, rfl, Int.mul_tdiv_add_tmod x b, ?_, Int.tmod_lt_of_pos x (by omega), fun h => ⟨Int.tmod_nonneg _ h, Int.tdiv_nonneg h (by omega)⟩, fun h => ⟨?_, ?_⟩⟩
  · exact Int.lt_tmod_of_pos x (by omega)
  · have := Int.tmod_nonneg (b : Int) (a := -x) (by omega)
    rw [Int.neg_tmod] at this
    omega
  · have := Int.tdiv_nonneg (a := -x) (b := (b : Int)) (by omega) (by omega)
    rw [Int.neg_tdiv] at this
    omega
theorem floor_four (x : Int) (h : I64 x) : m_triremeref01_floor x 4 = some (x / 4, x % 4) := by
  obtain ⟨q, r, e1, e2, e3, e4, e5, e6, e7⟩ := tparts x 4 (by omega)
  obtain ⟨h1, h2⟩ := h
  unfold m_triremeref01_floor quoO remO
  rw [if_neg (by omega), if_neg (by omega), show x.tdiv 4 = q from e1, show x.tmod 4 = r from e2]
  simp only [Option.bind_some]
  rw [i64_id (n := q) (by omega) (by omega)]
  by_cases hr : r < 0
  · rw [if_pos hr, i64_id (by omega) (by omega), i64_id (by omega) (by omega), show q - 1 = x / 4 by omega, show r + 4 = x % 4 by omega]
  · rw [if_neg hr, show q = x / 4 by omega, show r = x % 4 by omega]
theorem floor_513 (x : Int) (h : I64 x) : m_triremeref01_floor x 513 = some (x / 513, x % 513) := by
  obtain ⟨q, r, e1, e2, e3, e4, e5, e6, e7⟩ := tparts x 513 (by omega)
  obtain ⟨h1, h2⟩ := h
  unfold m_triremeref01_floor quoO remO
  rw [if_neg (by omega), if_neg (by omega), show x.tdiv 513 = q from e1, show x.tmod 513 = r from e2]
  simp only [Option.bind_some]
  rw [i64_id (n := q) (by omega) (by omega)]
  by_cases hr : r < 0
  · rw [if_pos hr, i64_id (by omega) (by omega), i64_id (by omega) (by omega), show q - 1 = x / 513 by omega, show r + 513 = x % 513 by omega]
  · rw [if_neg hr, show q = x / 513 by omega, show r = x % 513 by omega]
/-- Where a torn write is cut. -/
def cutN (f : Int) : Nat := (f / 4 % 513).toNat
theorem cutN_le (f : Int) : cutN f ≤ 512 := by unfold cutN; omega
theorem shr_two (f : Int) : shrI .i64 f 2 = f / 4 := by
  show f.fdiv 4 = f / 4
  exact Int.fdiv_eq_ediv_of_nonneg _ (by omega)
theorem cut_eq (f : Int) : ∃ x, remO (shrI .i64 f 2) 513 = some x ∧ remO (IntKind.i64.wrap ((IntKind.i64.wrap (x + 512)) + 1)) 513 = some (cutN f : Int) := by
  rw [shr_two]
  obtain ⟨q, r, e1, e2, e3, e4, e5, e6, e7⟩ := tparts (f / 4) 513 (by omega)
  refine ⟨r, by unfold remO; rw [if_neg (by omega)]; exact congrArg some e2, ?_⟩
  unfold remO
  rw [if_neg (by omega), i64_id (n := r + 512) (by omega) (by omega), i64_id (by omega) (by omega), Int.tmod_eq_emod_of_nonneg (by omega)]
  unfold cutN
  congr 1
  omega
/-- A sector behind a crash: what lasted, what was written, its fate. -/
def fateL (x w : List UInt8) (f : Int) : List UInt8 :=
  if f % 4 = 1 then w else if f % 4 = 2 then w.take (cutN f) ++ x.drop (cutN f) else if f % 4 = 3 then x.take (cutN f) ++ w.drop (cutN f) else x
theorem fateL_len (x w : List UInt8) (f : Int) (hx : x.length = 512) (hw : w.length = 512) : (fateL x w f).length = 512 := by
  have := cutN_le f
  unfold fateL
  split
  · exact hw
  · split
    · simp; omega
    · split
      · simp; omega
      · exact hx
def crashN (pl : List (List UInt8)) (pen : List (Int × List UInt8)) (fs : List Int) : Nat → List (List UInt8)
  | 0 => pl
  | k + 1 => (crashN pl pen fs k).set (pen.getD k (0, [])).1.toNat (fateL ((crashN pl pen fs k).getD (pen.getD k (0, [])).1.toNat []) (pen.getD k (0, [])).2 (fs.getD k 0))
theorem crashN_succ (pl : List (List UInt8)) (pen : List (Int × List UInt8)) (fs : List Int) (k : Nat) {x : Int × List UInt8} (h : pen.getD k (0, []) = x) : crashN pl pen fs (k + 1) = (crashN pl pen fs k).set x.1.toNat (fateL ((crashN pl pen fs k).getD x.1.toNat []) x.2 (fs.getD k 0)) := by
  subst h; rfl
theorem crashN_len (pl : List (List UInt8)) (pen : List (Int × List UInt8)) (fs : List Int) : ∀ k, (crashN pl pen fs k).length = pl.length
  | 0 => rfl
  | k + 1 => by rw [crashN_succ pl pen fs k rfl, List.length_set, crashN_len pl pen fs k]
theorem crashN_512 (pl : List (List UInt8)) (pen : List (Int × List UInt8)) (fs : List Int) (h5 : All512 pl) (hp : PenOk pl.length pen) : ∀ k, k ≤ pen.length → All512 (crashN pl pen fs k)
  | 0, _ => h5
  | k + 1, hk => by
    have ih := crashN_512 pl pen fs h5 hp k (by omega)
    have hl := crashN_len pl pen fs k
    obtain ⟨x, hx⟩ : ∃ x, pen[k]? = some x := ⟨_, List.getElem?_eq_getElem (by omega)⟩
    have hg : pen.getD k (0, []) = x := by simp [List.getD_eq_getElem?_getD, hx]
    have hok := hp x (List.mem_of_getElem? hx)
    rw [crashN_succ pl pen fs k hg]
    intro j hj
    rw [List.length_set] at hj
    rw [set_get]
    split
    · exact fateL_len _ _ _ (ih _ (by omega)) hok.2.2
    · exact ih j hj
theorem fate_get (fs : List Int) (k : Nat) : (if (k : Int) < (fs.length : Int) then ((idxO fs (k : Int)).bind fun x => some x) else some 0) = some (fs.getD k 0) := by
  by_cases h : (k : Int) < (fs.length : Int)
  · rw [if_pos h, idxO_getD 0 rfl (by omega)]; rfl
  · rw [if_neg h, List.getD_eq_getElem?_getD, List.getElem?_eq_none (by omega)]; rfl
theorem putAt_all (x w : List UInt8) (h : w.length = x.length) : putAt x 0 (w.take x.length) = w := by
  have e : w.take x.length = w := List.take_of_length_le (by omega)
  rw [e]; simp [putAt, h]
theorem putAt_cut (x w : List UInt8) (c : Nat) (h : w.length = x.length) : putAt x c ((w.drop c).take (x.drop c).length) = x.take c ++ w.drop c := by
  have e : (w.drop c).take (x.drop c).length = w.drop c := List.take_of_length_le (by simp; omega)
  rw [e]
  unfold putAt
  have e2 : x.drop (c + (w.drop c).length) = [] := List.drop_eq_nil_of_le (by simp; omega)
  rw [e2, List.append_nil]
theorem diskCrash_N (pl : List (List UInt8)) (pen : List (Int × List UInt8)) (lim : Int) (dn : Bool) (fs : List Int) (hp : PenOk pl.length pen) (h5 : All512 pl) (hn : pl.length ≤ 4096) (hl : pen.length ≤ 1000000) :
    diskCrash (pl, pen, lim, dn) fs = some (crashN pl pen fs pen.length, [], -1, false) := by
  unfold diskCrash
  refine bind_run (fun i s => s = (pl.take i, (i : Int))) (fun r => r = pl) pl.length rfl ?_ ?_ ?_
  · rintro i _ hi rfl
    refine .inl ⟨_, ?_, rfl⟩
    simp only
    rw [if_pos (by omega), idxO_getD [] rfl hi]
    simp only [Option.bind_some]
    rw [cloneB_eq _ (by rw [h5 i hi]; omega)]
    simp only [Option.bind_some]
    rw [appO_of (by simp only [List.length_take, List.length_cons, List.length_nil]; omega), i64_id (by omega) (by omega), List.take_add_one, List.getElem?_eq_getElem hi, List.getD_eq_getElem?_getD, List.getElem?_eq_getElem hi]
    rfl
  · rintro _ rfl
    refine ⟨_, ?_, rfl⟩
    simp only
    rw [if_neg (by omega), List.take_length]
  intro r hr
  obtain rfl := hr.symm
  refine bind_run (fun i s => s = (crashN pl pen fs i, (i : Int))) (fun r => r = crashN pl pen fs pen.length) pen.length rfl ?_ ?_ ?_
  · rintro k _ hk rfl
    refine .inl ⟨_, ?_, rfl⟩
    obtain ⟨x, hx⟩ : ∃ x, pen[k]? = some x := ⟨_, List.getElem?_eq_getElem hk⟩
    have hg : pen.getD k (0, []) = x := by simp [List.getD_eq_getElem?_getD, hx]
    have hok := hp x (List.mem_of_getElem? hx)
    have hcl := crashN_len pl pen fs k
    have hc5 := crashN_512 pl pen fs h5 hp k (by omega) x.1.toNat (by omega)
    simp only
    rw [if_pos (by omega), idxO_getD (0, []) rfl hk, hg]
    simp only [Option.bind_some]
    rw [fate_get]
    simp only [Option.bind_some]
    rw [idxO_getD (n := x.1.toNat) [] (by omega) (by omega)]
    simp only [Option.bind_some]
    obtain ⟨y, hy, hc⟩ := cut_eq (fs.getD k 0)
    rw [hy]
    simp only [Option.bind_some]
    rw [hc, crashN_succ pl pen fs k hg, i64_id (by omega) (by omega), andI_three]
    simp only [Option.bind_some]
    generalize hxx : (crashN pl pen fs k).getD x.1.toNat [] = z at hc5
    generalize fs.getD k 0 = f
    have hcn := cutN_le f
    unfold fateL
    by_cases a1 : f % 4 = 1
    · rw [if_pos a1, if_pos a1, putAt_all _ _ (by omega)]
      rfl
    · rw [if_neg a1, if_neg a1]
      by_cases a2 : f % 4 = 2
      · rw [if_pos a2, if_pos a2, show slcO x.2 0 (cutN f : Int) = some ((x.2.take (cutN f)).drop 0) from slcO_of (i := 0) (by omega) (by omega)]
        simp only [Option.bind_some, List.drop_zero]
        rw [List.take_take]
        unfold putAt
        simp only [List.take_zero, List.nil_append, Nat.zero_add, List.length_take]
        rw [show min z.length (cutN f) = cutN f by omega, show min (cutN f) x.2.length = cutN f by omega]
        rfl
      · rw [if_neg a2, if_neg a2]
        by_cases a3 : f % 4 = 3
        · rw [if_pos a3, if_pos a3, slcO_of (xs := z) (by omega) (Nat.le_refl _), slcO_of (xs := x.2) (by omega) (Nat.le_refl _)]
          simp only [Option.bind_some]
          rw [List.take_length, List.take_length, Int.toNat_natCast, putAt_cut z x.2 (cutN f) (by omega)]
          rfl
        · rw [if_neg a3, if_neg a3]
          simp only [Option.bind_some]
          have : (crashN pl pen fs k).set x.1.toNat z = crashN pl pen fs k := by
            rw [← hxx, List.getD_eq_getElem?_getD, List.getElem?_eq_getElem (by omega)]
            exact List.set_getElem_self _
          rw [this]
          rfl
  · rintro _ rfl
    refine ⟨_, ?_, rfl⟩
    simp only
    rw [if_neg (by omega)]
  · rintro _ rfl
    rfl
/-! ### The document's disk -/
theorem run_set (res x : List UInt8) (i : Nat) (hi : i < 512) (hr : res.length = 512) (hx : x.length = 512) : (res.take i ++ x.drop i).set i (res.getD i 0) = res.take (i + 1) ++ x.drop (i + 1) := by
  rw [List.set_append_right _ _ (by simp only [List.length_take]; omega), List.length_take, show i - min i res.length = 0 by omega, List.drop_eq_getElem_cons (by omega : i < x.length), List.set_cons_zero, List.take_add_one, List.getElem?_eq_getElem (by omega : i < res.length), List.getD_eq_getElem?_getD, List.getElem?_eq_getElem (by omega : i < res.length)]
  simp only [Option.toList_some, Option.getD_some, List.append_assoc, List.singleton_append]
theorem run_same (res x : List UInt8) (i : Nat) (hi : i < 512) (hr : res.length = 512) (hx : x.length = 512) (h : res.getD i 0 = x.getD i 0) : res.take i ++ x.drop i = res.take (i + 1) ++ x.drop (i + 1) := by
  rw [← run_set res x i hi hr hx, h, List.set_append_right _ _ (by simp only [List.length_take]; omega), List.length_take, show i - min i res.length = 0 by omega, List.drop_eq_getElem_cons (by omega : i < x.length), List.set_cons_zero, List.getD_eq_getElem?_getD, List.getElem?_eq_getElem (by omega : i < x.length)]
  rfl
theorem fateL_get (x w : List UInt8) (f : Int) (i : Nat) (hi : i < 512) (hx : x.length = 512) (hw : w.length = 512) :
    (fateL x w f).getD i 0 = if f % 4 = 1 ∨ f % 4 = 2 ∧ i < cutN f ∨ f % 4 = 3 ∧ cutN f ≤ i then w.getD i 0 else x.getD i 0 := by
  have hc := cutN_le f
  unfold fateL
  by_cases a1 : f % 4 = 1
  · rw [if_pos a1, if_pos (.inl a1)]
  · rw [if_neg a1]
    by_cases a2 : f % 4 = 2
    · rw [if_pos a2]
      by_cases hlt : i < cutN f
      · rw [if_pos (.inr (.inl ⟨a2, hlt⟩)), List.getD_eq_getElem?_getD, List.getElem?_append_left (by simp; omega), List.getElem?_take_of_lt hlt, ← List.getD_eq_getElem?_getD]
      · rw [if_neg (by omega), List.getD_eq_getElem?_getD, List.getElem?_append_right (by simp; omega), List.getElem?_drop, List.length_take, show cutN f + (i - min (cutN f) w.length) = i by omega, ← List.getD_eq_getElem?_getD]
    · rw [if_neg a2]
      by_cases a3 : f % 4 = 3
      · rw [if_pos a3]
        by_cases hlt : cutN f ≤ i
        · rw [if_pos (.inr (.inr ⟨a3, hlt⟩)), List.getD_eq_getElem?_getD, List.getElem?_append_right (by simp; omega), List.getElem?_drop, List.length_take, show cutN f + (i - min (cutN f) x.length) = i by omega, ← List.getD_eq_getElem?_getD]
        · rw [if_neg (by omega), List.getD_eq_getElem?_getD, List.getElem?_append_left (by simp; omega), List.getElem?_take_of_lt (by omega), ← List.getD_eq_getElem?_getD]
      · rw [if_neg a3, if_neg (by omega)]
theorem rdCrash_N (pl : List (List UInt8)) (pen : List (Int × List UInt8)) (lim : Int) (dn : Bool) (fs : List Int) (hf : ∀ f ∈ fs, I64 f) (hp : PenOk pl.length pen) (h5 : All512 pl) (hn : pl.length ≤ 4096) (hl : pen.length ≤ 1000000) :
    rdCrash (pl, pen, lim, dn) fs = some (crashN pl pen fs pen.length, [], -1, false) := by
  unfold rdCrash
  refine bind_run (fun i s => s = (pl.take i, (i : Int))) (fun r => r = pl) pl.length rfl ?_ ?_ ?_
  · rintro i _ hi rfl
    refine .inl ⟨_, ?_, rfl⟩
    simp only
    rw [if_pos (by omega), idxO_getD [] rfl hi]
    simp only [Option.bind_some]
    rw [appO_of (by rw [h5 i hi]; simp)]
    simp only [Option.bind_some, List.nil_append]
    rw [appO_of (by simp only [List.length_take, List.length_cons, List.length_nil]; omega), i64_id (by omega) (by omega), List.take_add_one, List.getElem?_eq_getElem hi, List.getD_eq_getElem?_getD, List.getElem?_eq_getElem hi]
    rfl
  · rintro _ rfl
    refine ⟨_, ?_, rfl⟩
    simp only
    rw [if_neg (by omega), List.take_length]
  intro r hr
  obtain rfl := hr.symm
  refine bind_run (fun i s => s = (crashN pl pen fs i, (i : Int))) (fun r => r = crashN pl pen fs pen.length) pen.length rfl ?_ ?_ ?_
  · rintro k _ hk rfl
    refine .inl ⟨_, ?_, rfl⟩
    obtain ⟨x, hx⟩ : ∃ x, pen[k]? = some x := ⟨_, List.getElem?_eq_getElem hk⟩
    have hg : pen.getD k (0, []) = x := by simp [List.getD_eq_getElem?_getD, hx]
    have hok := hp x (List.mem_of_getElem? hx)
    have hcl := crashN_len pl pen fs k
    have hc5 := crashN_512 pl pen fs h5 hp k (by omega) x.1.toNat (by omega)
    have hfk : I64 (fs.getD k 0) := by
      by_cases h : k < fs.length
      · rw [List.getD_eq_getElem?_getD, List.getElem?_eq_getElem h]; exact hf _ (List.getElem_mem h)
      · rw [List.getD_eq_getElem?_getD, List.getElem?_eq_none (by omega)]; unfold I64; simp
    simp only
    rw [if_pos (by omega), fate_get, i64_id (by omega) (by omega)]
    simp only [Option.bind_some]
    rw [floor_four _ hfk]
    simp only [Option.bind_some]
    rw [floor_513 _ (by unfold I64 at *; omega)]
    simp only [Option.bind_some]
    rw [idxO_getD (0, []) rfl hk, hg, crashN_succ pl pen fs k hg]
    simp only [Option.bind_some]
    generalize hcur : crashN pl pen fs k = cur at hcl hc5
    generalize hxx : cur.getD x.1.toNat [] = z at hc5
    generalize fs.getD k 0 = f
    have hcn := cutN_le f
    have hcf : (cutN f : Int) = f / 4 % 513 := by unfold cutN; omega
    have hres := fateL_len z x.2 f hc5 hok.2.2
    have hget := fun i hi => fateL_get z x.2 f i hi hc5 hok.2.2
    generalize fateL z x.2 f = res at hres hget
    rw [← hcf]
    have hat : x.1.toNat < cur.length := by omega
    have e0 : ((x.1.toNat : Nat) : Int) = x.1 := by omega
    have one : Option.bind (α := (T_triremeref01_Write × (List (List UInt8)))) (loopO (fun (s24760 : T_triremeref01_Write × (List (List UInt8)) × Int) => if s24760.2.2 < 512 then (Option.bind (α := (T_triremeref01_Write × (List (List UInt8)))) (if f % 4 = 1 then ((idxO s24760.2.1 s24760.1.1).bind fun x24950 =>
        (idxO s24760.1.2 s24760.2.2).bind fun x24954 =>
        (idxO x24950 s24760.2.2).bind fun x24957 =>
        (u8O ((x24954).toNat : Int)).bind fun x24960 =>
        some ((s24760.1.1, s24760.1.2), (s24760.2.1).set (s24760.1.1 : Int).toNat ((x24950).set (s24760.2.2 : Int).toNat x24960)))
        else (if f % 4 = 2 then (if s24760.2.2 < (cutN f : Int) then ((idxO s24760.2.1 s24760.1.1).bind fun x24978 =>
        (idxO s24760.1.2 s24760.2.2).bind fun x24982 =>
        (idxO x24978 s24760.2.2).bind fun x24985 =>
        (u8O ((x24982).toNat : Int)).bind fun x24988 =>
        some ((s24760.1.1, s24760.1.2), (s24760.2.1).set (s24760.1.1 : Int).toNat ((x24978).set (s24760.2.2 : Int).toNat x24988)))
        else (if f % 4 = 3 then (Option.bind (α := (T_triremeref01_Write × (List (List UInt8)))) (if (cutN f : Int) ≤ s24760.2.2 then ((idxO s24760.2.1 s24760.1.1).bind fun x25035 =>
        (idxO s24760.1.2 s24760.2.2).bind fun x25039 =>
        (idxO x25035 s24760.2.2).bind fun x25042 =>
        (u8O ((x25039).toNat : Int)).bind fun x25045 =>
        some ((s24760.1.1, s24760.1.2), (s24760.2.1).set (s24760.1.1 : Int).toNat ((x25035).set (s24760.2.2 : Int).toNat x25045)))
        else (some (s24760.1, s24760.2.1))) fun r25017 => some (r25017.1, r25017.2))
        else (some (s24760.1, s24760.2.1))))
        else (if f % 4 = 3 then (Option.bind (α := (T_triremeref01_Write × (List (List UInt8)))) (if (cutN f : Int) ≤ s24760.2.2 then ((idxO s24760.2.1 s24760.1.1).bind fun x25092 =>
        (idxO s24760.1.2 s24760.2.2).bind fun x25096 =>
        (idxO x25092 s24760.2.2).bind fun x25099 =>
        (u8O ((x25096).toNat : Int)).bind fun x25102 =>
        some ((s24760.1.1, s24760.1.2), (s24760.2.1).set (s24760.1.1 : Int).toNat ((x25092).set (s24760.2.2 : Int).toNat x25102)))
        else (some (s24760.1, s24760.2.1))) fun r25074 => some (r25074.1, r25074.2))
        else (some (s24760.1, s24760.2.1))))) fun r24932 => some (.inl (r24932.1, r24932.2, IntKind.i64.wrap (s24760.2.2 + 1))))
        else (some (.inr (s24760.1, s24760.2.1)))) (x, cur, 0)) (fun r24074 => some r24074.2) = some (cur.set x.1.toNat res) := by
      refine bind_run (fun i s => s = (x, cur.set x.1.toNat (res.take i ++ z.drop i), (i : Int))) (fun r => r = (x, cur.set x.1.toNat res)) 512 ?_ ?_ ?_ ?_
      · have : cur.set x.1.toNat z = cur := by
          rw [← hxx, List.getD_eq_getElem?_getD, List.getElem?_eq_getElem hat]
          exact List.set_getElem_self _
        simp [this]
      · rintro i _ hi rfl
        refine .inl ⟨_, ?_, rfl⟩
        have hgi := hget i hi
        have hy : (res.take i ++ z.drop i).length = 512 := by simp; omega
        have hidx : idxO (cur.set x.1.toNat (res.take i ++ z.drop i)) x.1 = some (res.take i ++ z.drop i) := by
          rw [idxO_getD (n := x.1.toNat) [] (by omega) (by simpa using hat), set_get, if_pos ⟨rfl, hat⟩]
        have hidw : idxO x.2 (i : Int) = some (x.2.getD i 0) := idxO_getD 0 rfl (by omega)
        have hidy : idxO (res.take i ++ z.drop i) (i : Int) = some ((res.take i ++ z.drop i).getD i 0) := idxO_getD 0 rfl (by omega)
        have dos : res.getD i 0 = x.2.getD i 0 → (cur.set x.1.toNat (res.take i ++ z.drop i)).set x.1.toNat ((res.take i ++ z.drop i).set i (x.2.getD i 0)) = cur.set x.1.toNat (res.take (i + 1) ++ z.drop (i + 1)) := fun h => by
          rw [← h, run_set res z i hi hres hc5, List.set_set]
        have skip : res.getD i 0 = z.getD i 0 → cur.set x.1.toNat (res.take i ++ z.drop i) = cur.set x.1.toNat (res.take (i + 1) ++ z.drop (i + 1)) := fun h => by
          rw [run_same res z i hi hres hc5 h]
        simp only
        rw [if_pos (by omega), hidx, i64_id (by omega) (by omega)]
        by_cases a1 : f % 4 = 1
        · rw [if_pos a1]
          simp only [Option.bind_some]
          rw [hidw, hidy]
          simp only [Option.bind_some, u8_ok, Int.toNat_natCast]
          rw [dos (by rw [hgi, if_pos (.inl a1)])]
          rfl
        · rw [if_neg a1]
          by_cases a2 : f % 4 = 2
          · rw [if_pos a2]
            by_cases hlt : i < cutN f
            · rw [if_pos (by omega)]
              simp only [Option.bind_some]
              rw [hidw, hidy]
              simp only [Option.bind_some, u8_ok, Int.toNat_natCast]
              rw [dos (by rw [hgi, if_pos (.inr (.inl ⟨a2, hlt⟩))])]
              rfl
            · rw [if_neg (by omega), if_neg (by omega)]
              simp only [Option.bind_some]
              rw [skip (by rw [hgi, if_neg (by omega)])]
              rfl
          · rw [if_neg a2]
            by_cases a3 : f % 4 = 3
            · rw [if_pos a3]
              by_cases hlt : cutN f ≤ i
              · rw [if_pos (by omega)]
                simp only [Option.bind_some]
                rw [hidw, hidy]
                simp only [Option.bind_some, u8_ok, Int.toNat_natCast]
                rw [dos (by rw [hgi, if_pos (.inr (.inr ⟨a3, hlt⟩))])]
                rfl
              · rw [if_neg (by omega)]
                simp only [Option.bind_some]
                rw [skip (by rw [hgi, if_neg (by omega)])]
                rfl
            · rw [if_neg a3]
              simp only [Option.bind_some]
              rw [skip (by rw [hgi, if_neg (by omega)])]
              rfl
      · rintro _ rfl
        refine ⟨_, ?_, rfl⟩
        simp only
        rw [if_neg (by omega), List.take_of_length_le (by omega), List.drop_eq_nil_of_le (by omega), List.append_nil]
      · rintro _ rfl
        rfl
    rw [one]
    rfl
  · rintro _ rfl
    refine ⟨_, ?_, rfl⟩
    simp only
    rw [if_neg (by omega)]
  · rintro _ rfl
    rfl
end Go.Proofs.YtfepdfjhejkemaaDoor
