/- Plain: the program's store and the document's answer alike. -/
import Derived.Test.YtfepdfjhejkemaaDoorDuoC
set_option linter.unusedSimpArgs false
set_option linter.unusedVariables false
namespace Go.Proofs.YtfepdfjhejkemaaDoor
open Go.RowKit Go.Tri
/-- The disk is in order. -/
structure DOk (d : T_disk_Disk_o) (n k : Nat) : Prop where
  hn : d.1.length = n
  h2 : 2 ≤ n
  h9 : n ≤ 4096
  h5 : All512 d.1
  hp : PenOk n d.2.1
  hl : d.2.1.length ≤ k
/-- The same sectors are known by the same digests. -/
structure SOk (n : Nat) (wh : List UInt8 → Option Int) (hs : Int → Option (List UInt8)) (kn : List Bool) (ha : List (List UInt8)) : Prop where
  hk : kn.length = n
  hh : ha.length = n
  hi : ∀ i : Nat, i < n → hs (i : Int) = if kn.getD i false = true then some (ha.getD i []) else none
  ho : ∀ (j : Int) (h : List UInt8), hs j = some h → ∃ i : Nat, i < n ∧ j = (i : Int) ∧ 2 ≤ i
  hw : ∀ (h : List UInt8) (j : Int), wh h = some j ↔ hs j = some h
  hl : ∀ i : Nat, i < n → (ha.getD i []).length = 32
/-- The same digests are held. -/
def HOk (mk : List UInt8 → Option Int) (held : List (List UInt8)) (k : Nat) : Prop := (∀ h, (mk h).getD 0 ≠ 0 ↔ h ∈ held) ∧ held.length ≤ k
section
variable {n k : Nat} {wh : List UInt8 → Option Int} {hs : Int → Option (List UInt8)} {mk : List UInt8 → Option Int} {kn : List Bool} {ha held : List (List UInt8)}
theorem SOk.knH (S : SOk n wh hs kn ha) (h : List UInt8) (i : Nat) (hi : i < n) : KnH kn ha h i ↔ wh h = some (i : Int) := by
  rw [S.hw, S.hi i hi]
  unfold KnH
  by_cases e : kn.getD i false = true
  · rw [if_pos e]; exact ⟨fun hh => by rw [hh.2], fun hh => ⟨e, Option.some.inj hh⟩⟩
  · rw [if_neg e]; exact ⟨fun hh => absurd hh.1 e, fun hh => by cases hh⟩
theorem SOk.at (S : SOk n wh hs kn ha) (d : T_disk_Disk_o) (held : List (List UInt8)) (h : List UInt8) (hn : n ≤ 4096) :
    (wh h = none ∧ rsAt (d, kn, ha, held) h = some (-1)) ∨ ∃ i : Nat, i < n ∧ 2 ≤ i ∧ wh h = some (i : Int) ∧ rsAt (d, kn, ha, held) h = some (i : Int) := by
  have hk := S.hk
  have hh := S.hh
  rcases rsAt_eq d kn ha held h (by omega) (by omega) with ⟨h1, h2⟩ | ⟨i, h1, h2, h3, h4⟩
  · refine .inl ⟨?_, h1⟩
    rcases hw : wh h with _ | j
    · rfl
    · obtain ⟨i, h3, rfl, h4⟩ := S.ho j h ((S.hw h j).1 hw)
      exact absurd ((S.knH h i h3).2 hw) (h2 i (by omega))
  · have hw := (S.knH h i (by omega)).1 h3
    obtain ⟨i', h5, h6, h7⟩ := S.ho _ h ((S.hw h _).1 hw)
    exact .inr ⟨i, by omega, by omega, hw, h1⟩
theorem SOk.spare (S : SOk n wh hs kn ha) (H : HOk mk held k) (i : Nat) (hi : i < n) : freeB hs mk (i : Int) = true ↔ ¬ (kn.getD i false = true ∧ ha.getD i [] ∈ held) := by
  unfold freeB
  rw [S.hi i hi]
  by_cases e : kn.getD i false = true
  · rw [if_pos e]
    simp only [decide_eq_true_eq, e, true_and]
    rw [← H.1]
    exact ⟨fun h1 h2 => h2 h1, fun h1 => Classical.byContradiction h1⟩
  · rw [if_neg e]
    exact ⟨fun _ hh => e hh.1, fun _ => rfl⟩
/-! ### Free, Has, Hashes -/
theorem SOk.free (S : SOk n wh hs kn ha) (H : HOk mk held k) (hk : k ≤ 1000000) {d : T_disk_Disk_o} {c : Nat} (D : DOk d n c) : ∃ r, stFree (d, wh, hs, mk) = some r ∧ rsFree (d, kn, ha, held) = some r := by
  obtain ⟨pl, pen, lim, dn⟩ := d
  have h1 := S.hk
  have h2 := S.hh
  have h3 := H.2
  have h4 := D.h9
  have h5 := D.h2
  have hn : pl.length = n := D.hn
  refine ⟨_, stFree_eq pl pen lim dn wh hs mk (by omega) (by omega), ?_⟩
  rw [rsFree_eq (pl, pen, lim, dn) kn ha held hs mk (by omega) (by omega) (by omega) fun i hi _ => S.spare H i (by omega), h1, hn]
def knL (kn : List Bool) (ha : List (List UInt8)) : Nat → List (List UInt8)
  | 0 => []
  | i + 1 => if kn.getD i false = true then knL kn ha i ++ [ha.getD i []] else knL kn ha i
theorem knL_len (kn : List Bool) (ha : List (List UInt8)) : ∀ i, (knL kn ha i).length ≤ i
  | 0 => Nat.le_refl _
  | i + 1 => by
    have := knL_len kn ha i
    simp only [knL]
    split <;> simp <;> omega
theorem knL_mem (kn : List Bool) (ha : List (List UInt8)) (x : List UInt8) : ∀ i, x ∈ knL kn ha i ↔ ∃ j, j < i ∧ KnH kn ha x j
  | 0 => by simp [knL]
  | i + 1 => by
    have ih := knL_mem kn ha x i
    have hsp : (∃ j, j < i + 1 ∧ KnH kn ha x j) ↔ (∃ j, j < i ∧ KnH kn ha x j) ∨ KnH kn ha x i := by
      constructor
      · rintro ⟨j, h1, h2⟩
        by_cases e : j = i
        · subst e; exact .inr h2
        · exact .inl ⟨j, by omega, h2⟩
      · rintro (⟨j, h1, h2⟩ | h)
        · exact ⟨j, by omega, h2⟩
        · exact ⟨i, by omega, h⟩
    rw [hsp, ← ih]
    simp only [knL]
    by_cases e : kn.getD i false = true
    · rw [if_pos e, List.mem_append, List.mem_singleton]
      unfold KnH
      simp only [e, true_and]
      exact ⟨fun h => h.imp id Eq.symm, fun h => h.imp id Eq.symm⟩
    · rw [if_neg e]
      exact ⟨.inl, fun h => h.elim id fun h => absurd h.1 e⟩
theorem SOk.hashes (S : SOk n wh hs kn ha) (d : T_disk_Disk_o) (mk : List UInt8 → Option Int) (held : List (List UInt8)) (hn : n ≤ 4096) : ∃ l, stHashes (d, wh, hs, mk) = some l ∧ rsHashes (d, kn, ha, held) = some l ∧ l.length ≤ 4096 := by
  have hk := S.hk
  have hh := S.hh
  have h32 : ∀ x ∈ knL kn ha n, x.length = 32 := fun x hx => by
    obtain ⟨j, h1, h2⟩ := (knL_mem kn ha x n).1 hx
    rw [← h2.2]; exact S.hl j h1
  have hlen := knL_len kn ha n
  obtain ⟨l, hl, hP, hM, hL⟩ := sorted_eq (knL kn ha n) (by omega) h32
  have hmem : ∀ x, x ∈ l ↔ (wh x).isSome = true := fun x => by
    rw [hM x, List.take_length, knL_mem]
    constructor
    · rintro ⟨j, h1, h2⟩
      rw [(S.knH x j h1).1 h2]; rfl
    · intro h
      obtain ⟨j, hj⟩ := Option.isSome_iff_exists.1 h
      obtain ⟨i, h1, rfl, _⟩ := S.ho j x ((S.hw x j).1 hj)
      exact ⟨i, h1, (S.knH x i h1).2 hj⟩
  have hnd : l.Nodup := hP.imp fun {a b} h e => by subst e; unfold ltK at h; rw [cmp_self] at h; omega
  obtain ⟨l', h1, h2, h3⟩ := sortKeys_of (m := wh) l hnd hmem (by omega)
  have e : l' = l := sorted_same h3.1 hP fun x => by rw [h3.2 x, hmem x]
  subst e
  refine ⟨l', ?_, ?_, by omega⟩
  · unfold stHashes
    simp only [h1, Option.bind_some]
  · unfold rsHashes
    refine bind_run (fun i s => s = (knL kn ha i, (i : Int))) (fun r => r = knL kn ha n) n rfl ?_ ?_ ?_
    · rintro i _ hi rfl
      refine .inl ⟨_, ?_, rfl⟩
      have := knL_len kn ha i
      simp only
      rw [if_pos (by omega), idxO_getD false rfl (by omega)]
      simp only [Option.bind_some]
      rw [i64_id (by omega) (by omega)]
      by_cases e : kn.getD i false = true
      · rw [if_pos e, idxO_getD [] rfl (by omega)]
        simp only [Option.bind_some]
        rw [appO_of (by simp; omega)]
        simp only [Option.bind_some, knL, e, if_true]
        rfl
      · rw [if_neg e]
        simp only [Option.bind_some, knL, e]
        rfl
    · rintro _ rfl
      refine ⟨_, ?_, rfl⟩
      simp only
      rw [if_neg (by omega)]
    · rintro _ rfl
      rw [hl]
      rfl
/-! ### Get -/
theorem read_both {d : T_disk_Disk_o} {c : Nat} (D : DOk d n c) (hc : c ≤ 1000000) (i : Nat) (hi : i < n) : (∃ e, e ≠ 0 ∧ diskRead d (i : Int) = some ([], e) ∧ rdRead d (i : Int) = some ([], e)) ∨ ∃ s, s.length = 512 ∧ diskRead d (i : Int) = some (s, 0) ∧ rdRead d (i : Int) = some (s, 0) := by
  obtain ⟨pl, pen, lim, dn⟩ := d
  have hn : pl.length = n := D.hn
  have hp : PenOk pl.length pen := by rw [hn]; exact D.hp
  have hl : pen.length ≤ c := D.hl
  cases dn with
  | true => exact .inl ⟨3, by omega, rfl, rfl⟩
  | false =>
    refine .inr ⟨_, eff_512 pen pl D.h5 hp i (by rw [eff_len]; omega), diskRead_eff pl pen lim i (by omega) hp D.h5, rdRead_eff pl pen lim i (by omega) hp D.h5 (by omega)⟩
theorem SOk.get (S : SOk n wh hs kn ha) (mk : List UInt8 → Option Int) (held : List (List UInt8)) {d : T_disk_Disk_o} {c : Nat} (D : DOk d n c) (hc : c ≤ 1000000) (h : List UInt8) : ∃ r, stGet (d, wh, hs, mk) h = some r ∧ rsGet (d, kn, ha, held) h = some r := by
  unfold stGet rsGet
  rcases S.at d held h D.h9 with ⟨h1, h2⟩ | ⟨i, h1, h2, h3, h4⟩
  · refine ⟨([], 51), ?_, ?_⟩
    · simp [h1]
    · simp only [h2, Option.bind_some]
      rw [if_pos (by omega)]
  · simp only [h3, h4, Option.bind_some, Option.isSome_some, Bool.not_true, Option.getD_some]
    rw [if_neg (by simp), if_neg (by omega)]
    rcases read_both D hc i h1 with ⟨e, he, h5, h6⟩ | ⟨s, hs', h5, h6⟩
    · rw [h5, h6]
      simp only [Option.bind_some]
      rw [if_neg he, if_neg he]
      exact ⟨_, rfl, rfl⟩
    · rw [h5, h6]
      simp only [Option.bind_some, if_true]
      rcases both_unwrap s hs' with ⟨b, hb, _, h7, h8⟩ | ⟨x, r, h7, h8, h9, _⟩
      · rw [h7, h8]
        simp only [Option.bind_some, if_true]
        rw [shaSum_eq b (by omega), rSum_eq b (by omega)]
        simp only [Option.bind_some]
        by_cases e : Hs b = h
        · rw [if_pos e]; exact ⟨_, rfl, rfl⟩
        · rw [if_neg e]; exact ⟨_, rfl, rfl⟩
      · rw [h7, h9]
        simp only [Option.bind_some]
        rw [if_neg h8, if_neg (by omega)]
        exact ⟨_, rfl, rfl⟩
/-! ### Put -/
theorem write_gen {d : T_disk_Disk_o} {c : Nat} (D : DOk d n c) (hc : c ≤ 1000000) (i : Nat) (hi : i < n) (x : List UInt8) (hx : x.length = 512) : ∃ e d', diskWrite d (i : Int) x = some (e, d') ∧ DOk d' n (c + 1) := by
  have hn := D.hn
  have hl := D.hl
  unfold diskWrite
  by_cases h1 : d.2.2.2 = true
  · rw [if_pos h1]; exact ⟨_, _, rfl, D.hn, D.h2, D.h9, D.h5, D.hp, by omega⟩
  rw [if_neg h1, if_neg (by omega), if_neg (by omega), if_pos (by omega)]
  obtain ⟨b, d', e1, e2, e3⟩ := diskCall_gen d
  rw [e1]
  simp only [Option.bind_some]
  rw [cloneB_eq x (by omega)]
  simp only [Option.bind_some]
  rw [appO_of (by rw [e3]; simp; omega)]
  simp only [Option.bind_some]
  have ok : DOk (d'.1, d'.2.1 ++ [((i : Int), x)], d'.2.2.1, d'.2.2.2) n (c + 1) := by
    rw [e2, e3]
    exact ⟨D.hn, D.h2, D.h9, D.h5, pen_snoc D.hp i hi x hx, by simp; omega⟩
  by_cases hb : (!b) = true
  · rw [if_pos hb]; exact ⟨_, _, rfl, ok⟩
  · rw [if_neg hb]; exact ⟨_, _, rfl, ok⟩
theorem HOk.add (H : HOk mk held k) (h : List UInt8) : HOk (fset h 1 mk) (held ++ [h]) (k + 1) := by
  refine ⟨fun x => ?_, by have := H.2; simp; omega⟩
  rw [List.mem_append, List.mem_singleton, ← H.1 x]
  by_cases e : x = h
  · simp [fset, e]
  · simp [fset, e]
theorem SOk.put (S : SOk n wh hs kn ha) (h : List UInt8) (h32 : h.length = 32) (hw : wh h = none) (i : Nat) (h2 : 2 ≤ i) (hi : i < n) : SOk n (fset h (i : Int) (unwh hs (i : Int) wh)) (fset (i : Int) h hs) (kn.set i true) (ha.set i h) := by
  have hk := S.hk
  have hh := S.hh
  refine ⟨by simpa using S.hk, by simpa using S.hh, fun j hj => ?_, fun j x hx => ?_, fun x j => ?_, fun j hj => ?_⟩
  · rw [set_get, set_get]
    by_cases e : j = i
    · subst e; simp [fset, hk, hh, hi]
    · have hne : ∀ p : Prop, ¬ (j = i ∧ p) := fun p hh => e hh.1
      rw [if_neg (hne _), if_neg (hne _), ← S.hi j hj]
      have : ¬ (j : Int) = (i : Int) := by omega
      simp [fset, this]
  · by_cases e : j = (i : Int)
    · exact ⟨i, hi, e, h2⟩
    · simp only [fset, e, if_false] at hx; exact S.ho j x hx
  · have key : unwh hs (i : Int) wh x = some j ↔ wh x = some j ∧ j ≠ (i : Int) := by
      unfold unwh
      rcases ho : hs (i : Int) with _ | o
      · simp only
        exact ⟨fun hx => ⟨hx, fun e => by
          have := (S.hw x j).1 hx
          rw [e, ho] at this; cases this⟩, fun hx => hx.1⟩
      · simp only [fdel]
        by_cases ex : x = o
        · subst ex
          simp only [if_true]
          have h3 := (S.hw x _).2 ho
          rw [h3]
          constructor
          · intro h; cases h
          · rintro ⟨h4, h5⟩; injection h4 with h4; exact absurd h4.symm h5
        · simp only [ex, if_false]
          refine ⟨fun hx => ⟨hx, fun e => ?_⟩, fun hx => hx.1⟩
          have := (S.hw x j).1 hx
          rw [e, ho] at this
          injection this with this
          exact ex this.symm
    by_cases ex : x = h
    · subst ex
      simp only [fset, if_true]
      by_cases ej : j = (i : Int)
      · simp [ej]
      · simp only [ej, if_false]
        rw [← S.hw, hw]
        simp only [Option.some.injEq, reduceCtorEq, iff_false]
        exact fun e => ej e.symm
    · simp only [fset, ex, if_false]
      rw [key, S.hw]
      by_cases ej : j = (i : Int)
      · simp only [ej, if_true, ne_eq, not_true, and_false, false_iff, Option.some.injEq]
        exact fun e => ex e.symm
      · simp [ej]
  · rw [set_get]
    split
    · exact h32
    · exact S.hl j hj
theorem SOk.putBoth (S : SOk n wh hs kn ha) (H : HOk mk held k) (hk : k ≤ 1000000) {d : T_disk_Disk_o} {c : Nat} (D : DOk d n c) (hc : c ≤ 1000000) (b : List UInt8) (hb : b.length ≤ 1000) :
    ∃ x e d' wh' hs' mk' kn' ha' held', stPut (d, wh, hs, mk) b = some (x, e, (d', wh', hs', mk')) ∧ rsPut (d, kn, ha, held) b = some (x, e, (d', kn', ha', held')) ∧ DOk d' n (c + 1) ∧ SOk n wh' hs' kn' ha' ∧ HOk mk' held' (k + 1) := by
  have hkn := S.hk
  have hha := S.hh
  have h9 := D.h9
  have hH := H.2
  have up : DOk d n (c + 1) := ⟨D.hn, D.h2, D.h9, D.h5, D.hp, Nat.le_succ_of_le D.hl⟩
  have upH : HOk mk held (k + 1) := ⟨H.1, Nat.le_succ_of_le H.2⟩
  unfold stPut rsPut
  by_cases h47 : 470 < b.length
  · rw [wrap_big b h47, rWrap_big b h47]
    exact ⟨_, _, _, _, _, _, _, _, _, rfl, rfl, up, S, upH⟩
  · rw [wrap_ok b (by omega), rWrap_ok b (by omega)]
    simp only [Option.bind_some, if_true]
    rw [shaSum_eq b (by omega), rSum_eq b (by omega)]
    simp only [Option.bind_some, stHas]
    have happ : ∀ l : List (List UInt8), l.length ≤ 1000000 → Option.bind (appO ([] : List (List UInt8)) l) (fun x => appO x [Hs b]) = some (l ++ [Hs b]) := fun l hl => by
      rw [appO_of (by simp; omega)]
      simp only [Option.bind_some, List.nil_append]
      rw [appO_of (by simp; omega)]
    rcases S.at d held (Hs b) D.h9 with ⟨h1, h2⟩ | ⟨i, h1, h2, h3, h4⟩
    · rw [h1, h2]
      simp only [Option.bind_some, Option.isSome_none]
      rw [if_neg (by simp), if_pos (by omega)]
      -- the document's loop
      have hsp : ∀ i : Nat, i < n → rsSpare (d, kn, ha, held) (i : Int) = some (decide (1 < i ∧ freeB hs mk (i : Int) = true)) := fun i hi => by
        rw [rsSpare_eq d kn ha held i (by omega) (by omega) (by omega)]
        congr 1
        rw [decide_eq_decide, S.spare H i hi]
      have hdoc : ∀ j : Nat, 2 ≤ j → j ≤ n → (∀ q : Nat, 2 ≤ q → q < j → freeB hs mk (q : Int) = false) → (j < n → freeB hs mk (j : Int) = true) → loopO (fun (s138 : Int) => if s138 < ((kn).length : Int) then ((rsSpare (d, kn, ha, held) s138).bind fun x146 =>
          if (!x146) = true then (some (.inl (IntKind.i64.wrap (s138 + 1))))
          else (some (.inr s138)))
          else (some (.inr s138))) 0 = some (j : Int) := fun j hj hjn hq hf => by
        obtain ⟨r, e1, rfl⟩ := loop_run (f := fun (s138 : Int) => if s138 < ((kn).length : Int) then ((rsSpare (d, kn, ha, held) s138).bind fun x146 =>
          if (!x146) = true then (some (.inl (IntKind.i64.wrap (s138 + 1))))
          else (some (.inr s138)))
          else (some (.inr s138))) (fun i s => s = (i : Int)) (fun r => r = (j : Int)) j (fun i s hi hs' => by
            subst hs'
            refine .inl ⟨_, ?_, rfl⟩
            rw [if_pos (by omega), hsp i (by omega)]
            simp only [Option.bind_some]
            rw [if_pos, i64_id (by omega) (by omega)]
            · rfl
            · rw [decide_eq_false]
              · rfl
              · rintro ⟨a1, a2⟩
                rw [hq i (by omega) (by omega)] at a2
                cases a2) (fun s hs' => by
            subst hs'
            refine ⟨_, ?_, rfl⟩
            by_cases hjn' : j < n
            · rw [if_pos (by omega), hsp j hjn']
              simp only [Option.bind_some]
              rw [if_neg]
              rw [decide_eq_true ⟨by omega, hf hjn'⟩]
              simp
            · rw [if_neg (by omega)]) j 0 0 (by omega) rfl
        exact e1
      -- the program's loop: the first free sector
      have hprog : ∀ (f : Int → Option (Int ⊕ (Unit ⊕ ((List UInt8) × Int × (T_disk_Disk_o × ((List UInt8) → Option Int) × (Int → Option (List UInt8)) × ((List UInt8) → Option Int)))))) (g : Nat → Unit ⊕ ((List UInt8) × Int × (T_disk_Disk_o × ((List UInt8) → Option Int) × (Int → Option (List UInt8)) × ((List UInt8) → Option Int)))), (∀ i : Nat, i < n → freeB hs mk (i : Int) = false → f (i : Int) = some (.inl ((i + 1 : Nat) : Int))) → (∀ i : Nat, i < n → 2 ≤ i → freeB hs mk (i : Int) = true → f (i : Int) = some (.inr (g i))) → f (n : Int) = some (.inr (.inl ())) →
          ∃ j : Nat, 2 ≤ j ∧ j ≤ n ∧ (∀ q : Nat, 2 ≤ q → q < j → freeB hs mk (q : Int) = false) ∧ (j < n → freeB hs mk (j : Int) = true) ∧ loopO f 2 = some (if j < n then g j else .inl ()) := by
        intro f g f1 f2 f3
        have h2n := D.h2
        rcases loop_find (f := f) (n := n) (fun i => freeB hs mk (i : Int)) g (.inl ()) f1 f2 f3 (n - 2) 2 (by omega) (by omega) with ⟨j, a1, a2, a3, a4, a5⟩ | ⟨a1, a2⟩
        · exact ⟨j, a1, by omega, a4, fun _ => a3, by rw [if_pos a2]; exact a5⟩
        · exact ⟨n, h2n, Nat.le_refl _, a1, fun h => by omega, by rw [if_neg (by omega)]; exact a2⟩
      have hwr : ∀ i : Nat, i < n → ∃ e d', diskWrite d (i : Int) (Wr b) = some (e, d') ∧ DOk d' n (c + 1) := fun i hi => write_gen D hc i hi _ (Wr_len b (by omega))
      let W : Nat → Int × T_disk_Disk_o := fun i => (diskWrite d (i : Int) (Wr b)).getD (0, d)
      have hW : ∀ i : Nat, i < n → diskWrite d (i : Int) (Wr b) = some (W i) ∧ DOk (W i).2 n (c + 1) := fun i hi => by
        obtain ⟨e, d', h3, h4⟩ := hwr i hi
        have : W i = (e, d') := by show (diskWrite d (i : Int) (Wr b)).getD (0, d) = _; rw [h3]; rfl
        rw [this]; exact ⟨h3, h4⟩
      obtain ⟨j, j1, j2, j3, j4, j5⟩ := hprog (fun (s235 : Int) => (diskSectors d).bind fun x239 =>
          if s235 < x239 then ((stfree (d, wh, hs, mk) s235).bind fun x241 =>
          if (!x241) = true then (some (.inl (IntKind.i64.wrap (s235 + 1))))
          else ((diskWrite d s235 (Wr b)).bind fun x246 =>
          if x246.1 = 0 then (Option.bind (α := (T_store_Store_o)) (if ((hs s235).isSome) = true then (some (fdel ((hs s235).getD (List.replicate 32 0)) wh, hs, mk))
          else (some (wh, hs, mk))) fun r259 => some (.inr (.inr (Hs b, 0, (x246.2, (fset (Hs b) s235 r259.1, fset s235 (Hs b) r259.2.1, fset (Hs b) 1 r259.2.2))))))
          else (some (.inr (.inr (((List.replicate 32 0) : List UInt8), x246.1, (x246.2, wh, hs, mk)))))))
          else (some (.inr (.inl ())))) (fun i => if (W i).1 = 0 then .inr (Hs b, 0, ((W i).2, (fset (Hs b) (i : Int) (unwh hs (i : Int) wh), fset (i : Int) (Hs b) hs, fset (Hs b) 1 mk))) else .inr (z32, (W i).1, ((W i).2, wh, hs, mk))) (fun i hi hf => by
            simp only [diskSectors, Option.bind_some]
            rw [D.hn, if_pos (by omega), stfree_eq, hf]
            simp only [Option.bind_some]
            rw [i64_id (by omega) (by omega)]
            rfl) (fun i hi _ hf => by
            simp only [diskSectors, Option.bind_some]
            rw [D.hn, if_pos (by omega), stfree_eq, hf]
            simp only [Option.bind_some]
            rw [if_neg (by simp), (hW i hi).1]
            simp only [Option.bind_some]
            by_cases e : (W i).1 = 0
            · rw [if_pos e, if_pos e]
              unfold unwh
              rcases hs (i : Int) with _ | o
              · rfl
              · rfl
            · rw [if_neg e, if_neg e]
              rfl) (by
            simp only [diskSectors, Option.bind_some]
            rw [D.hn, if_neg (by omega)])
      rw [j5, hdoc j j1 j2 j3 j4]
      simp only [Option.bind_some]
      by_cases hjn : j < n
      · have hne : ¬ ((j : Int) = (kn.length : Int)) := by omega
        rw [if_pos hjn, if_neg hne, rdWrite_eq, (hW j hjn).1]
        simp only [Option.bind_some]
        by_cases e : (W j).1 = 0
        · rw [if_pos e, if_pos e, idxO_getD false rfl (by omega), idxO_getD [] rfl (by omega)]
          simp only [Option.bind_some, Sum.elim_inl, Sum.elim_inr, Int.toNat_natCast]
          rw [appO_of (by simp; omega)]
          simp only [Option.bind_some, List.nil_append]
          rw [appO_of (by simp; omega)]
          exact ⟨_, _, _, _, _, _, _, _, _, rfl, rfl, (hW j hjn).2, S.put (Hs b) (Hs_len b) h1 j j1 hjn, H.add (Hs b)⟩
        · rw [if_neg e, if_neg e]
          exact ⟨_, _, _, _, _, _, _, _, _, rfl, rfl, (hW j hjn).2, S, upH⟩
      · rw [if_neg hjn, if_pos (by omega)]
        exact ⟨_, _, _, _, _, _, _, _, _, rfl, rfl, up, S, upH⟩
    · rw [h3, h4]
      simp only [Option.bind_some, Option.isSome_some, if_true]
      rw [if_neg (by omega)]
      simp only [Option.bind_some, Sum.elim_inl]
      rw [appO_of (by simp; omega)]
      simp only [Option.bind_some, List.nil_append]
      rw [appO_of (by simp; omega)]
      exact ⟨_, _, _, _, _, _, _, _, _, rfl, rfl, up, S, H.add (Hs b)⟩
end
end Go.Proofs.YtfepdfjhejkemaaDoor
