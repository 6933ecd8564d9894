/- Plain: StorePlays. -/
import Derived.Test.YtfepdfjhejkemaaDoorDuoD
set_option linter.unusedSimpArgs false
set_option linter.unusedVariables false
namespace Go.Proofs.YtfepdfjhejkemaaDoor
open Go.RowKit Go.Tri
/-! ### Open -/
section
variable {n k : Nat} {wh : List UInt8 → Option Int} {hs : Int → Option (List UInt8)} {mk : List UInt8 → Option Int} {kn : List Bool} {ha held : List (List UInt8)}
theorem get_snoc {α : Type} (l : List α) (x d : α) (j : Nat) : (l ++ [x]).getD j d = if j = l.length then x else l.getD j d := by
  rw [List.getD_eq_getElem?_getD, List.getD_eq_getElem?_getD]
  by_cases h : j < l.length
  · rw [if_neg (by omega), List.getElem?_append_left h]
  · rw [List.getElem?_append_right (by omega)]
    by_cases e : j = l.length
    · rw [if_pos e, e, Nat.sub_self]; rfl
    · rw [if_neg e, List.getElem?_eq_none (by simp; omega), List.getElem?_eq_none (by omega)]
theorem SOk.snoc (S : SOk n wh hs kn ha) (x : List UInt8) (hx : x.length = 32) : SOk (n + 1) wh hs (kn ++ [false]) (ha ++ [x]) := by
  have hk := S.hk
  have hh := S.hh
  refine ⟨by simp [hk], by simp [hh], fun i hi => ?_, fun j h e => ?_, S.hw, fun i hi => ?_⟩
  · rw [get_snoc, get_snoc, hk, hh]
    by_cases e : i = n
    · subst e
      rw [if_pos rfl, if_pos rfl, if_neg (by simp)]
      rcases ho : hs (i : Int) with _ | o
      · rfl
      · obtain ⟨q, h1, h2, _⟩ := S.ho _ _ ho
        omega
    · rw [if_neg e, if_neg e]
      exact S.hi i (by omega)
  · obtain ⟨q, h1, h2, h3⟩ := S.ho j h e
    exact ⟨q, by omega, h2, h3⟩
  · rw [get_snoc, hh]
    split
    · exact hx
    · exact S.hl i (by omega)
theorem SOk.snocT (S : SOk n wh hs kn ha) (x : List UInt8) (hx : x.length = 32) (h2 : 2 ≤ n) (hw : wh x = none) : SOk (n + 1) (fset x (n : Int) wh) (fset (n : Int) x hs) (kn ++ [true]) (ha ++ [x]) := by
  have hk := S.hk
  have hh := S.hh
  have h := (S.snoc x hx).put x hx hw n h2 (by omega)
  have hno : hs (n : Int) = none := by
    rcases ho : hs (n : Int) with _ | o
    · rfl
    · obtain ⟨q, h1, h2, _⟩ := S.ho _ _ ho
      omega
  have e1 : unwh hs (n : Int) wh = wh := unwh_none' hno
  have e2 : (kn ++ [false]).set n true = kn ++ [true] := by rw [List.set_append_right _ _ (by omega), hk, Nat.sub_self]; rfl
  have e3 : (ha ++ [x]).set n x = ha ++ [x] := by rw [List.set_append_right _ _ (by omega), hh, Nat.sub_self]; rfl
  rw [e1, e2, e3] at h
  exact h
where
  unwh_none' {hs : Int → Option (List UInt8)} {i : Int} {wh : List UInt8 → Option Int} (h : hs i = none) : unwh hs i wh = wh := by unfold unwh; rw [h]
theorem SOk.nil : SOk 0 fnil fnil [] [] := ⟨rfl, rfl, fun i h => by omega, fun j h e => by simp [fnil] at e, fun h j => by simp [fnil], fun i h => by omega⟩
/-- The block of a sector. -/
noncomputable def blkOf (s : List UInt8) : Option (List UInt8) := (m_triremeref04_Unwrap s).bind fun x => if x.2 = 0 then some x.1 else none
abbrev OpS : Type := (List UInt8 → Option Int) × (Int → Option (List UInt8)) × List Bool × List (List UInt8)
noncomputable def opStep (s : OpS) (i : Nat) : Option (List UInt8) → OpS
  | none => (s.1, s.2.1, s.2.2.1 ++ [false], s.2.2.2 ++ [Hs []])
  | some b => if 2 ≤ i ∧ s.1 (Hs b) = none then (fset (Hs b) (i : Int) s.1, fset (i : Int) (Hs b) s.2.1, s.2.2.1 ++ [true], s.2.2.2 ++ [Hs b]) else (s.1, s.2.1, s.2.2.1 ++ [false], s.2.2.2 ++ [Hs b])
noncomputable def opS (q : List (List UInt8)) : Nat → OpS
  | 0 => (fnil, fnil, [], [])
  | i + 1 => opStep (opS q i) i (blkOf (q.getD i []))
theorem opS_ok (q : List (List UInt8)) : ∀ i, SOk i (opS q i).1 (opS q i).2.1 (opS q i).2.2.1 (opS q i).2.2.2
  | 0 => SOk.nil
  | i + 1 => by
    have S := opS_ok q i
    show SOk (i + 1) (opStep (opS q i) i (blkOf (q.getD i []))).1 (opStep (opS q i) i (blkOf (q.getD i []))).2.1 (opStep (opS q i) i (blkOf (q.getD i []))).2.2.1 (opStep (opS q i) i (blkOf (q.getD i []))).2.2.2
    generalize opS q i = s at S
    rcases blkOf (q.getD i []) with _ | b
    · exact S.snoc _ (Hs_len _)
    · simp only [opStep]
      by_cases h : 2 ≤ i ∧ s.1 (Hs b) = none
      · rw [if_pos h]; exact S.snocT _ (Hs_len _) h.1 h.2
      · rw [if_neg h]; exact S.snoc _ (Hs_len _)
theorem read_eff {d : T_disk_Disk_o} {c : Nat} (D : DOk d n c) (hc : c ≤ 1000000) (hd : d.2.2.2 = false) : ∃ q : List (List UInt8), q.length = n ∧ All512 q ∧ (∀ i : Nat, i < n → diskRead d (i : Int) = some (q.getD i [], 0)) ∧ (∀ i : Nat, i < n → rdRead d (i : Int) = some (q.getD i [], 0)) := by
  obtain ⟨pl, pen, lim, dn⟩ := d
  have hn : pl.length = n := D.hn
  have hp : PenOk pl.length pen := by rw [hn]; exact D.hp
  have hl : pen.length ≤ c := D.hl
  replace hd : dn = false := hd
  subst hd
  exact ⟨eff pl pen, by rw [eff_len]; exact hn, eff_512 pen pl D.h5 hp, fun i hi => diskRead_eff pl pen lim i (by omega) hp D.h5, fun i hi => rdRead_eff pl pen lim i (by omega) hp D.h5 (by omega)⟩
theorem open_both {d : T_disk_Disk_o} {c : Nat} (D : DOk d n c) (hc : c ≤ 1000000) (hd : d.2.2.2 = false) : ∃ wh hs kn ha, stOpen d = some ((wh, hs, fnil), 0) ∧ rsOpen d = some ((kn, ha, []), 0) ∧ SOk n wh hs kn ha := by
  obtain ⟨q, hq, h5, hr, hr'⟩ := read_eff D hc hd
  have hn := D.hn
  have h9 := D.h9
  refine ⟨_, _, _, _, ?_, ?_, opS_ok q n⟩
  · unfold stOpen diskSectors
    simp only [Option.bind_some]
    refine bind_run (fun i s => s = (((opS q i).1, (opS q i).2.1, fnil), (i : Int))) (fun r => r = .inl ((opS q n).1, (opS q n).2.1, fnil)) n rfl ?_ ?_ ?_
    · rintro i _ hi rfl
      refine .inl ⟨_, ?_, rfl⟩
      simp only
      rw [if_pos (by omega), hr i hi]
      simp only [Option.bind_some, if_true]
      rw [i64_id (by omega) (by omega)]
      show _ = some (Sum.inl (((opStep (opS q i) i (blkOf (q.getD i []))).1, (opStep (opS q i) i (blkOf (q.getD i []))).2.1, fnil), ((i + 1 : Nat) : Int)))
      have S := opS_ok q i
      generalize opS q i = s at S
      rcases both_unwrap _ (h5 i (by omega)) with ⟨b, hb, _, h7, h8⟩ | ⟨x, r, h7, h8, h9', _⟩
      · have hbl : blkOf (q.getD i []) = some b := by unfold blkOf; rw [h8]; rfl
        rw [h7, hbl]
        simp only [Option.bind_some, opStep]
        by_cases h2 : i < 2
        · rw [if_pos (by omega), if_neg (by omega)]
          rfl
        · rw [if_neg (by omega), if_pos True.intro, shaSum_eq b (by omega)]
          simp only [Option.bind_some]
          rcases hw : s.1 (Hs b) with _ | j
          · rw [if_pos (by simp), if_pos ⟨by omega, rfl⟩]
            rfl
          · rw [if_neg (by simp), if_neg (by simp)]
            rfl
      · have hbl : blkOf (q.getD i []) = none := by unfold blkOf; rw [h9']; rfl
        rw [h7, hbl]
        simp only [Option.bind_some, opStep]
        by_cases h2 : i < 2
        · rw [if_pos (by omega)]
          rfl
        · rw [if_neg (by omega), if_neg h8]
          rfl
    · rintro _ rfl
      refine ⟨_, ?_, rfl⟩
      simp only
      rw [if_neg (by omega)]
    · rintro _ rfl
      rfl
  · unfold rsOpen
    rw [if_neg (by simp [hd])]
    refine bind_run (fun i s => s = (((opS q i).2.2.1, (opS q i).2.2.2, []), (i : Int))) (fun r => r = ((opS q n).2.2.1, (opS q n).2.2.2, [])) n rfl ?_ ?_ ?_
    · rintro i _ hi rfl
      refine .inl ⟨_, ?_, rfl⟩
      simp only
      rw [if_pos (by omega), hr' i hi]
      simp only [Option.bind_some]
      rw [i64_id (by omega) (by omega)]
      show _ = some (Sum.inl (((opStep (opS q i) i (blkOf (q.getD i []))).2.2.1, (opStep (opS q i) i (blkOf (q.getD i []))).2.2.2, []), ((i + 1 : Nat) : Int)))
      have S := opS_ok q i
      generalize opS q i = s at S
      have hk := S.hk
      have hh := S.hh
      have a1 : ∀ x : Bool, appO s.2.2.1 [x] = some (s.2.2.1 ++ [x]) := fun x => appO_of (by simp; omega)
      have a2 : ∀ x : List UInt8, appO s.2.2.2 [x] = some (s.2.2.2 ++ [x]) := fun x => appO_of (by simp; omega)
      rcases both_unwrap _ (h5 i (by omega)) with ⟨b, hb, _, h7, h8⟩ | ⟨x, r, h7, h8, h9', _⟩
      · have hbl : blkOf (q.getD i []) = some b := by unfold blkOf; rw [h8]; rfl
        rw [h8, hbl]
        simp only [Option.bind_some, opStep]
        rw [rSum_eq b (by omega)]
        simp only [Option.bind_some]
        by_cases h2 : 1 < i
        · rw [if_pos (by omega), if_pos True.intro]
          rcases S.at d [] (Hs b) (by omega) with ⟨h3, h4⟩ | ⟨j, _, _, h3, h4⟩
          · rw [h4, if_pos ⟨by omega, h3⟩]
            simp only [Option.bind_some]
            rw [a1, a2]
            rfl
          · rw [h4, if_neg (by rw [h3]; simp)]
            simp only [Option.bind_some]
            rw [a1, a2, decide_eq_false (by omega)]
            rfl
        · rw [if_neg (by omega), a1, a2, if_neg (by omega)]
          rfl
      · have hbl : blkOf (q.getD i []) = none := by unfold blkOf; rw [h9']; rfl
        rw [h9', hbl]
        simp only [Option.bind_some, opStep]
        rw [rSum_eq [] (by simp)]
        simp only [Option.bind_some]
        by_cases h2 : 1 < i
        · rw [if_pos (by omega), if_neg (by omega), a1, a2]
          rfl
        · rw [if_neg (by omega), a1, a2]
          rfl
    · rintro _ rfl
      refine ⟨_, ?_, rfl⟩
      simp only
      rw [if_neg (by omega)]
    · rintro _ rfl
      rfl
theorem open_E {d : T_disk_Disk_o} {c : Nat} (D : DOk d n c) (hc : c ≤ 1000000) : stOpenE d = some ((), if d.2.2.2 = true then 3 else 0) := by
  have hn := D.hn
  have h9 := D.h9
  have h2 := D.h2
  unfold stOpenE diskSectors
  simp only [Option.bind_some]
  by_cases hd : d.2.2.2 = true
  · rw [if_pos hd]
    refine bind_run (fun i s => i = 0 ∧ s.2 = 0) (fun r => r = .inr ((), 3)) 1 ⟨rfl, rfl⟩ ?_ ?_ ?_
    · rintro i ⟨s, _⟩ hi ⟨_, rfl⟩
      refine .inr ⟨_, ?_, rfl⟩
      simp only
      rw [if_pos (by omega)]
      unfold diskRead
      rw [if_pos hd]
      simp only [Option.bind_some]
      rfl
    · rintro _ ⟨h, _⟩
      omega
    · rintro _ rfl
      rfl
  · rw [if_neg hd]
    obtain ⟨q, hq, h5, hr, hr'⟩ := read_eff D hc (by simpa using hd)
    refine bind_run (fun i s => s.2 = (i : Int)) (fun r => ∃ x, r = .inl x) n rfl ?_ ?_ ?_
    · rintro i ⟨s, _⟩ hi rfl
      left
      simp only
      rw [if_pos (by omega), hr i hi]
      simp only [Option.bind_some, if_true]
      rw [i64_id (by omega) (by omega)]
      rcases both_unwrap _ (h5 i (by omega)) with ⟨b, hb, _, h7, h8⟩ | ⟨x, r, h7, h8, h9', _⟩
      · rw [h7]
        simp only [Option.bind_some]
        by_cases h2 : i < 2
        · rw [if_pos (by omega)]
          exact ⟨_, rfl, rfl⟩
        · rw [if_neg (by omega), if_pos True.intro, shaSum_eq b (by omega)]
          simp only [Option.bind_some]
          by_cases e : (!(s.1 (Hs b)).isSome) = true
          · rw [if_pos e]; exact ⟨_, rfl, rfl⟩
          · rw [if_neg e]; exact ⟨_, rfl, rfl⟩
      · rw [h7]
        simp only [Option.bind_some]
        by_cases h2 : i < 2
        · rw [if_pos (by omega)]
          exact ⟨_, rfl, rfl⟩
        · rw [if_neg (by omega), if_neg h8]
          exact ⟨_, rfl, rfl⟩
    · rintro ⟨s, _⟩ rfl
      refine ⟨.inl s, ?_, s, rfl⟩
      simp only
      rw [if_neg (by omega)]
    · rintro _ ⟨x, rfl⟩
      rfl
/-! ### The other calls -/
theorem flush_gen {d : T_disk_Disk_o} {c : Nat} (D : DOk d n c) (hc : c ≤ 1000000) : ∃ r : Int × T_disk_Disk_o, diskFlush d = some r ∧ rdFlush d = some r ∧ DOk r.2 n c := by
  have hn := D.hn
  have hl := D.hl
  have hp : PenOk d.1.length d.2.1 := by rw [hn]; exact D.hp
  have h5 := D.h5
  rw [rdFlush_eq d hp (by omega)]
  refine exists_same ?_
  unfold diskFlush
  by_cases h1 : d.2.2.2 = true
  · rw [if_pos h1]; exact ⟨_, rfl, D⟩
  rw [if_neg h1]
  obtain ⟨b, ⟨pl', pen', lim, dn⟩, hcall, e1, e2⟩ := diskCall_gen d
  simp only at e1 e2
  subst e1; subst e2
  rw [hcall]
  simp only [Option.bind_some]
  cases b with
  | false => exact ⟨_, rfl, D.hn, D.h2, D.h9, D.h5, D.hp, D.hl⟩
  | true =>
    simp only [Bool.not_true, Bool.false_eq_true, if_false]
    refine bind_runP (C := fun o => ∃ r : Int × T_disk_Disk_o, o = some r ∧ DOk r.2 n c) (fun k s => s = (eff d.1 (d.2.1.take k), (k : Int))) (fun r => r = eff d.1 d.2.1) d.2.1.length rfl ?_ ?_ ?_
    · rintro k _ hk rfl
      refine .inl ⟨_, ?_, rfl⟩
      obtain ⟨x, hx⟩ : ∃ x, d.2.1[k]? = some x := ⟨_, List.getElem?_eq_getElem hk⟩
      have hok := hp x (List.mem_of_getElem? hx)
      have hg : d.2.1.getD k (0, []) = x := by simp [List.getD_eq_getElem?_getD, hx]
      have he : eff d.1 (d.2.1.take (k + 1)) = (eff d.1 (d.2.1.take k)).set x.1.toNat x.2 := by rw [List.take_add_one, hx, Option.toList_some, eff_snoc]
      simp only
      rw [if_pos (by omega), idxO_getD (0, []) rfl hk, hg]
      simp only [Option.bind_some]
      rw [idxO_getD (n := x.1.toNat) [] (by omega) (by rw [eff_len]; exact hok.2.1)]
      simp only [Option.bind_some]
      rw [i64_id (by omega) (by omega), he]
      rfl
    · rintro _ rfl
      refine ⟨_, ?_, rfl⟩
      simp only
      rw [if_neg (by omega), List.take_length]
    · rintro _ rfl
      exact ⟨_, rfl, by show (eff d.1 d.2.1).length = n; rw [eff_len]; exact hn, D.h2, D.h9, eff_512 _ _ h5 hp, (fun p h => by simp at h), Nat.zero_le _⟩
where
  exists_same {α : Type} {o : Option α} {p : α → Prop} (h : ∃ r, o = some r ∧ p r) : ∃ r, o = some r ∧ o = some r ∧ p r := by
    obtain ⟨r, h1, h2⟩ := h
    exact ⟨r, h1, h1, h2⟩
theorem hold_gen (l : List (List UInt8)) (hl : l.length ≤ k) : HOk (l.foldl (fun m h => fset h 1 m) fnil) l k := by
  refine ⟨fun h => ?_, hl⟩
  constructor
  · intro hne
    exact Classical.byContradiction fun hn => hne (by
      have : ∀ (l : List (List UInt8)) (m : List UInt8 → Option Int), h ∉ l → l.foldl (fun m h => fset h 1 m) m h = m h := by
        intro l
        induction l with
        | nil => intro m _; rfl
        | cons x l ih =>
          intro m hh
          rw [List.foldl_cons, ih _ (fun h' => hh (List.mem_cons_of_mem _ h'))]
          simp only [fset]
          rw [if_neg (fun e => hh (by rw [e]; exact List.mem_cons_self))]
      rw [this l fnil hn]; rfl)
  · intro hm
    rw [hold_marks l fnil h (.inl hm)]
    simp
theorem SOk.step (S : SOk n wh hs kn ha) (H : HOk mk held k) (hk : 20 ≤ k ∧ k ≤ 900000) {d : T_disk_Disk_o} {c : Nat} (D : DOk d n c) (hc : c ≤ 900000) (op : T_triremelaw05_Op) (hb : op.2.2.1.length ≤ 600) (hl : op.2.2.2.1.length ≤ 20) (hbs : ∀ b ∈ op.2.2.2.1, b.length ≤ 140737488351232) :
    ∃ d' wh' hs' mk' kn' ha' held', lawStep (d, wh, hs, mk) (d, kn, ha, held) op = some (true, (d', wh', hs', mk'), (d', kn', ha', held')) ∧ DOk d' n (c + 1) ∧ SOk n wh' hs' kn' ha' ∧ HOk mk' held' (k + 1) := by
  have up : DOk d n (c + 1) := ⟨D.hn, D.h2, D.h9, D.h5, D.hp, Nat.le_succ_of_le D.hl⟩
  unfold lawStep
  rw [rSum_eq _ (by omega)]
  simp only [Option.bind_some]
  by_cases h0 : andI .i64 op.1 3 = 0
  · rw [if_pos h0, lawDigests_eq _ (by omega) hbs]
    simp only [Option.bind_some]
    generalize hD : op.2.2.2.1.map Hs = L
    have hL : L.length ≤ 20 := by rw [← hD]; simpa using hl
    have hold : stHoldO (d, wh, hs, mk) L = some ((d, wh, hs, L.foldl (fun m h => fset h 1 m) fnil), L) := by
      have h := stHold_eq d wh hs mk L (by omega)
      unfold stHold at h
      unfold stHoldO
      simp only at h ⊢
      rcases hq : loopO _ _ with _ | r
      · rw [hq] at h; cases h
      · rw [hq] at h
        simp only [Option.bind_some, Option.some.injEq, Prod.mk.injEq, true_and] at h
        simp only [Option.bind_some, h]
    rw [hold]
    simp only [Option.bind_some]
    refine bind_runP (C := fun o => ∃ d' wh' hs' mk' kn' ha' held', o = some (true, (d', wh', hs', mk'), (d', kn', ha', held')) ∧ DOk d' n (c + 1) ∧ SOk n wh' hs' kn' ha' ∧ HOk mk' held' (k + 1)) (fun i s => s.2 = (i : Int) ∧ s.1.length = L.length) (fun _ => True) L.length ⟨rfl, rfl⟩ ?_ ?_ ?_
    · rintro i ⟨s, _⟩ hi ⟨rfl, hs'⟩
      simp only at hs'
      left
      simp only
      rw [if_pos (by omega), idxO_getD [] rfl (by omega)]
      exact ⟨_, rfl, by simp only; rw [i64_id (by omega) (by omega)]; omega, by simpa using hs'⟩
    · rintro ⟨s, _⟩ ⟨rfl, hs'⟩
      exact ⟨(), by simp only; rw [if_neg (by omega)], trivial⟩
    · rintro _ _
      exact ⟨_, _, _, _, _, _, _, rfl, up, S, hold_gen L (by omega)⟩
  · rw [if_neg h0]
    by_cases h1 : andI .i64 op.1 3 = 1
    · rw [if_pos h1]
      obtain ⟨r, h2, h3⟩ := S.get mk held D (by omega) (Hs op.2.2.1)
      rw [h2, h3]
      simp only [Option.bind_some, if_true, decide_true]
      exact ⟨_, _, _, _, _, _, _, rfl, up, S, H.1, Nat.le_succ_of_le H.2⟩
    · rw [if_neg h1, appO_of (by simp; omega)]
      simp only [Option.bind_some, List.nil_append]
      obtain ⟨x, e, d', wh', hs', mk', kn', ha', held', h2, h3, h4, h5, h6⟩ := S.putBoth H (by omega) D (by omega) op.2.2.1 (by omega)
      rw [h2, h3]
      simp only [Option.bind_some, if_true, decide_true]
      exact ⟨_, _, _, _, _, _, _, rfl, h4, h5, h6⟩
end
end Go.Proofs.YtfepdfjhejkemaaDoor
