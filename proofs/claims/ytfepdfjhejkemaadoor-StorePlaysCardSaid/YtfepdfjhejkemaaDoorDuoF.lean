/- Plain: StorePlays. -/
import Derived.Test.YtfepdfjhejkemaaDoorDuoE
set_option linter.unusedSimpArgs false
set_option linter.unusedVariables false
namespace Go.Proofs.YtfepdfjhejkemaaDoor
open Go.RowKit Go.Tri
/-- A call of a script: what it holds fits into memory, its fates are numbers of 64 bits. -/
def OpOk (op : T_triremelaw05_Op) : Prop := (∀ b ∈ op.2.2.2.1, b.length ≤ 140737488351232) ∧ ∀ f ∈ op.2.2.2.2, I64 f
theorem and7 (x : Int) : ∃ k : Nat, k ≤ 7 ∧ andI .i64 x 7 = (k : Int) := by
  have h : (BitVec.ofInt IntKind.i64.bits x &&& BitVec.ofInt IntKind.i64.bits 7).toNat ≤ 7 := by
    rw [BitVec.toNat_and]
    exact Nat.le_trans Nat.and_le_right (by decide)
  refine ⟨_, h, ?_⟩
  unfold andI
  exact i64_id (by omega) (by omega)
theorem PenOk.nil {n : Nat} : PenOk n [] := fun p h => by cases h
theorem HOk.nil (k : Nat) : HOk fnil [] k := ⟨fun h => ⟨fun hh => absurd rfl hh, fun hh => by cases hh⟩, Nat.zero_le _⟩
/-- Both are alike behind so many calls. -/
def AllI (n i : Nat) (s : T_disk_Disk_o × T_triremeref01_Disk_o × T_store_Store_o × T_triremeref05_Store_o) : Prop :=
  s.1 = s.2.1 ∧ DOk s.1 n i ∧ SOk n s.2.2.1.1 s.2.2.1.2.1 s.2.2.2.1 s.2.2.2.2.1 ∧ HOk s.2.2.1.2.2 s.2.2.2.2.2 (20 + i)
theorem crash_both {n i : Nat} {d : T_disk_Disk_o} (D : DOk d n i) (hi : i ≤ 1000) (fs : List Int) (hf : ∀ f ∈ fs, I64 f) : ∃ d', diskCrash d fs = some d' ∧ rdCrash d fs = some d' ∧ DOk d' n (i + 1) ∧ d'.2.2.2 = false := by
  obtain ⟨pl, pen, lim, dn⟩ := d
  have hn : pl.length = n := D.hn
  have hp : PenOk pl.length pen := by rw [hn]; exact D.hp
  have hl : pen.length ≤ i := D.hl
  have h9 := D.h9
  refine ⟨_, diskCrash_N pl pen lim dn fs hp D.h5 (by omega) (by omega), rdCrash_N pl pen lim dn fs hf hp D.h5 (by omega) (by omega), ⟨?_, D.h2, D.h9, crashN_512 pl pen fs D.h5 hp _ (Nat.le_refl _), PenOk.nil, Nat.zero_le _⟩, rfl⟩
  show (crashN pl pen fs pen.length).length = n
  rw [crashN_len]; exact hn
theorem plays_true (x : Int) (script : List T_triremelaw05_Op) (hs : ∀ op ∈ script, OpOk op) : m_triremelaw05_StorePlays x script = some true := by
  unfold m_triremelaw05_StorePlays
  rw [speaks_true]
  simp only [Option.bind_some]
  rw [if_neg (by simp)]
  obtain ⟨k, hk, hand⟩ := and7 x
  obtain ⟨n, hn⟩ : ∃ n, n = 2 + k := ⟨_, rfl⟩
  rw [hand, show IntKind.i64.wrap (2 + (k : Int)) = (n : Int) by rw [i64_id (by omega) (by omega)]; omega, diskNew_eq n (by omega) (by omega), rdNew_eq n (by omega) (by omega)]
  simp only [Option.bind_some]
  by_cases h60 : (60 : Int) < (script.length : Int)
  · rw [if_pos h60]
  rw [if_neg h60]
  have D0 : DOk (List.replicate n (List.replicate 512 0), [], -1, false) n 0 := ⟨List.length_replicate, by omega, by omega, fresh_512 n, PenOk.nil, Nat.le_refl _⟩
  obtain ⟨wh, hs0, kn, ha, e1, e2, S0⟩ := open_both D0 (by omega) rfl
  rw [e1, e2]
  simp only [Option.bind_some, if_true]
  have H0 : HOk fnil [] (20 + 0) := HOk.nil _
  refine bind_run (fun i s => s.2.2.2.2 = (i : Int) ∧ AllI n i (s.1, s.2.1, s.2.2.1, s.2.2.2.1)) (fun r => r = .inr true ∨ ∃ d, r = .inl (d, d) ∧ DOk d n 60) script.length ⟨rfl, rfl, D0, S0, H0⟩ ?_ ?_ ?_
  · rintro i ⟨d, m, ⟨wh, hs1, mk⟩, ⟨kn, ha, held⟩, _⟩ hi ⟨rfl, hm, D, S, H⟩
    simp only at hm D S H
    subst hm
    obtain ⟨op, hop⟩ : ∃ op, script[i]? = some op := ⟨_, List.getElem?_eq_getElem hi⟩
    have hok := hs op (List.mem_of_getElem? hop)
    have hidx : idxO script (i : Int) = some op := by unfold idxO; rw [if_pos (by omega), Int.toNat_natCast, hop]
    simp only
    rw [if_pos (by omega), hidx, i64_id (n := (i : Int) + 1) (by omega) (by omega)]
    simp only [Option.bind_some]
    by_cases h20 : (20 : Int) < (op.2.2.2.1.length : Int)
    · rw [if_pos h20]
      exact .inr ⟨_, rfl, .inl rfl⟩
    rw [if_neg h20]
    by_cases h600 : (600 : Int) < (op.2.2.1.length : Int)
    · rw [if_pos h600]
      exact .inr ⟨_, rfl, .inl rfl⟩
    rw [if_neg h600]
    left
    -- behind the call both are alike
    have rest : ∀ s : T_disk_Disk_o × T_triremeref01_Disk_o × T_store_Store_o × T_triremeref05_Store_o, AllI n (i + 1) s → ∃ s' : T_disk_Disk_o × T_triremeref01_Disk_o × T_store_Store_o × T_triremeref05_Store_o × Int,
        Option.bind (α := (T_disk_Disk_o × T_triremeref01_Disk_o × T_store_Store_o × T_triremeref05_Store_o) ⊕ Bool) (Option.bind (α := (T_disk_Disk_o × T_triremeref01_Disk_o × T_store_Store_o × T_triremeref05_Store_o) ⊕ Bool) (some (.inl s)) fun o2896 => Sum.elim (fun r2896 => (stFree (r2896.1, r2896.2.2.1)).bind fun x3015 =>
          (rsFree (r2896.2.1, r2896.2.2.2)).bind fun x3016 =>
          if x3015 = x3016 then ((stHashes (r2896.1, r2896.2.2.1)).bind fun x3018 =>
          (rsHashes (r2896.2.1, r2896.2.2.2)).bind fun x3020 =>
          (m_triremeref05_Same x3018 x3020).bind fun x3022 =>
          if (!x3022) = true then (some (.inr false))
          else ((rSum op.2.2.1).bind fun x3024 =>
          (stHas (r2896.1, r2896.2.2.1) x3024).bind fun x3026 =>
          (rSum op.2.2.1).bind fun x3027 =>
          (rsAt (r2896.2.1, r2896.2.2.2) x3027).bind fun x3029 =>
          if (x3026) = (decide (0 ≤ x3029)) then (some (.inl (r2896.1, r2896.2.1, r2896.2.2.1, r2896.2.2.2)))
          else (some (.inr false))))
          else (some (.inr false))) (fun rv => some (.inr rv)) o2896) (fun o2780 => Sum.elim (fun r2780 => some (Sum.inl (r2780.1, r2780.2.1, r2780.2.2.1, r2780.2.2.2, (i : Int) + 1))) (fun rv => some (Sum.inr (Sum.inr rv))) o2780) = some ((Sum.inl s' : (T_disk_Disk_o × T_triremeref01_Disk_o × T_store_Store_o × T_triremeref05_Store_o × Int) ⊕ ((T_disk_Disk_o × T_triremeref01_Disk_o) ⊕ Bool))) ∧ s'.2.2.2.2 = ((i + 1 : Nat) : Int) ∧ AllI n (i + 1) (s'.1, s'.2.1, s'.2.2.1, s'.2.2.2.1) := by
      rintro ⟨d', m', ⟨wh', hs', mk'⟩, ⟨kn', ha', held'⟩⟩ ⟨hm, D', S', H'⟩
      simp only at hm D' S' H'
      subst hm
      obtain ⟨f, f1, f2⟩ := S'.free H' (by omega) D'
      obtain ⟨l, l1, l2, l3⟩ := S'.hashes d' mk' held' D'.h9
      simp only [Option.bind_some, Sum.elim_inl]
      rw [f1, f2]
      simp only [Option.bind_some, if_true]
      rw [l1, l2]
      simp only [Option.bind_some]
      rw [same_eq l l (by omega)]
      simp only [Option.bind_some, decide_true, Bool.not_true]
      rw [if_neg (by simp), rSum_eq _ (by omega)]
      simp only [Option.bind_some, stHas]
      have hsame : ∃ a, rsAt (d', kn', ha', held') (Hs op.2.2.1) = some a ∧ (wh' (Hs op.2.2.1)).isSome = decide (0 ≤ a) := by
        rcases S'.at d' held' (Hs op.2.2.1) D'.h9 with ⟨h1, h2⟩ | ⟨j, _, _, h1, h2⟩
        · exact ⟨_, h2, by rw [h1, decide_eq_false (by omega)]; rfl⟩
        · exact ⟨_, h2, by rw [h1, decide_eq_true (by omega)]; rfl⟩
      obtain ⟨a, a1, a2⟩ := hsame
      rw [a1]
      simp only [Option.bind_some]
      rw [if_pos a2]
      exact ⟨_, rfl, rfl, rfl, D', S', H'⟩
    have up : DOk d n (i + 1) := ⟨D.hn, D.h2, D.h9, D.h5, D.hp, Nat.le_succ_of_le D.hl⟩
    have upH : HOk mk held (20 + (i + 1)) := ⟨H.1, by have := H.2; omega⟩
    by_cases a1 : andI .i64 op.1 15 = 15
    · rw [if_pos a1]
      obtain ⟨d', c1, c2, D', hd'⟩ := crash_both D (by omega) op.2.2.2.2 hok.2
      obtain ⟨wh', hs', kn', ha', o1, o2, S'⟩ := open_both D' (by omega) hd'
      rw [c1, c2]
      simp only [Option.bind_some]
      rw [o1, o2]
      simp only [Option.bind_some, if_true, Sum.elim_inl]
      exact rest (d', d', (wh', hs', fnil), (kn', ha', [])) ⟨rfl, D', S', HOk.nil _⟩
    · rw [if_neg a1]
      by_cases a2 : andI .i64 op.1 15 = 14
      · rw [if_pos a2, rdLimit_eq]
        unfold diskLimit
        simp only [Option.bind_some, Sum.elim_inl]
        exact rest ((d.1, d.2.1, max op.2.1 (-1), d.2.2.2), (d.1, d.2.1, max op.2.1 (-1), d.2.2.2), (wh, hs1, mk), (kn, ha, held)) ⟨rfl, ⟨D.hn, D.h2, D.h9, D.h5, D.hp, Nat.le_succ_of_le D.hl⟩, S, upH⟩
      · rw [if_neg a2]
        by_cases a3 : andI .i64 op.1 15 = 13
        · rw [if_pos a3]
          obtain ⟨r, r1, r2, D'⟩ := flush_gen up (by omega)
          rw [r1, r2]
          simp only [Option.bind_some, if_true, Sum.elim_inl]
          exact rest (r.2, r.2, (wh, hs1, mk), (kn, ha, held)) ⟨rfl, D', S, upH⟩
        · rw [if_neg a3]
          obtain ⟨d', wh', hs', mk', kn', ha', held', t1, D', S', H'⟩ := S.step H ⟨by omega, by omega⟩ D (by omega) op (by omega) (by omega) hok.1
          rw [t1]
          simp only [Option.bind_some, Bool.not_true]
          rw [if_neg (by simp)]
          simp only [Option.bind_some, Sum.elim_inl]
          exact rest (d', d', (wh', hs', mk'), (kn', ha', held')) ⟨rfl, D', S', H'.1, by have := H'.2; omega⟩
  · rintro ⟨d, m, st, rs, _⟩ ⟨rfl, hm, D, S, H⟩
    simp only at hm D S H
    subst hm
    refine ⟨.inl (d, d), ?_, .inr ⟨d, rfl, D.hn, D.h2, D.h9, D.h5, D.hp, by have := D.hl; omega⟩⟩
    simp only
    rw [if_neg (by omega)]
  · rintro _ (rfl | ⟨d, rfl, D⟩)
    · rfl
    · simp only [Sum.elim_inl]
      rw [open_E D (by omega)]
      simp only [Option.bind_some]
      cases d.2.2.2 <;> rfl
end Go.Proofs.YtfepdfjhejkemaaDoor
