/- Plain: an operation of the document's, and FilesPlays. -/
import Derived.Test.YtohmcgmmphpgoaaGreatDoorRfD
set_option linter.unusedSimpArgs false
set_option linter.unusedVariables false
namespace Go.Proofs.YtohmcgmmphpgoaaGreatDoor
open Go.RowKit Go.Tri
section
variable {s : FS} {l : List Ent}
theorem enum_add (hE : Enum s l) {p : List UInt8} (h : s p = none) (f : Bool × List UInt8) : Enum (fset p f s) (l ++ [(p, f)]) := by
  have hp : p ∉ l.map (·.1) := fun hm => by rw [enum_keys hE, h] at hm; cases hm
  have h1 := enum_set hE p f
  rw [filter_keys hp] at h1
  have hpm : (l ++ [(p, f)]).Perm ((p, f) :: l) := List.perm_append_comm (l₁ := l) (l₂ := [(p, f)])
  have hnd : ((l ++ [(p, f)]).map (·.1)).Nodup := ((hpm.map (·.1)).nodup_iff).2 h1.1
  refine ⟨hnd, fun q => ?_⟩
  rw [h1.2 q]
  cases hq : aget q ((p, f) :: l) with
  | none =>
    symm
    refine aget_none fun hm => ?_
    have h2 : q ∈ ((p, f) :: l).map (·.1) := ((hpm.map (·.1)).mem_iff).1 hm
    have h3 := (aget_isSome q ((p, f) :: l)).2 h2
    rw [hq] at h3; cases h3
  | some g =>
    symm
    refine aget_of_mem hnd ((hpm.mem_iff).2 ?_)
    exact (enum_mem h1).2 (by rw [h1.2 q]; exact hq)
theorem enum_cut (hE : Enum s l) {i : Nat} {p : List UInt8} {f : Bool × List UInt8} (h : l[i]? = some (p, f)) : Enum (fdel p s) (l.take i ++ l.drop (i + 1)) := by
  have hi := (List.getElem?_eq_some_iff.1 h).1
  have hx := (List.getElem?_eq_some_iff.1 h).2
  have hsplit : l = l.take i ++ (p, f) :: l.drop (i + 1) := by
    conv => lhs; rw [← List.take_append_drop i l]
    rw [List.drop_eq_getElem_cons hi, hx]
  have hnd := hE.1
  rw [hsplit, List.map_append, List.map_cons, List.nodup_append] at hnd
  obtain ⟨n1, n2, n3⟩ := hnd
  rw [List.nodup_cons] at n2
  have hf : l.filter (fun x => x.1 ≠ p) = l.take i ++ l.drop (i + 1) := by
    conv => lhs; rw [hsplit]
    rw [List.filter_append, List.filter_cons]
    rw [filter_keys (k := p) (l := l.take i) (fun hm => n3 p hm p (by simp) rfl), filter_keys (k := p) (l := l.drop (i + 1)) n2.1]
    simp
  rw [← hf]
  exact enum_del hE p
/-- Names behind a name, six at most. -/
theorem six_loop (B : List (List UInt8)) (t : List UInt8) (hB : B.length ≤ 1000000) (k : Nat) (hk : k < B.length) : (((B.take k).filter fun x => !leqB x t).take 6) ++ (if gtrB (B[k]'hk) t = true ∧ ((((B.take k).filter fun x => !leqB x t).take 6).length : Int) < 6 then [B[k]'hk] else []) = ((B.take (k + 1)).filter fun x => !leqB x t).take 6 := by
  rw [List.take_succ_eq_append_getElem hk, List.filter_append]
  have hg : gtrB (B[k]'hk) t = !leqB (B[k]'hk) t := rfl
  rw [hg]
  generalize hu : (B.take k).filter (fun x => !leqB x t) = u
  cases hc : (!leqB (B[k]'hk) t) with
  | false => simp [hc]
  | true =>
    have e : [B[k]'hk].filter (fun x => !leqB x t) = [B[k]'hk] := by simp [hc]
    rw [e]
    by_cases h6 : u.length < 6
    · have e2 : u.take 6 = u := List.take_of_length_le (by omega)
      have e3 : (u ++ [B[k]'hk]).take 6 = u ++ [B[k]'hk] := List.take_of_length_le (by simp; omega)
      rw [e2, e3, if_pos ⟨rfl, by omega⟩]
    · have e3 : (u ++ [B[k]'hk]).take 6 = u.take 6 := List.take_append_of_le_length (by omega)
      rw [e3, if_neg (by simp; omega), List.append_nil]
theorem rDo_eq (hs : Snd s) (hE : Enum s l) (hl : l.length ≤ 200000) (o : Opr) (hd : o.2.2.2.2.2.length ≤ 80000) : ∃ l', m_triremeref11_Do l o = some (l', (doP s o).1) ∧ Enum (nx s o) l' ∧ l'.length ≤ l.length + 1 := by
  have hc : Crd s l.length := ⟨l, hE, Nat.le_refl _⟩
  obtain ⟨k, p, t, off, n, D⟩ := o
  simp only at hd
  unfold m_triremeref11_Do nx
  simp only
  by_cases h12 : k = 1 ∨ k = 2
  · have h1 : (if k = 1 then (some (decide (k = 1))) else some (decide (k = 2))) = some true := by
      rcases h12 with h | h <;> subst h <;> rfl
    have hdo : doP s (k, p, t, off, n, D) = ((rm s p, 0, [], []), if rm s p = 0 then fset p (decide (k = 2), []) s else s) := by unfold doP; rw [if_pos h12]
    rw [h1, hdo]
    simp only [Option.bind_some, if_true]
    rw [rRoom_eq hE (by omega)]
    simp only [Option.bind_some]
    by_cases h0 : rm s p = 0
    · rw [if_pos h0, appO_of (by simp only [List.length_nil]; omega)]
      simp only [Option.bind_some, List.nil_append]
      rw [appO_of (by simp only [List.length_cons, List.length_nil]; omega)]
      simp only [Option.bind_some, Sum.elim_inr]
      rw [h0]
      refine ⟨_, rfl, ?_, by simp⟩
      rw [if_pos rfl, if_pos rfl]
      exact enum_add hE (rm_ok h0).2.2.2 _
    · rw [if_neg h0]
      exact ⟨l, rfl, by rw [if_neg h0]; exact hE, by omega⟩
  have h1 : (if k = 1 then (some (decide (k = 1))) else some (decide (k = 2))) = some false := by
    rw [if_neg (fun h => h12 (.inl h)), decide_eq_false (fun h => h12 (.inr h))]
  rw [h1]
  simp only [Option.bind_some, Bool.false_eq_true, if_false]
  by_cases h345 : k = 3 ∨ k = 4 ∨ k = 5
  · have h2 : (if k = 3 then (some (decide (k = 3))) else (Option.bind (α := Bool) (if k = 4 then some (decide (k = 4)) else some (decide (k = 5))) fun r457 => some r457)) = some true := by
      rcases h345 with h | h | h <;> subst h <;> rfl
    rw [h2]
    simp only [Option.bind_some, if_true]
    rcases h345 with h | h | h
    · obtain ⟨l', e1, e2, e3⟩ := rWrite_eq hs hE (by omega) (k, p, t, off, n, D) h hd
      rw [e1, doP34 (.inl h)]
      exact ⟨l', rfl, e2, by omega⟩
    · obtain ⟨l', e1, e2, e3⟩ := rTrunc_eq hs hE (by omega) (k, p, t, off, n, D) h
      rw [e1, doP34 (.inr h)]
      exact ⟨l', rfl, e2, by omega⟩
    · obtain ⟨l', e1, e2, e3⟩ := rRead_eq hs hE (by omega) (k, p, t, off, n, D) h
      rw [e1, doP5 h]
      refine ⟨l', rfl, ?_, by omega⟩
      simp only [ite_self]
      exact e2
  have h2 : (if k = 3 then (some (decide (k = 3))) else (Option.bind (α := Bool) (if k = 4 then some (decide (k = 4)) else some (decide (k = 5))) fun r457 => some r457)) = some false := by
    rw [if_neg (by omega), if_neg (by omega), decide_eq_false (by omega)]; rfl
  rw [h2]
  simp only [Option.bind_some, Bool.false_eq_true, if_false]
  by_cases h6 : k = 6
  · obtain ⟨l', e1, e2, e3⟩ := rRename_eq hs hE (by omega) (k, p, t, off, n, D)
    have hdo : doP s (k, p, t, off, n, D) = (((rn s p t).1, 0, [], []), (rn s p t).2) := by
      unfold doP; rw [if_neg h12, if_neg (by simp only; omega), if_neg (by simp only; omega), if_pos h6]
    rw [if_pos h6, e1, hdo]
    exact ⟨l', rfl, e2, by omega⟩
  rw [if_neg h6]
  by_cases h789 : k = 7 ∨ k = 8 ∨ k = 9
  case neg =>
    have h3 : (if k = 7 then (some (decide (k = 7))) else (Option.bind (α := Bool) (if k = 8 then some (decide (k = 8)) else some (decide (k = 9))) fun r457 => some r457)) = some false := by
      rw [if_neg (by omega), if_neg (by omega), decide_eq_false (by omega)]; rfl
    have hdo : doP s (k, p, t, off, n, D) = ((1, 0, [], []), s) := by
      unfold doP; rw [if_neg h12, if_neg (by simp only; omega), if_neg (by simp only; omega), if_neg h6, if_neg (by simp only; omega), if_neg (by simp only; omega), if_neg (by simp only; omega)]
    rw [h3, hdo]
    simp only [Option.bind_some, Bool.false_eq_true, if_false]
    exact ⟨l, rfl, hE, by omega⟩
  have h3 : (if k = 7 then (some (decide (k = 7))) else (Option.bind (α := Bool) (if k = 8 then some (decide (k = 8)) else some (decide (k = 9))) fun r457 => some r457)) = some true := by
    rcases h789 with h | h | h <;> subst h <;> rfl
  rw [h3]
  simp only [Option.bind_some, if_true, Sum.elim_inl]
  obtain ⟨a, g1, g2⟩ := rLook_eq hE (by omega) p
  rw [g1]
  simp only [Option.bind_some]
  have hB := hs.below hc (by omega) p
  have hbl : blL l p = bl s p := by
    have h1 := below_eq hE (by omega) (fun x hx => by have := (okP_pth (hs.ok _ _ ((enum_mem hE).1 hx))).2.2; omega) p
    rw [hB.eq] at h1
    exact (Option.some.inj h1).symm
  by_cases h0 : (lk s p).2 = 0
  case neg =>
    rw [if_neg h0]
    rcases h789 with h | h | h
    · have hdo : doP s (k, p, t, off, n, D) = (((rv s p).1, 0, [], []), (rv s p).2) := by
        unfold doP; rw [if_neg h12, if_neg (by simp only; omega), if_neg (by simp only; omega), if_neg h6, if_pos h]
      have : rv s p = ((lk s p).2, s) := by unfold rv; rw [if_neg h0]
      rw [hdo, this]
      exact ⟨l, rfl, by simp only [ite_self]; exact hE, by omega⟩
    · have hdo : doP s (k, p, t, off, n, D) = (ls s (k, p, t, off, n, D), s) := by
        unfold doP; rw [if_neg h12, if_neg (by simp only; omega), if_neg (by simp only; omega), if_neg h6, if_neg (by simp only; omega), if_pos h]
      have : ls s (k, p, t, off, n, D) = ((lk s p).2, 0, [], []) := by unfold ls; rw [if_neg h0]
      rw [hdo, this]
      exact ⟨l, rfl, by simp only [ite_self]; exact hE, by omega⟩
    · have hdo : doP s (k, p, t, off, n, D) = (stt s p, s) := by
        unfold doP; rw [if_neg h12, if_neg (by simp only; omega), if_neg (by simp only; omega), if_neg h6, if_neg (by simp only; omega), if_neg (by simp only; omega), if_pos h]
      have : stt s p = ((lk s p).2, 0, [], []) := by unfold stt; rw [if_neg h0]
      rw [hdo, this]
      exact ⟨l, rfl, by simp only [ite_self]; exact hE, by omega⟩
  obtain ⟨i, f, rfl, g3, g4, g5⟩ := g2 h0
  have hi := (List.getElem?_eq_some_iff.1 g3).1
  rw [if_pos h0, idxO_nat g3]
  simp only [Option.bind_some]
  rw [rBelow_eq (by omega), hbl]
  simp only [Option.bind_some]
  obtain ⟨b, d⟩ := f
  have hBl := hB.len
  rcases h789 with h | h | h
  · have hdo : doP s (k, p, t, off, n, D) = (((rv s p).1, 0, [], []), (rv s p).2) := by
      unfold doP; rw [if_neg h12, if_neg (by simp only; omega), if_neg (by simp only; omega), if_neg h6, if_pos h]
    rw [hdo, if_neg (by omega), if_neg (by omega)]
    unfold rv
    rw [if_pos h0]
    by_cases hr : p = [47]
    · rw [if_pos hr, if_pos hr]
      exact ⟨l, rfl, hE, by omega⟩
    rw [if_neg hr, if_neg hr]
    by_cases hz : 0 < (bl s p).length
    · rw [if_pos hz, if_pos (by omega)]
      exact ⟨l, rfl, hE, by omega⟩
    rw [if_neg hz, if_neg (by omega), i64_id (by omega) (by omega), show (0 : Int) = ((0 : Nat) : Int) from rfl, slcO_of (Nat.zero_le _) (by omega), show (i : Int) + 1 = ((i + 1 : Nat) : Int) by omega, slcO_of (by omega) (Nat.le_refl _)]
    simp only [Option.bind_some, List.drop_zero, List.take_length]
    rw [appO_of (by simp; omega)]
    simp only [Option.bind_some, List.nil_append]
    rw [appO_of (by simp; omega)]
    exact ⟨_, rfl, enum_cut hE g3, by simp; omega⟩
  · have hdo : doP s (k, p, t, off, n, D) = (ls s (k, p, t, off, n, D), s) := by
      unfold doP; rw [if_neg h12, if_neg (by simp only; omega), if_neg (by simp only; omega), if_neg h6, if_neg (by simp only; omega), if_pos h]
    rw [hdo, if_neg (by omega), if_pos h]
    unfold ls
    simp only
    rw [if_pos h0, g5]
    cases b with
    | false => exact ⟨l, rfl, hE, by omega⟩
    | true =>
      rw [if_neg (by decide), if_pos rfl]
      generalize hL : loopO _ (([] : List (List UInt8)), (0 : Int)) = L
      have key : L = some (((bl s p).filter fun x => !leqB x t).take 6) := by
        rw [← hL]
        generalize bl s p = B at hBl
        refine loop_runE (fun k (u : List (List UInt8) × Int) => u = (((B.take k).filter fun x => !leqB x t).take 6, (k : Int))) _ B.length (by simp) ?_ ?_
        · rintro k _ hk rfl
          simp only
          rw [if_pos (by omega), idxO_get hk]
          simp only [Option.bind_some]
          refine .inl ⟨_, ?_, rfl⟩
          rw [← six_loop B t (by omega) k hk]
          generalize hu : ((B.take k).filter fun x => !leqB x t).take 6 = u
          have hu6 : u.length ≤ 6 := by rw [← hu]; simp; omega
          by_cases e1 : gtrB B[k] t = true
          · rw [if_pos e1]
            by_cases e2 : (u.length : Int) < 6
            · rw [if_pos e2, if_pos ⟨e1, e2⟩, appO_of (by simp; omega)]
              simp only [Option.bind_some]
              rw [i64_id (by omega) (by omega)]; rfl
            · rw [if_neg e2, if_neg (fun h => e2 h.2), List.append_nil]
              simp only [Option.bind_some]
              rw [i64_id (by omega) (by omega)]; rfl
          · rw [if_neg e1, if_neg (fun h => e1 h.1), List.append_nil]
            simp only [Option.bind_some]
            rw [i64_id (by omega) (by omega)]; rfl
        · rintro _ rfl
          simp only
          rw [if_neg (by omega), List.take_length]
          exact ⟨_, rfl, rfl⟩
      rw [key]
      exact ⟨l, rfl, hE, by omega⟩
  · have hdo : doP s (k, p, t, off, n, D) = (stt s p, s) := by
      unfold doP; rw [if_neg h12, if_neg (by simp only; omega), if_neg (by simp only; omega), if_neg h6, if_neg (by simp only; omega), if_neg (by simp only; omega), if_pos h]
    rw [hdo, if_pos h]
    unfold stt
    rw [if_pos h0, g5]
    cases b with
    | false =>
      rw [if_neg (show ¬ ((false : Bool) = true) by decide), if_neg (show ¬ ((false : Bool) = true) by decide), show u8O 102 = some 102 from rfl]
      exact ⟨l, rfl, hE, by omega⟩
    | true =>
      rw [if_pos rfl, if_pos rfl, show u8O 100 = some 100 from rfl]
      exact ⟨l, rfl, hE, by omega⟩
end
theorem rPairs_of {s : FS} {l : List Ent} (hs : Snd s) (hE : Enum s l) (hl : l.length ≤ 200000) : m_triremeref11_Pairs l = some (prsF s) := by
  rw [prs_of hs hE (by omega)]
  refine rPairs_eq hE.1 (by omega) fun x hx => ?_
  have h := (enum_mem hE).1 hx
  have := (okP_pth (hs.ok _ _ h)).2.2
  exact ⟨by omega, hs.len _ _ h⟩
theorem plays_true (script : List Opr) : lPlays script = some true := by
  unfold lPlays
  rw [speaks_eq]
  simp only [Option.bind_some, Bool.not_true, Bool.false_eq_true, if_false]
  by_cases h40 : 40 < (script.length : Int)
  · rw [if_pos h40]
  rw [if_neg h40, fNew_eq]
  simp only [Option.bind_some]
  refine bind_run (fun k (t : List P2 × List Ent × Int) => t.2.2 = (k : Int) ∧ ∃ s, Snd s ∧ Enum s t.2.1 ∧ t.2.1.length ≤ k + 1 ∧ t.1 = prsF s) (fun r => r = .inl () ∨ r = .inr true) script.length ⟨rfl, s00, s00_snd, s00_enum, by simp, rfl⟩ ?_ ?_ ?_
  · rintro k ⟨f, l, i⟩ hk ⟨h1, s, h2, h3, h4, h5⟩
    simp only at h1 h3 h4 h5
    subst h1 h5
    simp only
    rw [if_pos (by omega), idxO_get hk]
    simp only [Option.bind_some]
    rcases greatOp_eq script[k] with hg | ⟨hg, o1, o2, o3⟩
    · rw [hg]
      exact .inr ⟨_, rfl, .inr rfl⟩
    rw [hg]
    simp only [Option.bind_some, Bool.false_eq_true, if_false]
    have hc : Crd s 41 := ⟨l, h3, by omega⟩
    rw [fDo_eq h2 hc (by omega) _ (opOk o1 o2 o3)]
    simp only [Option.bind_some]
    obtain ⟨l', e1, e2, e3⟩ := rDo_eq h2 h3 (by omega) script[k] (by omega)
    rw [e1]
    simp only [Option.bind_some]
    have hnm := doP_names h2 hc (by omega) script[k]
    obtain ⟨k1, k2⟩ := nx_ok h2 hc (by omega) script[k]
    have hc2 : Crd (nx s script[k]) 42 := ⟨l', e2, by omega⟩
    have hlen := (k1.prs hc2 (by omega)).2.2.1
    rw [sameAns_eq _ _ (by omega), decide_eq_true rfl]
    simp only [Option.bind_some, Bool.not_true, Bool.false_eq_true, if_false]
    rw [rPairs_of k1 e2 (by omega)]
    simp only [Option.bind_some]
    rw [samePairs_eq _ _ (by omega), decide_eq_true rfl]
    simp only [Option.bind_some, Bool.not_true, Bool.false_eq_true, if_false]
    rw [check_right k1 hc2 (by omega)]
    simp only [Option.bind_some, if_true]
    rw [i64_id (by omega) (by omega)]
    exact .inl ⟨_, rfl, rfl, nx s script[k], k1, e2, by simp only; omega, rfl⟩
  · rintro ⟨f, l, i⟩ ⟨h1, _⟩
    simp only at h1
    subst h1
    simp only
    rw [if_neg (by omega)]
    exact ⟨_, rfl, .inl rfl⟩
  · rintro _ (rfl | rfl) <;> rfl
end Go.Proofs.YtohmcgmmphpgoaaGreatDoor
