/- Plain: the document's operations are the program's. -/
import Derived.Test.YtohmcgmmphpgoaaGreatDoorRfC
set_option linter.unusedSimpArgs false
set_option linter.unusedVariables false
namespace Go.Proofs.YtohmcgmmphpgoaaGreatDoor
open Go.RowKit Go.Tri
theorem doP34 {s : FS} {o : Opr} (h : o.1 = 3 ∨ o.1 = 4) : doP s o = wr s o := by
  unfold doP; rw [if_neg (by omega), if_pos h]
theorem doP5 {s : FS} {o : Opr} (h : o.1 = 5) : doP s o = (rdA s o, s) := by
  unfold doP; rw [if_neg (by omega), if_neg (by omega), if_pos h]
theorem rg_err {s : FS} {p : List UInt8} (h : (lk s p).2 ≠ 0) : rg s p = lk s p := by unfold rg; rw [if_neg h]
theorem rg_dir {s : FS} {p d : List UInt8} (h : lk s p = ((true, d), 0)) : rg s p = (zf, 94) := by unfold rg; rw [h]; rfl
theorem rg_file {s : FS} {p d : List UInt8} (h : lk s p = ((false, d), 0)) : rg s p = ((false, d), 0) := by unfold rg; rw [h]; rfl
theorem fset_self {s : FS} {p : List UInt8} {f : Bool × List UInt8} (h : s p = some f) : fset p f s = s := by
  funext q
  by_cases e : q = p
  · rw [e, fset_eq, h]
  · rw [fset_ne e]
section
variable {s : FS} {l : List Ent}
theorem rRead_eq (hs : Snd s) (hE : Enum s l) (hl : l.length ≤ 1000000) (o : Opr) (ho : o.1 = 5) : ∃ l', rChange l o = some (l', rdA s o) ∧ Enum s l' ∧ l'.length = l.length := by
  obtain ⟨kd, p, t, off, n, D⟩ := o
  simp only at ho
  subst ho
  unfold rChange rdA
  simp only
  obtain ⟨a, g1, g2⟩ := rLook_eq hE hl p
  rw [g1]
  simp only [Option.bind_some]
  by_cases h0 : (lk s p).2 = 0
  · obtain ⟨i, f, rfl, h3, h4, h5⟩ := g2 h0
    rw [if_pos h0, idxO_nat h3]
    simp only [Option.bind_some]
    obtain ⟨b, d⟩ := f
    cases b with
    | true =>
      rw [if_pos rfl, rg_dir h5]
      exact ⟨l, rfl, hE, rfl⟩
    | false =>
      rw [if_neg (show ¬ ((false : Bool) = true) by decide), rg_file h5]
      have hd := hs.len _ _ h4
      simp only at hd
      simp only [show ((5 : Int) = 4) = False from by simp, show ((5 : Int) = 3) = False from by simp, if_false, if_true]
      by_cases h1 : off < 0
      · rw [if_pos h1, if_pos (.inl h1)]
        exact ⟨l, rfl, hE, rfl⟩
      rw [if_neg h1]
      simp only [Option.bind_some]
      by_cases h2 : n < 0
      · rw [if_pos (decide_eq_true h2), if_pos (.inr h2)]
        exact ⟨l, rfl, hE, rfl⟩
      rw [if_neg (by simpa using h2), if_neg (by omega)]
      generalize hL : loopO _ (([] : List UInt8), (0 : Int)) = L
      have key : L = some ((d.drop off.toNat).take (min n.toNat 64)) := by
        rw [← hL]
        refine loop_runE (fun k (t : List UInt8 × Int) => t = (((d.take k).drop off.toNat).take (min n.toNat 64), (k : Int))) _ d.length (by simp) ?_ ?_
        · rintro k _ hk rfl
          simp only
          rw [if_pos (by omega)]
          refine .inl ⟨_, ?_, rfl⟩
          rw [← rd_fold d off.toNat n.toNat k (by omega)]
          have hl : (((d.take k).drop off.toNat).take (min n.toNat 64)).length ≤ 64 := by simp; omega
          have hb : (if off ≤ (k : Int) then (if IntKind.i64.wrap ((k : Int) - off) < n then some (decide (IntKind.i64.wrap ((k : Int) - off) < 64)) else some false) else some false) = some (decide (k < d.length ∧ off.toNat ≤ k ∧ k - off.toNat < min n.toNat 64)) := by
            by_cases e1 : off ≤ (k : Int)
            · rw [if_pos e1, i64_id (n := (k : Int) - off) (by omega) (by omega)]
              by_cases e2 : (k : Int) - off < n
              · rw [if_pos e2]
                congr 1
                exact decide_eq_decide.2 (by omega)
              · rw [if_neg e2, decide_eq_false (by omega)]
            · rw [if_neg e1, decide_eq_false (by omega)]
          rw [hb]
          simp only [Option.bind_some]
          by_cases e : k < d.length ∧ off.toNat ≤ k ∧ k - off.toNat < min n.toNat 64
          · rw [decide_eq_true e, if_pos rfl, if_pos e, idxO_getD 0 rfl hk]
            simp only [Option.bind_some]
            rw [u8_ok]
            simp only [Option.bind_some]
            rw [appO_byte (by simp only [List.length_cons, List.length_nil]; omega)]
            simp only [Option.bind_some]
            rw [i64_id (by omega) (by omega)]; rfl
          · rw [decide_eq_false e, if_neg (by decide), if_neg e, List.append_nil]
            simp only [Option.bind_some]
            rw [i64_id (by omega) (by omega)]; rfl
        · rintro _ rfl
          simp only
          rw [if_neg (by omega), List.take_length]
          exact ⟨_, rfl, rfl⟩
      rw [key]
      simp only [Option.bind_some, Sum.elim_inl]
      rw [appO_of (by simp only [List.length_nil]; omega)]
      simp only [Option.bind_some, List.nil_append]
      rw [idxO_nat h3]
      refine ⟨_, rfl, ?_, by simp⟩
      have := enum_put hE h3 (false, d)
      rw [fset_self h4] at this
      exact this
  · rw [if_neg h0, rg_err h0, if_neg h0]
    exact ⟨l, rfl, hE, rfl⟩
theorem rTrunc_eq (hs : Snd s) (hE : Enum s l) (hl : l.length ≤ 1000000) (o : Opr) (ho : o.1 = 4) : ∃ l', rChange l o = some (l', (wr s o).1) ∧ Enum (if (wr s o).1.1 = 0 then (wr s o).2 else s) l' ∧ l'.length = l.length := by
  obtain ⟨kd, p, t, off, n, D⟩ := o
  simp only at ho
  subst ho
  unfold rChange wr
  simp only
  obtain ⟨a, g1, g2⟩ := rLook_eq hE hl p
  rw [g1]
  simp only [Option.bind_some]
  by_cases h0 : (lk s p).2 = 0
  · obtain ⟨i, f, rfl, h3, h4, h5⟩ := g2 h0
    rw [if_pos h0, idxO_nat h3]
    simp only [Option.bind_some]
    obtain ⟨b, d⟩ := f
    cases b with
    | true =>
      rw [if_pos rfl, rg_dir h5]
      exact ⟨l, rfl, hE, rfl⟩
    | false =>
      rw [if_neg (show ¬ ((false : Bool) = true) by decide), rg_file h5]
      have hd := hs.len _ _ h4
      simp only at hd
      simp only [show ((4 : Int) = 3) = False from by simp, show ((4 : Int) = 5) = False from by simp, if_false, if_true, false_and, or_false]
      simp only [Option.bind_some]
      by_cases h2 : n < 0
      · rw [if_pos (decide_eq_true h2), if_pos h2]
        exact ⟨l, rfl, hE, rfl⟩
      rw [if_neg (by simpa using h2), if_neg h2]
      by_cases h1 : 192 < n
      · rw [if_pos h1, if_pos h1]
        exact ⟨l, rfl, hE, rfl⟩
      rw [if_neg h1, if_neg h1]
      obtain ⟨m, rfl⟩ : ∃ m : Nat, n = m := ⟨n.toNat, by omega⟩
      rw [rResized_eq _ _ (by omega)]
      simp only [Option.bind_some, Sum.elim_inl]
      rw [appO_of (by simp only [List.length_nil]; omega)]
      simp only [Option.bind_some, List.nil_append]
      rw [idxO_nat h3]
      exact ⟨_, rfl, enum_put hE h3 _, by simp⟩
  · rw [if_neg h0, rg_err h0, if_neg h0]
    exact ⟨l, rfl, by rw [if_neg h0]; exact hE, rfl⟩
theorem rWrite_eq (hs : Snd s) (hE : Enum s l) (hl : l.length ≤ 1000000) (o : Opr) (ho : o.1 = 3) (hD : o.2.2.2.2.2.length ≤ 80000) : ∃ l', rChange l o = some (l', (wr s o).1) ∧ Enum (if (wr s o).1.1 = 0 then (wr s o).2 else s) l' ∧ l'.length = l.length := by
  obtain ⟨kd, p, t, off, n, D⟩ := o
  simp only at ho hD
  subst ho
  unfold rChange wr
  simp only
  obtain ⟨a, g1, g2⟩ := rLook_eq hE hl p
  rw [g1]
  simp only [Option.bind_some]
  by_cases h0 : (lk s p).2 = 0
  · obtain ⟨i, f, rfl, h3, h4, h5⟩ := g2 h0
    rw [if_pos h0, idxO_nat h3]
    simp only [Option.bind_some]
    obtain ⟨b, d⟩ := f
    cases b with
    | true =>
      rw [if_pos rfl, rg_dir h5]
      exact ⟨l, rfl, hE, rfl⟩
    | false =>
      rw [if_neg (show ¬ ((false : Bool) = true) by decide), rg_file h5]
      have hd := hs.len _ _ h4
      simp only at hd
      simp only [show ((3 : Int) = 4) = False from by simp, show ((3 : Int) = 5) = False from by simp, if_false, if_true, true_and]
      by_cases h1 : off < 0
      · rw [if_pos h1, if_pos h1]
        exact ⟨l, rfl, hE, rfl⟩
      rw [if_neg h1, if_neg h1]
      simp only [Option.bind_some]
      rw [if_neg (by decide)]
      by_cases h2 : 192 < off
      · rw [if_pos h2, if_pos (.inl h2)]
        exact ⟨l, rfl, hE, rfl⟩
      rw [if_neg h2, i64_id (by omega) (by omega)]
      by_cases h6 : 192 < off + (D.length : Int)
      · rw [if_pos h6, if_pos (.inr h6)]
        exact ⟨l, rfl, hE, rfl⟩
      rw [if_neg h6, if_neg (show ¬ (192 < off ∨ 192 < off + (D.length : Int)) from fun h => h.elim h2 h6)]
      obtain ⟨m, rfl⟩ : ∃ m : Nat, off = m := ⟨off.toNat, by omega⟩
      generalize hL : loopO _ (d, (0 : Int)) = L
      have key : L = some (wrt d m D D.length) := by
        rw [← hL]
        refine loop_runE (fun k (t : List UInt8 × Int) => t = (wrt d m D k, (k : Int))) _ D.length (by simp [wrt]) ?_ ?_
        · rintro k _ hk rfl
          simp only
          have hl := wrt_len d m D k (by omega)
          have hl2 : (wrt d m D k).length ≤ 3000 := by split at hl <;> omega
          rw [if_pos (by omega), i64_id (n := (m : Int) + (k : Int)) (by omega) (by omega), i64_id (n := (m : Int) + (k : Int) + 1) (by omega) (by omega)]
          refine .inl ⟨_, ?_, rfl⟩
          rw [← wr_step d m D k hk]
          have hres : (if ((wrt d m D k).length : Int) ≤ (m : Int) + (k : Int) then ((m_triremeref11_resized (wrt d m D k) ((m : Int) + (k : Int) + 1)).bind fun x8690 => some x8690) else (some (wrt d m D k))) = some (if (wrt d m D k).length ≤ m + k then szd (wrt d m D k) (m + k + 1) else wrt d m D k) := by
            by_cases h1 : (wrt d m D k).length ≤ m + k
            · rw [if_pos (by omega), if_pos h1, show (m : Int) + (k : Int) + 1 = ((m + k + 1 : Nat) : Int) by omega, rResized_eq _ _ (by omega)]; rfl
            · rw [if_neg (by omega), if_neg h1]
          rw [hres]
          simp only [Option.bind_some]
          generalize hx : (if (wrt d m D k).length ≤ m + k then szd (wrt d m D k) (m + k + 1) else wrt d m D k) = x
          have hxl : m + k + 1 ≤ x.length ∧ x.length ≤ 4000 := by
            rw [← hx]
            split
            · rw [szd_len]; omega
            · omega
          rw [show (0 : Int) = ((0 : Nat) : Int) from rfl, show (m : Int) + (k : Int) = ((m + k : Nat) : Int) by omega, slcO_of (Nat.zero_le _) (by omega), idxO_getD 0 rfl hk, show ((m + k : Nat) : Int) + 1 = ((m + k + 1 : Nat) : Int) by omega, slcO_of (by omega) (Nat.le_refl _)]
          simp only [Option.bind_some, List.drop_zero, List.take_length]
          rw [appO_byte (by simp; omega)]
          simp only [Option.bind_some, List.nil_append]
          rw [u8_ok]
          simp only [Option.bind_some]
          rw [appO_byte (by simp; omega)]
          simp only [Option.bind_some]
          rw [appO_byte (by simp; omega)]
          simp only [Option.bind_some]
          rw [i64_id (by omega) (by omega)]; rfl
        · rintro _ rfl
          simp only
          rw [if_neg (by omega)]
          exact ⟨_, rfl, rfl⟩
      rw [key]
      simp only [Option.bind_some, Sum.elim_inl]
      rw [appO_of (by simp only [List.length_nil]; omega)]
      simp only [Option.bind_some, List.nil_append]
      rw [idxO_nat h3]
      refine ⟨_, rfl, ?_, by simp⟩
      have hput := enum_put hE h3 (false, wrt d m D D.length)
      by_cases hz : 0 < D.length
      · have hw : wrt d m D D.length = putAt (szd d (max d.length (m + D.length))) m D := by
          unfold wrt
          rw [if_neg (show ¬ D.length = 0 by omega), List.take_length]
        rw [hw] at hput ⊢
        rw [if_pos hz]
        exact hput
      · have hw : wrt d m D D.length = d := by
          unfold wrt
          rw [if_pos (show D.length = 0 by omega)]
        rw [hw, fset_self h4] at hput
        rw [hw, if_neg hz]
        exact hput
  · rw [if_neg h0, rg_err h0, if_neg h0]
    exact ⟨l, rfl, by rw [if_neg h0]; exact hE, rfl⟩
theorem rRename_eq (hs : Snd s) (hE : Enum s l) (hl : l.length ≤ 1000000) (o : Opr) : ∃ l', m_triremeref11_rename l o = some (l', ((rn s o.2.1 o.2.2.1).1, 0, [], [])) ∧ Enum (if (rn s o.2.1 o.2.2.1).1 = 0 then (rn s o.2.1 o.2.2.1).2 else s) l' ∧ l'.length = l.length := by
  obtain ⟨kd, F, T, off, n, D⟩ := o
  unfold m_triremeref11_rename rn
  simp only
  rw [rRight_eq, rRight_eq]
  simp only [Option.bind_some]
  by_cases h1 : okP F = true
  case neg =>
    rw [if_neg h1, if_pos (by simpa using h1)]
    exact ⟨l, rfl, hE, rfl⟩
  rw [if_neg (by rw [h1]; decide), if_pos h1]
  by_cases h2 : okP T = true
  case neg =>
    rw [if_neg h2, if_pos (by simpa using h2)]
    exact ⟨l, rfl, hE, rfl⟩
  rw [if_neg (by rw [h2]; decide), if_pos h2]
  obtain ⟨a, g1, _⟩ := rLook_eq hE hl F
  rw [g1]
  simp only [Option.bind_some]
  by_cases h3 : (lk s F).2 = 0
  case neg =>
    rw [if_neg h3, if_neg h3]
    exact ⟨l, rfl, by rw [if_neg h3]; exact hE, rfl⟩
  rw [if_pos h3, if_pos h3]
  by_cases h4 : F = [47]
  · rw [if_pos h4, if_pos h4]
    exact ⟨l, rfl, hE, rfl⟩
  rw [if_neg h4, if_neg h4, rWithin_eq]
  simp only [Option.bind_some]
  by_cases h5 : wthn F T = true
  · rw [if_pos h5, if_pos h5]
    exact ⟨l, rfl, hE, rfl⟩
  rw [if_neg h5, if_neg h5, rRoom_eq hE hl]
  simp only [Option.bind_some]
  by_cases h6 : rm s T = 0
  case neg =>
    rw [if_neg h6, if_neg h6]
    exact ⟨l, rfl, by rw [if_neg h6]; exact hE, rfl⟩
  rw [if_pos h6, if_pos h6]
  have hR := ren_of hs h1 h3 h4 (by simpa using h5) h6
  have hF24 := (okP_pth h1).2.2
  have hT24 := (okP_pth h2).2.2
  have hkl : ∀ x ∈ l, x.1.length ≤ 24 := fun x hx => (okP_pth (hs.ok _ _ ((enum_mem hE).1 hx))).2.2
  generalize hL : loopO _ (([] : List T_triremeref11_Node), (0 : Int)) = L
  have key : ∃ r, L = some r ∧ ((r = .inl (l.map fun x => (ren F T x.1, x.2)) ∧ ¬ badR s F T) ∨ (r = .inr (l, (90, 0, [], [])) ∧ badR s F T)) := by
    rw [← hL]
    refine loop_run (fun k (t : List T_triremeref11_Node × Int) => t = ((l.take k).map fun x => (ren F T x.1, x.2), (k : Int)) ∧ ∀ x ∈ l.take k, wthn F x.1 = true → (mvP F T x.1).length ≤ 24) (fun (r : List T_triremeref11_Node ⊕ List T_triremeref11_Node × T_api_Answer) => (r = .inl (l.map fun x => (ren F T x.1, x.2)) ∧ ¬ badR s F T) ∨ (r = .inr (l, (90, 0, [], [])) ∧ badR s F T)) l.length ?_ ?_ l.length 0 (([] : List T_triremeref11_Node), (0 : Int)) (by omega) ⟨by simp, by simp⟩
    · rintro k _ hk ⟨rfl, hI⟩
      simp only
      rw [if_pos (by omega), idxO_get hk]
      simp only [Option.bind_some]
      rw [rWithin_eq]
      simp only [Option.bind_some]
      have htk : l.take (k + 1) = l.take k ++ [l[k]] := List.take_succ_eq_append_getElem hk
      have hx24 := hkl _ (List.getElem_mem hk)
      have hmem := (enum_mem hE).1 (show (l[k].1, l[k].2) ∈ l from List.getElem_mem hk)
      by_cases hw : wthn F l[k].1 = true
      · have hFl : F.length ≤ l[k].1.length := by
          obtain ⟨_, c, hc⟩ := (wthn_iff h1).1 hw
          have e1 := (okP_pth h1).2.1
          have e2 := (okP_pth (wthn_ok hw).2).2.1
          have e3 := pth_app (nmP_ne h1 h4) c
          rw [← hc, ← e1, ← e2] at e3
          rw [e3]; simp
        rw [if_pos hw, slcO_of hFl (Nat.le_refl _), List.take_length]
        simp only [Option.bind_some]
        rw [appO_byte (by simp; omega)]
        simp only [Option.bind_some]
        by_cases hb : 24 < ((T ++ l[k].1.drop F.length).length : Int)
        · rw [if_pos hb]
          refine .inr ⟨_, rfl, .inr ⟨rfl, ⟨l[k].1, l[k].2, hmem, hw, ?_⟩⟩⟩
          unfold mvP; omega
        · rw [if_neg hb]
          simp only [Option.bind_some, Sum.elim_inl]
          rw [appO_of (by simp; omega)]
          simp only [Option.bind_some, Sum.elim_inl]
          rw [i64_id (by omega) (by omega)]
          refine .inl ⟨_, rfl, ?_, ?_⟩
          · rw [htk, List.map_append]
            simp only [List.map_cons, List.map_nil, ren, if_pos hw, mvP]
            congr 1
          · intro x hx hwx
            rw [htk] at hx
            rcases List.mem_append.1 hx with hx | hx
            · exact hI x hx hwx
            · simp at hx; rw [hx]; unfold mvP; omega
      · rw [if_neg hw]
        simp only [Option.bind_some, Sum.elim_inl]
        rw [appO_of (by simp; omega)]
        simp only [Option.bind_some, Sum.elim_inl]
        rw [i64_id (by omega) (by omega)]
        refine .inl ⟨_, rfl, ?_, ?_⟩
        · rw [htk, List.map_append]
          simp only [List.map_cons, List.map_nil, ren, if_neg hw]
          congr 1
        · intro x hx hwx
          rw [htk] at hx
          rcases List.mem_append.1 hx with hx | hx
          · exact hI x hx hwx
          · simp at hx; rw [hx] at hwx; exact absurd hwx hw
    · rintro _ ⟨rfl, hI⟩
      simp only
      rw [if_neg (by omega), List.take_length] at *
      refine ⟨_, rfl, .inl ⟨rfl, ?_⟩⟩
      rintro ⟨p, f, hp, hw, hb⟩
      have hle : (mvP F T p).length ≤ 24 := hI (p, f) ((enum_mem hE).2 hp) hw
      omega
  obtain ⟨r, k1, k2⟩ := key
  rw [k1]
  simp only [Option.bind_some]
  rcases k2 with ⟨rfl, hb⟩ | ⟨rfl, hb⟩
  · rw [if_neg hb]
    exact ⟨_, rfl, hR.enum hb hE, by simp⟩
  · rw [if_pos hb]
    exact ⟨_, rfl, hE, rfl⟩
end
end Go.Proofs.YtohmcgmmphpgoaaGreatDoor
