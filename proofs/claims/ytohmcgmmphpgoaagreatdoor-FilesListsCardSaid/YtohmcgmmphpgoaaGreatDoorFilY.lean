/- Plain: what was written is read. -/
import Derived.Test.YtohmcgmmphpgoaaGreatDoorFilX
set_option linter.unusedSimpArgs false
set_option linter.unusedVariables false
namespace Go.Proofs.YtohmcgmmphpgoaaGreatDoor
open Go.RowKit Go.Tri
/-- All of a file, and how long it is. -/
def all (s : FS) (p : List UInt8) : List UInt8 × Int := if (rg s p).2 = 0 then ((rg s p).1.2, ((rg s p).1.2.length : Int)) else ([], -1)
theorem read_eq {s : FS} (hs : Snd s) {n : Nat} (hc : Crd s n) (hn : n ≤ 200000) (p : List UInt8) (hp : p.length ≤ 400) : lRead (prsF s) p = some (all s p) := by
  unfold lRead
  refine bind_run (fun k (t : List UInt8 × Int × Int) => t.2.2 = ((64 * k : Nat) : Int) ∧ t.1 = (all s p).1.take (64 * k) ∧ t.2.1 = if k = 0 then -1 else (all s p).2) (fun r => r = all s p) 4 ⟨rfl, by simp, rfl⟩ ?_ ?_ ?_
  · rintro k ⟨out, m, i⟩ hk ⟨h1, h2, h3⟩
    simp only at h1 h2 h3
    subst h1 h2
    simp only
    rw [if_pos (by omega), fDo_eq hs hc hn (5, p, [], ((64 * k : Nat) : Int), 64, []) (opOk (by simp only; omega) (by simp) (by simp))]
    simp only [Option.bind_some]
    have hd : (doP s (5, p, [], ((64 * k : Nat) : Int), 64, [])).1 = rdA s (5, p, [], ((64 * k : Nat) : Int), 64, []) := rfl
    rw [hd]
    refine .inl ?_
    unfold rdA all
    simp only
    by_cases h0 : (rg s p).2 = 0
    · obtain ⟨fd, g1, g2⟩ := rg_ok h0
      have hfl := hs.len _ _ g1
      simp only at hfl
      rw [if_pos h0, g2, if_neg (show ¬ (((64 * k : Nat) : Int) < 0 ∨ (64 : Int) < 0) by omega)]
      simp only [if_true]
      rw [appO_byte (by simp; omega)]
      simp only [Option.bind_some]
      rw [i64_id (by omega) (by omega)]
      refine ⟨_, rfl, ?_, ?_, ?_⟩
      · simp only; omega
      · simp only [Int.toNat_natCast]
        rw [show 64 * (k + 1) = 64 * k + 64 by omega, List.take_add]
        congr 1
      · rw [if_neg (by omega)]
    · rw [if_neg h0, if_neg h0, if_neg h0]
      simp only [Option.bind_some]
      rw [i64_id (by omega) (by omega)]
      refine ⟨_, rfl, ?_, ?_, ?_⟩
      · simp only; omega
      · simp
      · simp only [h3]
        unfold all
        rw [if_neg h0]
        split <;> simp
  · rintro ⟨out, m, i⟩ ⟨h1, h2, h3⟩
    simp only at h1 h2 h3
    subst h1 h2
    simp only
    rw [if_neg (by omega)]
    refine ⟨_, rfl, ?_⟩
    rw [if_neg (by omega)] at h3
    have hl : (all s p).1.length ≤ 256 := by
      unfold all
      by_cases h0 : (rg s p).2 = 0
      · obtain ⟨fd, g1, g2⟩ := rg_ok h0
        have hfl := hs.len _ _ g1
        simp only at hfl
        rw [if_pos h0, g2]; simp only; omega
      · rw [if_neg h0]; simp
    rw [h3, List.take_of_length_le (by omega)]
  · rintro _ rfl; rfl
theorem putAt_get (xs : List UInt8) (o : Nat) (d : List UInt8) (h : o + d.length ≤ xs.length) (i : Nat) : (putAt xs o d).getD i 0 = if o ≤ i ∧ i < o + d.length then d.getD (i - o) 0 else xs.getD i 0 := by
  unfold putAt
  simp only [List.getD_eq_getElem?_getD]
  by_cases h1 : i < o
  · rw [if_neg (by omega), List.append_assoc, List.getElem?_append_left (by simp; omega), List.getElem?_take_of_lt h1]
  · by_cases h2 : i < o + d.length
    · rw [if_pos ⟨by omega, h2⟩, List.getElem?_append_left (by simp; omega), List.getElem?_append_right (by simp; omega)]
      simp only [List.length_take, Nat.min_eq_left (show o ≤ xs.length by omega)]
    · rw [if_neg (by omega), List.getElem?_append_right (by simp; omega), List.getElem?_drop]
      congr 2
      simp only [List.length_append, List.length_take, Nat.min_eq_left (show o ≤ xs.length by omega)]
      omega
theorem szd_get (d : List UInt8) (n i : Nat) (h : i < n) : (szd d n).getD i 0 = d.getD i 0 := by
  unfold szd
  simp only [List.getD_eq_getElem?_getD]
  by_cases h1 : i < d.length
  · rw [List.getElem?_append_left (by simp; omega), List.getElem?_take_of_lt h]
  · rw [List.getElem?_append_right (by simp; omega), List.getElem?_eq_none (show d.length ≤ i by omega)]
    cases hx : (List.replicate (n - d.length) (0 : UInt8))[i - (d.take n).length]? with
    | none => rfl
    | some y =>
      have := List.mem_of_getElem? hx
      rw [List.mem_replicate] at this
      rw [this.2]; rfl
/-- Each byte is what was written, or what was there, or nought. -/
theorem rd_loop (A B D : List UInt8) (off : Int) (h0 : 0 ≤ off) (hA : A.length ≤ 1000000) (hoff : off ≤ 1000000) (hD : D.length ≤ 1000000) (hk : ∀ i : Nat, i < A.length → A.getD i 0 = if off.toNat ≤ i ∧ i < off.toNat + D.length then D.getD (i - off.toNat) 0 else B.getD i 0) :
    (Option.bind (α := (Unit) ⊕ Bool) (loopO (fun (s287 : Int) => if s287 < ((A).length : Int) then (Option.bind (α := (Unit) ⊕ Bool) ((idxO A s287).bind fun x314 =>
Option.bind (α := (Int)) (if s287 < ((B).length : Int) then ((idxO B s287).bind fun x323 =>
some ((x323).toNat : Int))
 else (some 0)) fun r321 => if off ≤ s287 then (Option.bind (α := (Int)) (if (IntKind.i64.wrap (s287 - off)) < ((D).length : Int) then ((idxO D (IntKind.i64.wrap (s287 - off))).bind fun x333 =>
some ((x333).toNat : Int))
 else (some r321)) fun r331 => if ((x314).toNat : Int) = r331 then (some (.inl ()))
 else (some (.inr false)))
 else (if ((x314).toNat : Int) = r321 then (some (.inl ()))
 else (some (.inr false)))) fun o313 => Sum.elim (fun r313 => some (.inl (IntKind.i64.wrap (s287 + 1)))) (fun rv => some (.inr (.inr rv))) o313)
 else (some (.inr (.inl ())))) 0) fun o186 => Sum.elim (fun r186 => some true) (fun rv => some rv) o186) = some true := by
  refine bind_run (fun k (s : Int) => s = (k : Int)) (fun r => r = .inl ()) A.length rfl ?_ ?_ ?_
  · rintro k _ hlt rfl
    refine .inl ⟨((k + 1 : Nat) : Int), ?_, rfl⟩
    rw [if_pos (by omega), idxO_getD 0 rfl hlt]
    simp only [Option.bind_some]
    have hb : (if (k : Int) < (B.length : Int) then (idxO B (k : Int)).bind fun x => some (x.toNat : Int) else some 0) = some ((B.getD k 0).toNat : Int) := by
      by_cases h1 : k < B.length
      · rw [if_pos (by omega), idxO_getD 0 rfl h1]; rfl
      · rw [if_neg (by omega), List.getD_eq_getElem?_getD, List.getElem?_eq_none (by omega)]; rfl
    rw [hb]
    simp only [Option.bind_some]
    have hkk := hk k hlt
    by_cases h2 : off ≤ (k : Int)
    · rw [if_pos h2, i64_id (n := (k : Int) - off) (by omega) (by omega)]
      by_cases h3 : (k : Int) - off < (D.length : Int)
      · rw [if_pos h3, show (k : Int) - off = ((k - off.toNat : Nat) : Int) by omega, idxO_getD 0 rfl (by omega)]
        simp only [Option.bind_some]
        rw [if_pos ⟨by omega, by omega⟩] at hkk
        rw [hkk, if_pos rfl]
        simp only [Option.bind_some, Sum.elim_inl]
        rw [i64_id (by omega) (by omega)]; rfl
      · rw [if_neg h3]
        simp only [Option.bind_some]
        rw [if_neg (by omega)] at hkk
        rw [hkk, if_pos rfl]
        simp only [Option.bind_some, Sum.elim_inl]
        rw [i64_id (by omega) (by omega)]; rfl
    · rw [if_neg h2]
      rw [if_neg (by omega)] at hkk
      rw [hkk, if_pos rfl]
      simp only [Option.bind_some, Sum.elim_inl]
      rw [i64_id (by omega) (by omega)]; rfl
  · rintro _ rfl
    exact ⟨_, by rw [if_neg (by omega)], rfl⟩
  · rintro _ rfl; rfl
theorem reads_true (L : List P2) (o : Opr) : lReads L o = some true := by
  obtain ⟨k0, p, t, off, m, d⟩ := o
  unfold lReads
  rw [speaks_eq]
  simp only [Option.bind_some, Bool.not_true, Bool.false_eq_true, if_false]
  rcases lGreat_eq L (3, p, t, off, m, d) with h | ⟨h, hl, hb, o1, o2, o3⟩
  · rw [h]; rfl
  rw [h]
  simp only [Option.bind_some, Bool.false_eq_true, if_false]
  rcases law_start L hl hb with h2 | ⟨h2, s, hs, hc, rfl⟩
  · rw [h2]; rfl
  rw [h2]
  simp only at o1 o2 o3
  simp only [Option.bind_some, if_true]
  obtain ⟨k1, k2⟩ := nx_ok hs hc (by omega) (3, p, t, off, m, d)
  rw [read_eq hs hc (by omega) p (by omega), fDo_eq hs hc (by omega) (3, p, t, off, m, d) (opOk (by simp only; omega) (by simp only; omega) (by simp only; omega))]
  simp only [Option.bind_some]
  rw [read_eq k1 k2 (by omega) p (by omega)]
  simp only [Option.bind_some]
  have hd : doP s (3, p, t, off, m, d) = wr s (3, p, t, off, m, d) := rfl
  by_cases h0 : (doP s (3, p, t, off, m, d)).1.1 = 0
  · have hn : nx s (3, p, t, off, m, d) = (wr s (3, p, t, off, m, d)).2 := by unfold nx; rw [if_pos h0, hd]
    rw [hn] at k1
    rw [if_pos h0, hn]
    rw [hd] at h0 ⊢
    unfold wr at h0 k1 ⊢
    simp only [if_true] at h0 k1 ⊢
    by_cases e0 : (rg s p).2 = 0
    · obtain ⟨fd, g1, g2⟩ := rg_ok e0
      have hfl : fd.length ≤ 192 := hs.len _ _ g1
      rw [if_pos e0] at h0 k1 ⊢
      by_cases e1 : off < 0
      · rw [if_pos e1] at h0; cases h0
      · rw [if_neg e1] at h0 k1 ⊢
        by_cases e2 : 192 < off ∨ True ∧ 192 < off + (d.length : Int)
        · rw [if_pos e2] at h0; cases h0
        · rw [if_neg e2] at k1 ⊢
          simp only [show ((3 : Int) = 4) = False from by simp, if_false] at k1 ⊢
          have e3 : off ≤ 192 := by
            by_cases h : off ≤ 192
            · exact h
            · exact absurd (.inl (by omega)) e2
          have e4 : off + (d.length : Int) ≤ 192 := by
            by_cases h : off + (d.length : Int) ≤ 192
            · exact h
            · exact absurd (.inr ⟨trivial, by omega⟩) e2
          have hB : all s p = (fd, (fd.length : Int)) := by unfold all; rw [if_pos e0, g2]
          rw [hB]
          simp only [eq_self, if_true]
          by_cases e5 : 0 < d.length
          · rw [if_pos e5] at k1 ⊢
            rw [g2] at k1 ⊢
            simp only at k1 ⊢
            generalize hx : putAt (szd fd (max fd.length (off.toNat + d.length))) off.toNat d = x at k1 ⊢
            have hxl : x.length = max fd.length (off.toNat + d.length) := by
              rw [← hx, putAt_len' _ _ _ (by rw [szd_len]; omega), szd_len]
            have hA : all (fset p (false, x) s) p = (x, (x.length : Int)) := by
              unfold all
              rw [rg_some k1 fset_eq, if_pos rfl]
            rw [hA]
            simp only [eq_self, if_true]
            rw [if_pos (show 0 < (d.length : Int) by omega), i64_id (n := off + (d.length : Int)) (by omega) (by omega), if_pos (by rw [hxl]; omega), if_neg (by omega)]
            refine rd_loop x fd d off (by omega) (by omega) (by omega) (by omega) fun i hi => ?_
            rw [← hx, putAt_get _ _ _ (by rw [szd_len]; omega)]
            by_cases h5 : off.toNat ≤ i ∧ i < off.toNat + d.length
            · rw [if_pos h5, if_pos h5]
            · rw [if_neg h5, if_neg h5, szd_get _ _ _ (by omega)]
          · rw [if_neg e5]
            rw [hB]
            simp only [eq_self, if_true]
            rw [if_neg (show ¬ 0 < (d.length : Int) by omega), if_pos (show (d.length : Int) = 0 by omega)]
            refine rd_loop fd fd d off (by omega) (by omega) (by omega) (by omega) fun i hi => ?_
            rw [if_neg (by omega)]
    · rw [if_neg e0] at h0; exact absurd h0 e0
  · rw [if_neg h0, nx_err h0, if_pos rfl, if_pos rfl]
    have hl4 := (hs.prs hc (by omega)).2.2.1
    rw [samePairs_eq _ _ (by omega)]
    simp
end Go.Proofs.YtohmcgmmphpgoaaGreatDoor
