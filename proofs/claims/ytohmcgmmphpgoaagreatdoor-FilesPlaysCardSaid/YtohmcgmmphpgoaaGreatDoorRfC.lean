/- Plain: the document's files are the program's: operations. -/
import Derived.Test.YtohmcgmmphpgoaaGreatDoorRfB
set_option linter.unusedSimpArgs false
set_option linter.unusedVariables false
namespace Go.Proofs.YtohmcgmmphpgoaaGreatDoor
open Go.RowKit Go.Tri
theorem chk_app (p : List UInt8) : ∀ (a b : List (List UInt8)) (i : Nat), chk p i (a ++ b) = chk p i a ++ chk p (i + a.length) b
  | [], b, i => by simp [chk]
  | c :: a, b, i => by
    simp only [List.cons_append, chk, chk_app p a b (i + 1), List.length_cons]
    rw [show i + 1 + a.length = i + (a.length + 1) by omega]
theorem chunkL_get (d : List UInt8) (c : Nat) (h : c < chunkC 64 d.length) : (chunkL 64 d)[c]? = some ((d.drop (c * 64)).take 64) := by
  unfold chunkL chunkZ
  rw [List.map_map, List.getElem?_map, List.getElem?_range h]; rfl
theorem rPairs_eq {l : List Ent} (hn : (l.map (·.1)).Nodup) (hl : l.length ≤ 1000000) (hb : ∀ x ∈ l, x.1.length ≤ 100000 ∧ x.2.2.length ≤ 192) : m_triremeref11_Pairs l = some (prs2 l) := by
  unfold m_triremeref11_Pairs
  refine bind_run (fun k (t : List P2 × Int) => t.2 = (k : Int) ∧ t.1.Pairwise (fun a b => lssB b.1 a.1 = false) ∧ t.1.Perm ((l.take k).flatMap encE)) (fun r => r = prs2 l) l.length ⟨rfl, List.Pairwise.nil, by simp⟩ ?_ ?_ ?_
  · rintro k ⟨out, i⟩ hk ⟨h1, h2, h3⟩
    simp only at h1 h2 h3
    subst h1
    simp only
    rw [if_pos (by omega), idxO_get hk]
    simp only [Option.bind_some]
    have htk : l.take (k + 1) = l.take k ++ [l[k]] := List.take_succ_eq_append_getElem hk
    obtain ⟨hp1, hd1⟩ := hb _ (List.getElem_mem hk)
    have hol : out.length ≤ 4000000 := by
      rw [h3.length_eq]
      have := flat_len (l := l.take k) fun x hx => (hb x (List.mem_of_mem_take hx)).2
      rw [List.length_take] at this; omega
    have hfl : (l.take (k + 1)).flatMap encE = (l.take k).flatMap encE ++ encE l[k] := by rw [htk, List.flatMap_append]; simp
    generalize hx : l[k] = x at hp1 hd1 hfl ⊢
    obtain ⟨p, b, d⟩ := x
    simp only at hp1 hd1 ⊢
    refine .inl ?_
    rw [hfl]
    cases b with
    | true =>
      rw [if_pos rfl, appO_byte (by simp; omega), show u8O 100 = some 100 from rfl]
      simp only [Option.bind_some]
      obtain ⟨o1, e1, e2, e3⟩ := rPut_eq h2 (by omega) ([110] ++ p, [100])
      rw [e1]
      simp only [Option.bind_some]
      rw [i64_id (by omega) (by omega)]
      refine ⟨_, rfl, by simp only; omega, e2, e3.trans ?_⟩
      exact h3.append (List.Perm.of_eq (by simp [encE]))
    | false =>
      rw [if_neg (by decide), appO_byte (by simp; omega), show (256 : Int) = ((256 : Nat) : Int) from rfl, quoO_nat _ _ (by omega) (by omega), remO_nat _ _ (by omega), show u8O 102 = some 102 from rfl]
      simp only [Option.bind_some]
      have w1 : IntKind.u8.wrap ((d.length / 256 : Nat) : Int) = ((d.length / 256 ^ 1 % 256 : Nat) : Int) := by rw [wrap_u8']; omega
      have w2 : IntKind.u8.wrap ((d.length % 256 : Nat) : Int) = ((d.length / 256 ^ 0 % 256 : Nat) : Int) := by rw [wrap_u8', Nat.pow_zero, Nat.div_one]; omega
      rw [w1, w2, u8O_of (by omega) (by omega), u8O_of (by omega) (by omega)]
      simp only [Option.bind_some]
      obtain ⟨o1, e1, e2, e3⟩ := rPut_eq h2 (by omega) ([110] ++ p, [102, u8 ((d.length / 256 ^ 1 % 256 : Nat) : Int), u8 ((d.length / 256 ^ 0 % 256 : Nat) : Int)])
      rw [e1]
      simp only [Option.bind_some]
      have hcl := chunkC_le hd1
      have hcn := chunkL_len d 64
      have e3l := e3.length_eq
      simp only [List.length_append, List.length_cons, List.length_nil] at e3l
      generalize hL : loopO _ (o1, (0 : Int)) = L
      have key : ∃ r, L = some r ∧ (r.Pairwise (fun a b => lssB b.1 a.1 = false) ∧ r.Perm (o1 ++ chk p 0 (chunkL 64 d))) := by
        rw [← hL]
        refine loop_run (fun c (t : List P2 × Int) => t.2 = (c : Int) ∧ t.1.Pairwise (fun a b => lssB b.1 a.1 = false) ∧ t.1.Perm (o1 ++ chk p 0 ((chunkL 64 d).take c))) (fun (r : List P2) => r.Pairwise (fun a b => lssB b.1 a.1 = false) ∧ r.Perm (o1 ++ chk p 0 (chunkL 64 d))) (chunkC 64 d.length) ?_ ?_ (chunkC 64 d.length) 0 (o1, (0 : Int)) (by omega) (show ((0 : Int) = ((0 : Nat) : Int)) ∧ o1.Pairwise (fun a b => lssB b.1 a.1 = false) ∧ o1.Perm (o1 ++ chk p 0 ((chunkL 64 d).take 0)) from ⟨rfl, e2, by simp [chk]⟩)
        · rintro c ⟨o2, i⟩ hc ⟨g1, g2, g3⟩
          simp only at g1 g2 g3
          subst g1
          simp only
          have hclt := (chunkC_lt (n := 64) (len := d.length) (k := c) (by omega)).1 hc
          have hgl := g3.length_eq
          simp only [List.length_append, chk_len, List.length_take] at hgl
          rw [i64_id (n := 64 * (c : Int)) (by omega) (by omega), if_pos (by omega), i64_id (n := 64 * (c : Int) + 64) (by omega) (by omega)]
          obtain ⟨e, he, hee⟩ : ∃ e : Nat, (if (d.length : Int) < 64 * (c : Int) + 64 then some (d.length : Int) else some (64 * (c : Int) + 64)) = some (e : Int) ∧ e = min d.length (64 * c + 64) := by
            by_cases hh : (d.length : Int) < 64 * (c : Int) + 64
            · exact ⟨d.length, by rw [if_pos hh], by omega⟩
            · exact ⟨64 * c + 64, by rw [if_neg hh]; simp, by omega⟩
          rw [he, appO_byte (by simp; omega)]
          simp only [Option.bind_some]
          rw [show 64 * (c : Int) = ((64 * c : Nat) : Int) by omega, slcO_of (by omega) (by omega)]
          simp only [Option.bind_some]
          rw [show u8O 0 = some 0 from rfl, wrap_u8', show ((c : Int) % 256) = (c : Int) by omega, u8O_of (by omega) (by omega)]
          simp only [Option.bind_some]
          rw [appO_byte (by simp; omega)]
          simp only [Option.bind_some]
          obtain ⟨o3, f1, f2, f3⟩ := rPut_eq g2 (by omega) ([99] ++ p ++ [0, u8 (c : Int)], (d.take e).drop (64 * c))
          rw [f1]
          simp only [Option.bind_some]
          rw [i64_id (by omega) (by omega)]
          refine .inl ⟨_, rfl, by simp only; omega, f2, f3.trans ?_⟩
          have hck := chunkL_get d c hc
          have hcl2 : c < (chunkL 64 d).length := by omega
          rw [List.take_succ_eq_append_getElem hcl2, chk_app, ← List.append_assoc]
          refine g3.append (List.Perm.of_eq ?_)
          rw [List.getElem?_eq_getElem hcl2] at hck
          rw [Option.some.inj hck]
          have hslice : (d.take e).drop (64 * c) = (d.drop (c * 64)).take 64 := by
            rw [List.drop_take, Nat.mul_comm c 64]
            by_cases hh : 64 * c + 64 ≤ d.length
            · rw [show e - 64 * c = 64 by omega]
            · rw [List.take_of_length_le (by simp; omega), List.take_of_length_le (by simp; omega)]
          rw [hslice]
          simp only [chk, List.length_take]
          rw [show 0 + min c (chunkL 64 d).length = c by omega]
          simp
        · rintro ⟨o2, i⟩ ⟨g1, g2, g3⟩
          simp only at g1 g2 g3
          subst g1
          simp only
          have hclt := (not_congr (chunkC_lt (n := 64) (len := d.length) (k := chunkC 64 d.length) (by omega))).1 (Nat.lt_irrefl _)
          rw [i64_id (n := 64 * ((chunkC 64 d.length : Nat) : Int)) (by omega) (by omega), if_neg (by omega)]
          refine ⟨_, rfl, g2, ?_⟩
          rwa [List.take_of_length_le (by omega)] at g3
      obtain ⟨r, k1, k2, k3⟩ := key
      rw [k1]
      simp only [Option.bind_some]
      rw [i64_id (by omega) (by omega)]
      refine ⟨_, rfl, by simp only; omega, k2, k3.trans ?_⟩
      refine ((e3.append_right _).trans ?_)
      rw [List.append_assoc]
      exact h3.append (List.Perm.of_eq (by simp [encE, len2]))
  · rintro ⟨out, i⟩ ⟨h1, h2, h3⟩
    simp only at h1 h2 h3
    subst h1
    simp only
    rw [if_neg (by omega)]
    refine ⟨_, rfl, ?_⟩
    rw [List.take_length] at h3
    refine sortPairs_eq (enc_nodup hn fun x hx => (hb x hx).2) h3 (h2.imp fun {a b} h hlt => ?_)
    unfold ltK at hlt
    rw [(lss_cmp _ _).2 hlt] at h; cases h
  · rintro _ rfl; rfl
theorem szd_succ (d : List UInt8) (k : Nat) : szd d (k + 1) = szd d k ++ [d.getD k 0] := by
  unfold szd
  by_cases h : k < d.length
  · rw [show k + 1 - d.length = 0 by omega, show k - d.length = 0 by omega, List.take_succ_eq_append_getElem h, List.getD_eq_getElem?_getD, List.getElem?_eq_getElem h]
    simp
  · rw [List.take_of_length_le (by omega), List.take_of_length_le (by omega), show k + 1 - d.length = (k - d.length) + 1 by omega, List.replicate_succ', List.getD_eq_getElem?_getD, List.getElem?_eq_none (by omega)]
    simp
theorem szd_zero (d : List UInt8) : szd d 0 = [] := by simp [szd]
theorem rResized_eq (d : List UInt8) (n : Nat) (h : n ≤ 1000000) : m_triremeref11_resized d (n : Int) = some (szd d n) := by
  unfold m_triremeref11_resized
  refine bind_run (fun k (t : List UInt8 × Int) => t = (szd d k, (k : Int))) (fun r => r = szd d n) n (by simp [szd_zero]) ?_ ?_ ?_
  · rintro k _ hk rfl
    simp only
    rw [if_pos (by omega)]
    have hsl := szd_len d k
    by_cases h1 : k < d.length
    · rw [if_pos (by omega), idxO_get h1]
      simp only [Option.bind_some]
      rw [u8_ok]
      simp only [Option.bind_some]
      rw [appO_byte (by simp; omega)]
      simp only [Option.bind_some]
      rw [i64_id (by omega) (by omega)]
      refine .inl ⟨_, rfl, ?_⟩
      rw [szd_succ, List.getD_eq_getElem?_getD, List.getElem?_eq_getElem h1]; rfl
    · rw [if_neg (by omega), show u8O 0 = some 0 from rfl]
      simp only [Option.bind_some]
      rw [appO_byte (by simp; omega)]
      simp only [Option.bind_some]
      rw [i64_id (by omega) (by omega)]
      refine .inl ⟨_, rfl, ?_⟩
      rw [szd_succ, List.getD_eq_getElem?_getD, List.getElem?_eq_none (by omega)]; rfl
  · rintro _ rfl
    simp only
    rw [if_neg (by omega)]
    exact ⟨_, rfl, rfl⟩
  · rintro _ rfl; rfl
section
variable {s : FS} {l : List Ent}
theorem enum_put (hE : Enum s l) {i : Nat} {p : List UInt8} {f : Bool × List UInt8} (hi : l[i]? = some (p, f)) (v : Bool × List UInt8) : Enum (fset p v s) (l.set i (p, v)) := by
  have hil := (List.getElem?_eq_some_iff.1 hi).1
  have hk : (l.set i (p, v)).map (·.1) = l.map (·.1) := by
    rw [List.map_set]
    refine set_self ?_
    rw [List.getElem?_map, hi]; rfl
  have hn : ((l.set i (p, v)).map (·.1)).Nodup := by rw [hk]; exact hE.1
  refine ⟨hn, fun q => ?_⟩
  by_cases e : q = p
  · subst e
    rw [fset_eq]
    exact (aget_of_mem hn (List.mem_of_getElem? (i := i) (by rw [List.getElem?_set_self hil]))).symm
  · rw [fset_ne e]
    cases hq : s q with
    | some g =>
      symm
      refine aget_of_mem hn ?_
      obtain ⟨j, hj, e2⟩ := List.getElem_of_mem ((enum_mem hE).2 hq)
      refine List.mem_of_getElem? (i := j) ?_
      rw [List.getElem?_set_ne (fun e3 => by
        subst e3
        rw [List.getElem?_eq_getElem hj, e2] at hi
        cases hi; exact e rfl), List.getElem?_eq_getElem hj, e2]
    | none =>
      symm
      refine aget_none fun hm => ?_
      rw [hk] at hm
      have := (enum_keys hE q).1 hm
      rw [hq] at this; cases this
theorem rd_fold (d : List UInt8) (off n : Nat) (k : Nat) (hk : k ≤ d.length) : ((d.take k).drop off).take (min n 64) ++ (if k < d.length ∧ off ≤ k ∧ k - off < min n 64 then [d.getD k 0] else []) = ((d.take (k + 1)).drop off).take (min n 64) := by
  by_cases h1 : k < d.length
  · rw [List.take_succ_eq_append_getElem h1, List.getD_eq_getElem?_getD, List.getElem?_eq_getElem h1]
    have hl : (d.take k).length = k := by simp; omega
    generalize d.take k = t at hl ⊢
    by_cases h2 : off ≤ k
    · rw [List.drop_append_of_le_length (by omega)]
      have hl2 : (t.drop off).length = k - off := by simp; omega
      generalize t.drop off = u at hl2 ⊢
      by_cases h3 : k - off < min n 64
      · rw [if_pos ⟨h1, h2, h3⟩, List.take_of_length_le (l := u) (by omega), List.take_of_length_le (l := u ++ [d[k]]) (by simp; omega)]; rfl
      · rw [if_neg (by omega), List.take_append_of_le_length (by omega)]; simp
    · have e1 : t.drop off = [] := List.drop_eq_nil_of_le (by omega)
      have e2 : (t ++ [d[k]]).drop off = [] := List.drop_eq_nil_of_le (by simp; omega)
      rw [if_neg (by omega), e1, e2]; simp
  · rw [if_neg (by omega), List.take_of_length_le (show d.length ≤ k by omega), List.take_of_length_le (show d.length ≤ k + 1 by omega)]; simp
/-- What is written up to a place. -/
def wrt (d : List UInt8) (off : Nat) (D : List UInt8) (k : Nat) : List UInt8 := if k = 0 then d else putAt (szd d (max d.length (off + k))) off (D.take k)
theorem wrt_len (d : List UInt8) (off : Nat) (D : List UInt8) (k : Nat) (hk : k ≤ D.length) : (wrt d off D k).length = if k = 0 then d.length else max d.length (off + k) := by
  unfold wrt
  split
  · rfl
  · rw [putAt_len' _ _ _ (by rw [szd_len]; simp; omega), szd_len]
theorem ext_getD {xs ys : List UInt8} (h : xs.length = ys.length) (hg : ∀ i, i < xs.length → xs.getD i 0 = ys.getD i 0) : xs = ys := by
  refine List.ext_getElem h fun i h1 h2 => ?_
  have := hg i h1
  simpa [List.getD_eq_getElem?_getD, List.getElem?_eq_getElem h1, List.getElem?_eq_getElem h2] using this
theorem wrt_get (d : List UInt8) (off : Nat) (D : List UInt8) (k : Nat) (hk : k ≤ D.length) (i : Nat) (hi : i < (wrt d off D k).length) : (wrt d off D k).getD i 0 = if off ≤ i ∧ i < off + k then D.getD (i - off) 0 else d.getD i 0 := by
  have hl := wrt_len d off D k hk
  unfold wrt at hi ⊢
  by_cases h0 : k = 0
  · rw [if_pos h0, if_neg (by omega)]
  · rw [if_neg h0] at hi ⊢
    rw [putAt_len' _ _ _ (by rw [szd_len]; simp; omega), szd_len] at hi
    rw [putAt_get _ _ _ (by rw [szd_len]; simp; omega)]
    have e : (D.take k).length = k := by simp; omega
    rw [e]
    by_cases h1 : off ≤ i ∧ i < off + k
    · rw [if_pos h1, if_pos h1]
      simp only [List.getD_eq_getElem?_getD]
      rw [List.getElem?_take_of_lt (by omega)]
    · rw [if_neg h1, if_neg h1, szd_get _ _ _ hi]
theorem wr_step (d : List UInt8) (off : Nat) (D : List UInt8) (k : Nat) (hk : k < D.length) : ((if (wrt d off D k).length ≤ off + k then szd (wrt d off D k) (off + k + 1) else wrt d off D k).take (off + k)) ++ [D.getD k 0] ++ ((if (wrt d off D k).length ≤ off + k then szd (wrt d off D k) (off + k + 1) else wrt d off D k).drop (off + k + 1)) = wrt d off D (k + 1) := by
  have hl := wrt_len d off D k (by omega)
  have hl1 := wrt_len d off D (k + 1) (by omega)
  rw [if_neg (by omega)] at hl1
  generalize hx : (if (wrt d off D k).length ≤ off + k then szd (wrt d off D k) (off + k + 1) else wrt d off D k) = x
  have hxl : x.length = max (max d.length (off + k)) (off + k + 1) ∧ ∀ i, i < x.length → i ≠ off + k → x.getD i 0 = if off ≤ i ∧ i < off + k then D.getD (i - off) 0 else d.getD i 0 := by
    rw [← hx]
    by_cases h1 : (wrt d off D k).length ≤ off + k
    · rw [if_pos h1, szd_len]
      refine ⟨by split at hl <;> omega, fun i hi hne => ?_⟩
      rw [szd_get _ _ _ hi]
      by_cases h2 : i < (wrt d off D k).length
      · exact wrt_get d off D k (by omega) i h2
      · rw [List.getD_eq_getElem?_getD, List.getElem?_eq_none (by omega)]
        have h3 : ¬ (off ≤ i ∧ i < off + k) := fun h => by
          split at hl
          · omega
          · omega
        rw [if_neg h3, List.getD_eq_getElem?_getD, List.getElem?_eq_none (by split at hl <;> omega)]
    · rw [if_neg h1]
      refine ⟨by split at hl <;> omega, fun i hi hne => wrt_get d off D k (by omega) i hi⟩
  obtain ⟨hx1, hx2⟩ := hxl
  refine ext_getD (by simp; omega) fun i hi => ?_
  simp only [List.length_append, List.length_take, List.length_cons, List.length_nil, List.length_drop] at hi
  rw [wrt_get d off D (k + 1) (by omega) i (by omega)]
  by_cases h1 : i < off + k
  · have e : ((x.take (off + k)) ++ [D.getD k 0] ++ x.drop (off + k + 1)).getD i 0 = x.getD i 0 := by
      simp only [List.getD_eq_getElem?_getD]
      rw [List.append_assoc, List.getElem?_append_left (by simp; omega), List.getElem?_take_of_lt h1]
    rw [e, hx2 i (by omega) (by omega)]
    by_cases h2 : off ≤ i
    · rw [if_pos ⟨h2, h1⟩, if_pos ⟨h2, by omega⟩]
    · rw [if_neg (by omega), if_neg (by omega)]
  · by_cases h2 : i = off + k
    · subst h2
      have e : ((x.take (off + k)) ++ [D.getD k 0] ++ x.drop (off + k + 1)).getD (off + k) 0 = D.getD k 0 := by
        simp only [List.getD_eq_getElem?_getD]
        rw [List.getElem?_append_left (by simp; omega), List.getElem?_append_right (by simp; omega)]
        simp [show off + k - min (off + k) x.length = 0 by omega]
      rw [e, if_pos ⟨by omega, by omega⟩, show off + k - off = k by omega]
    · have e : ((x.take (off + k)) ++ [D.getD k 0] ++ x.drop (off + k + 1)).getD i 0 = x.getD i 0 := by
        simp only [List.getD_eq_getElem?_getD]
        rw [List.getElem?_append_right (by simp; omega), List.getElem?_drop]
        congr 2
        simp; omega
      rw [e, hx2 i (by omega) h2, if_neg (by omega), if_neg (by omega)]
end
end Go.Proofs.YtohmcgmmphpgoaaGreatDoor
