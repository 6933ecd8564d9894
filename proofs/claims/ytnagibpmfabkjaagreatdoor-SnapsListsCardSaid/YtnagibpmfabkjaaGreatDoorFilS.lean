/- Plain: files stay right; what 'do' does, as a whole. -/
import Derived.Test.YtnagibpmfabkjaaGreatDoorFilM
set_option linter.unusedSimpArgs false
set_option linter.unusedVariables false
namespace Go.Proofs.YtnagibpmfabkjaaGreatDoor
open Go.RowKit Go.Tri
theorem prs_of {s : FS} (hs : Snd s) {l : List Ent} (hE : Enum s l) (hl : l.length ≤ 1000000) : prsF s = prs2 l := by
  have hk := hs.ent hE
  unfold prsF
  rw [sPairs_eq hE hl fun x hx => ⟨by have := (okP_pth (hk.ok x hx)).2.2; omega, hk.len x hx⟩]; rfl
theorem prs2_len (l : List Ent) : (prs2 l).length = (l.flatMap encE).length := by
  unfold prs2 sortPairs; exact (List.mergeSort_perm _ leP).length_eq
theorem filter_less {β : Type} {l : List (List UInt8 × β)} {k : List UInt8} (h : k ∈ l.map (·.1)) : (l.filter fun x => x.1 ≠ k).length + 1 ≤ l.length := by
  induction l with
  | nil => simp at h
  | cons x l ih =>
    rw [List.filter_cons]
    by_cases e : x.1 = k
    · simp only [e, ne_eq, not_true, decide_false, Bool.false_eq_true, if_false, List.length_cons]
      have := List.length_filter_le (fun x : List UInt8 × β => decide (x.1 ≠ k)) l
      simp only [ne_eq] at this
      omega
    · have : k ∈ l.map (·.1) := by
        rcases List.mem_cons.1 h with h | h
        · exact absurd h.symm e
        · exact h
      have := ih this
      simp only [ne_eq, e, not_false_eq_true, decide_true, if_true, List.length_cons] at this ⊢
      omega
theorem enum_keys {β : Type} {m : List UInt8 → Option β} {l : List (List UInt8 × β)} (h : Enum m l) (k : List UInt8) : k ∈ l.map (·.1) ↔ (m k).isSome = true := by
  rw [h.2 k]; exact (aget_isSome k l).symm
theorem Crd.upd {β : Type} {m : List UInt8 → Option β} {n : Nat} (h : Crd m n) {k : List UInt8} (hk : (m k).isSome = true) (v : β) : Crd (fset k v m) n := by
  obtain ⟨l, h1, h2⟩ := h
  refine ⟨_, enum_set h1 k v, ?_⟩
  have := filter_less ((enum_keys h1 k).2 hk)
  simp only [List.length_cons]
  omega
theorem fset_ne {β : Type} {k q : List UInt8} {v : β} {m : List UInt8 → Option β} (h : q ≠ k) : fset k v m q = m q := by unfold fset; rw [if_neg h]
theorem fset_eq {β : Type} {k : List UInt8} {v : β} {m : List UInt8 → Option β} : fset k v m k = some v := by unfold fset; rw [if_pos rfl]
theorem par_ne {q : List UInt8} (h : okP q = true) (hr : q ≠ [47]) : par q ≠ q := fun e => by
  obtain ⟨h1, h2, _⟩ := nm_par h hr
  have h3 := congrArg List.length h1
  rw [e, List.length_dropLast] at h3
  have := List.length_pos_iff.2 (nmP_ne h hr)
  omega
theorem Snd.create {s : FS} (hs : Snd s) {p : List UInt8} (h : rm s p = 0) (b : Bool) : Snd (fset p (b, []) s) := by
  obtain ⟨h1, h2, ⟨d, h3⟩, h4⟩ := rm_ok h
  obtain ⟨dr, hr⟩ := hs.root
  refine ⟨⟨dr, by rw [fset_ne (Ne.symm h2)]; exact hr⟩, fun q f hq => ?_, fun q f hq => ?_, fun q f hq => ?_, fun q f hq hn => ?_⟩
  · by_cases e : q = p
    · rw [e]; exact h1
    · rw [fset_ne e] at hq; exact hs.ok q f hq
  · by_cases e : q = p
    · rw [e, fset_eq] at hq; cases hq; simp
    · rw [fset_ne e] at hq; exact hs.len q f hq
  · by_cases e : q = p
    · rw [e, fset_eq] at hq; cases hq; rfl
    · rw [fset_ne e] at hq; exact hs.dir q f hq
  · by_cases e : q = p
    · rw [e, fset_ne (par_ne h1 h2)]; exact ⟨d, h3⟩
    · rw [fset_ne e] at hq
      obtain ⟨d', hd'⟩ := hs.up q f hq hn
      exact ⟨d', by rw [fset_ne (fun e2 => by rw [e2, h4] at hd'; cases hd')]; exact hd'⟩
theorem Snd.write {s : FS} (hs : Snd s) {p d : List UInt8} (h : s p = some (false, d)) {d' : List UInt8} (hd : d'.length ≤ 192) : Snd (fset p (false, d') s) := by
  obtain ⟨dr, hr⟩ := hs.root
  refine ⟨⟨dr, by rw [fset_ne (fun e => by rw [e, h] at hr; cases hr)]; exact hr⟩, fun q f hq => ?_, fun q f hq => ?_, fun q f hq => ?_, fun q f hq hn => ?_⟩
  · by_cases e : q = p
    · rw [e]; exact hs.ok _ _ h
    · rw [fset_ne e] at hq; exact hs.ok q f hq
  · by_cases e : q = p
    · rw [e, fset_eq] at hq; cases hq; exact hd
    · rw [fset_ne e] at hq; exact hs.len q f hq
  · by_cases e : q = p
    · rw [e, fset_eq] at hq; cases hq
    · rw [fset_ne e] at hq; exact hs.dir q f hq
  · have hup : ∃ d, s (par q) = some (true, d) := by
      by_cases e : q = p
      · subst e; exact hs.up _ _ h hn
      · rw [fset_ne e] at hq; exact hs.up q f hq hn
    obtain ⟨d', hd'⟩ := hup
    exact ⟨d', by rw [fset_ne (fun e2 => by rw [e2, h] at hd'; cases hd')]; exact hd'⟩
theorem Snd.remove {s : FS} (hs : Snd s) {p : List UInt8} (hr : p ≠ [47]) (h : ∀ q f, s q = some f → q ≠ [47] → par q ≠ p) : Snd (fdel p s) := by
  obtain ⟨dr, hroot⟩ := hs.root
  have hd : ∀ q f, fdel p s q = some f → q ≠ p ∧ s q = some f := fun q f hq => by
    unfold fdel at hq
    split at hq
    · cases hq
    · rename_i e; exact ⟨e, hq⟩
  have hk : ∀ q, q ≠ p → fdel p s q = s q := fun q e => by unfold fdel; rw [if_neg e]
  exact ⟨⟨dr, by rw [hk _ (Ne.symm hr)]; exact hroot⟩, fun q f hq => hs.ok q f (hd q f hq).2, fun q f hq => hs.len q f (hd q f hq).2, fun q f hq => hs.dir q f (hd q _ hq).2, fun q f hq hn => by
    obtain ⟨d', hd'⟩ := hs.up q f (hd q f hq).2 hn
    exact ⟨d', by rw [hk _ (h q f (hd q f hq).2 hn)]; exact hd'⟩⟩
theorem wthn_par {p q : List UInt8} (hq : okP q = true) (hr : q ≠ [47]) (h : wthn p (par q) = true) : wthn p q = true := by
  have hp := (wthn_ok h).1
  obtain ⟨_, c, hc⟩ := (wthn_iff hp).1 h
  obtain ⟨h1, h2, _⟩ := nm_par hq hr
  exact (wthn_iff hp).2 ⟨hq, c ++ [bas q], by rw [h2, ← h1, hc, List.append_assoc]⟩
section
variable {s : FS} {F T : List UInt8}
/-- Each path, as it is called behind the renaming. -/
def ren (F T p : List UInt8) : List UInt8 := if wthn F p = true then mvP F T p else p
theorem Ren.back (h : Ren s F T) (hb : ¬ badR s F T) {p : List UInt8} {f : Bool × List UInt8} (hp : s p = some f) : rnF s F T (ren F T p) = some f ∧ (wthn F p = true → wthn T (mvP F T p) = true ∧ mvP T F (mvP F T p) = p) := by
  by_cases hw : wthn F p = true
  · have hl : (mvP F T p).length ≤ 24 := by
      by_cases h24 : (mvP F T p).length ≤ 24
      · exact h24
      · exact absurd ⟨p, f, hp, hw, by omega⟩ hb
    have := mv_in h.okF h.okT h.neF h.neT hw hl
    refine ⟨?_, fun _ => this⟩
    unfold ren rnF
    rw [if_pos hw, if_neg (fun hh => h.apart hh this.1), if_pos this.1, this.2]; exact hp
  · refine ⟨?_, fun hh => absurd hh hw⟩
    unfold ren rnF
    rw [if_neg hw, if_neg hw, if_neg (fun hh => by rw [h.notT hh] at hp; cases hp)]; exact hp
theorem Ren.from (h : Ren s F T) {q : List UInt8} {f : Bool × List UInt8} (hq : rnF s F T q = some f) : wthn F q = false ∧ ((wthn T q = true ∧ s (mvP T F q) = some f ∧ wthn F (mvP T F q) = true ∧ mvP F T (mvP T F q) = q) ∨ (wthn T q = false ∧ s q = some f)) := by
  unfold rnF at hq
  split at hq
  · cases hq
  · rename_i h1
    refine ⟨by simpa using h1, ?_⟩
    split at hq
    · rename_i h2
      have hl := (okP_pth (h.snd.ok _ _ hq)).2.2
      have := mv_in h.okT h.okF h.neT h.neF h2 hl
      exact .inl ⟨h2, hq, this.1, this.2⟩
    · rename_i h2; exact .inr ⟨by simpa using h2, hq⟩
theorem Ren.enum (h : Ren s F T) (hb : ¬ badR s F T) {l : List Ent} (hE : Enum s l) : Enum (rnF s F T) (l.map fun x => (ren F T x.1, x.2)) := by
  have hnd : ((l.map fun x : Ent => (ren F T x.1, x.2)).map (·.1)).Nodup := by
    rw [List.map_map, List.nodup_iff_pairwise_ne, List.pairwise_map]
    have hn := hE.1
    rw [List.nodup_iff_pairwise_ne, List.pairwise_map] at hn
    refine hn.imp_of_mem fun {a b} ha hb' hne e => hne ?_
    replace e : ren F T a.1 = ren F T b.1 := e
    have ha' := (enum_mem hE).1 (show (a.1, a.2) ∈ l from ha)
    have hb'' := (enum_mem hE).1 (show (b.1, b.2) ∈ l from hb')
    have ka := (h.back hb ha').2
    have kb := (h.back hb hb'').2
    unfold ren at e
    by_cases h1 : wthn F a.1 = true
    · by_cases h2 : wthn F b.1 = true
      · rw [if_pos h1, if_pos h2] at e
        rw [← (ka h1).2, e, (kb h2).2]
      · rw [if_pos h1, if_neg h2] at e
        have := h.notT (ka h1).1
        rw [e, hb''] at this; cases this
    · by_cases h2 : wthn F b.1 = true
      · rw [if_neg h1, if_pos h2] at e
        have := h.notT (kb h2).1
        rw [← e, ha'] at this; cases this
      · rwa [if_neg h1, if_neg h2] at e
  refine ⟨hnd, fun q => ?_⟩
  cases hq : rnF s F T q with
  | some f =>
    symm
    refine aget_of_mem hnd ?_
    obtain ⟨h1, ⟨h2, h3, h4, h5⟩ | ⟨h2, h3⟩⟩ := h.from hq
    · exact List.mem_map.2 ⟨_, (enum_mem hE).2 h3, by simp only [ren, if_pos h4, h5]⟩
    · exact List.mem_map.2 ⟨_, (enum_mem hE).2 h3, by simp [ren, h1]⟩
  | none =>
    symm
    refine aget_none fun hm => ?_
    rw [List.map_map] at hm
    obtain ⟨x, hx, hj⟩ := List.mem_map.1 hm
    replace hj : ren F T x.1 = q := hj
    have := (h.back hb ((enum_mem hE).1 (show (x.1, x.2) ∈ l from hx))).1
    rw [hj, hq] at this; cases this
theorem Ren.sound (h : Ren s F T) (hb : ¬ badR s F T) : Snd (rnF s F T) := by
  have hs := h.snd
  have hroot : ∀ {p : List UInt8}, okP p = true → p ≠ [47] → wthn p [47] = false := fun {p} hk hn => by
    cases hw : wthn p [47] with
    | false => rfl
    | true =>
      obtain ⟨_, c, hc⟩ := (wthn_iff hk).1 hw
      rw [nmP_root] at hc
      have := congrArg List.length hc
      have h0 := List.length_pos_iff.2 (nmP_ne hk hn)
      rw [List.length_nil, List.length_append] at this
      omega
  refine ⟨?_, fun q f hq => ?_, fun q f hq => ?_, fun q d hq => ?_, fun q f hq hn => ?_⟩
  · obtain ⟨d, hd⟩ := hs.root
    refine ⟨d, ?_⟩
    unfold rnF
    rw [if_neg (by rw [hroot h.okF h.neF]; decide), if_neg (by rw [hroot h.okT h.neT]; decide)]
    exact hd
  · obtain ⟨h1, ⟨h2, _⟩ | ⟨h2, h3⟩⟩ := h.from hq
    · exact (wthn_ok h2).2
    · exact hs.ok _ _ h3
  · obtain ⟨h1, ⟨h2, h3, _⟩ | ⟨h2, h3⟩⟩ := h.from hq
    · exact hs.len _ _ h3
    · exact hs.len _ _ h3
  · obtain ⟨h1, ⟨h2, h3, _⟩ | ⟨h2, h3⟩⟩ := h.from hq
    · exact hs.dir _ _ h3
    · exact hs.dir _ _ h3
  · obtain ⟨h1, ⟨h2, h3, h4, h5⟩ | ⟨h2, h3⟩⟩ := h.from hq
    · have hk := (wthn_ok h2).2
      obtain ⟨_, c, hc⟩ := (wthn_iff h.okT).1 h2
      obtain ⟨n1, n2, n3⟩ := nm_par hk hn
      by_cases hcn : c = []
      · have e : q = T := by rw [(okP_pth hk).2.1, (okP_pth h.okT).2.1, hc, hcn, List.append_nil]
        subst e
        obtain ⟨d, hd⟩ := h.up
        refine ⟨d, ?_⟩
        unfold rnF
        rw [if_neg (fun hw => by rw [wthn_par hk hn hw] at h1; cases h1), if_neg (fun hw => by rw [h.notT hw] at hd; cases hd)]
        exact hd
      · have hcl : c = c.dropLast ++ [bas q] := by
          have e2 : nmP q = nmP T ++ c.dropLast ++ [c.getLast hcn] := by
            rw [hc]
            conv => lhs; rw [← List.dropLast_concat_getLast hcn]
            rw [List.append_assoc]
          have e3 : bas q = c.getLast hcn := by
            unfold bas
            rw [e2]; simp
          rw [e3, List.dropLast_concat_getLast]
        have hpT : wthn T (par q) = true := (wthn_iff h.okT).2 ⟨n3, c.dropLast, by rw [n1, hc, List.dropLast_append_of_ne_nil hcn]⟩
        have hF := (wthn_ok h4).2
        have nF : nmP (mvP T F q) = nmP F ++ c := by
          obtain ⟨m1, _⟩ := mv_eq h.okT h.okF h.neT h.neF hk hc
          rw [m1] at hF ⊢
          refine pth_nm (fun x hx => ?_) (okP_pth hF).2.2
          rcases List.mem_append.1 hx with hx | hx
          · exact (okP_pth h.okF).1 x hx
          · exact (okP_pth hk).1 x (by rw [hc]; exact List.mem_append_right _ hx)
        have hFn : mvP T F q ≠ [47] := fun e => by
          rw [e, nmP_root] at nF
          exact hcn (List.append_eq_nil_iff.1 nF.symm).2
        obtain ⟨d, hd⟩ := hs.up _ _ h3 hFn
        refine ⟨d, ?_⟩
        have e4 : mvP T F (par q) = par (mvP T F q) := by
          have g1 := nm_par hF hFn
          obtain ⟨m1, _⟩ := mv_eq h.okT h.okF h.neT h.neF n3 (show nmP (par q) = nmP T ++ c.dropLast by rw [n1, hc, List.dropLast_append_of_ne_nil hcn])
          rw [m1]
          unfold par
          rw [if_neg (by rw [nF]; intro e; exact hcn (List.append_eq_nil_iff.1 e).2), nF, List.dropLast_append_of_ne_nil hcn]
        unfold rnF
        rw [if_neg (fun hw => h.apart hw hpT), if_pos hpT, e4]
        exact hd
    · obtain ⟨d, hd⟩ := hs.up _ _ h3 hn
      refine ⟨d, ?_⟩
      have hk := hs.ok _ _ h3
      unfold rnF
      rw [if_neg (fun hw => by rw [wthn_par hk hn hw] at h1; cases h1), if_neg (fun hw => by rw [h.notT hw] at hd; cases hd)]
      exact hd
end
/-! ### An operation -/
open Classical in
noncomputable def doP (s : FS) (o : Opr) : Ans × FS :=
  if o.1 = 1 ∨ o.1 = 2 then ((rm s o.2.1, 0, [], []), if rm s o.2.1 = 0 then fset o.2.1 (decide (o.1 = 2), []) s else s)
  else if o.1 = 3 ∨ o.1 = 4 then wr s o
  else if o.1 = 5 then (rdA s o, s)
  else if o.1 = 6 then (((rn s o.2.1 o.2.2.1).1, 0, [], []), (rn s o.2.1 o.2.2.1).2)
  else if o.1 = 7 then (((rv s o.2.1).1, 0, [], []), (rv s o.2.1).2)
  else if o.1 = 8 then (ls s o, s)
  else if o.1 = 9 then (stt s o.2.1, s)
  else ((1, 0, [], []), s)
/-- What an operation has: its texts are no longer than what is looked at. -/
structure OpOk (o : Opr) : Prop where
  p : o.2.1.length ≤ 80000
  t : o.2.2.1.length ≤ 80000
  d : o.2.2.2.2.2.length ≤ 80000
theorem do_eq {s : FS} (hs : Snd s) {n : Nat} (hc : Crd s n) (hn : n ≤ 1000000) (o : Opr) (ho : OpOk o) : sDo s o = some (doP s o) := by
  obtain ⟨hp, ht, hd⟩ := ho
  obtain ⟨k, p, t, off, m, d⟩ := o
  simp only at hp ht hd
  unfold sDo doP
  simp only
  have hlen := fun q f hq => hs.len q f hq
  by_cases h12 : k = 1 ∨ k = 2
  · rw [if_pos h12]
    have h1 : (if k = 1 then (some (decide (k = 1))) else some (decide (k = 2))) = some true := by
      rcases h12 with h | h <;> subst h <;> rfl
    rw [h1]
    simp only [Option.bind_some, if_true]
    rw [room_eq s p (by omega)]
    simp only [Option.bind_some]
    by_cases h0 : rm s p = 0
    · rw [if_pos h0, if_pos h0]; rfl
    · rw [if_neg h0, if_neg h0]; rfl
  · rw [if_neg h12]
    have h1 : (if k = 1 then (some (decide (k = 1))) else some (decide (k = 2))) = some false := by
      rw [if_neg (fun h => h12 (.inl h)), decide_eq_false (fun h => h12 (.inr h))]
    rw [h1]
    simp only [Option.bind_some, Bool.false_eq_true, if_false]
    by_cases h34 : k = 3 ∨ k = 4
    · rw [if_pos h34]
      have h1 : (if k = 3 then (some (decide (k = 3))) else some (decide (k = 4))) = some true := by
        rcases h34 with h | h <;> subst h <;> rfl
      rw [h1]
      simp only [Option.bind_some, if_true]
      rw [write_eq s (k, p, t, off, m, d) h34 (by simp only; omega) (by simp only; omega) hlen]
      rfl
    · rw [if_neg h34]
      have h1 : (if k = 3 then (some (decide (k = 3))) else some (decide (k = 4))) = some false := by
        rw [if_neg (fun h => h34 (.inl h)), decide_eq_false (fun h => h34 (.inr h))]
      rw [h1]
      simp only [Option.bind_some, Bool.false_eq_true, if_false]
      by_cases h5 : k = 5
      · rw [if_pos h5, if_pos h5, readA_eq s _ (by simp only; omega) hlen]; rfl
      · rw [if_neg h5, if_neg h5]
        by_cases h6 : k = 6
        · rw [if_pos h6, if_pos h6, rename_eq hs hc _ (by simp only; omega) (by simp only; omega)]; rfl
        · rw [if_neg h6, if_neg h6]
          by_cases h7 : k = 7
          · rw [if_pos h7, if_pos h7, remove_eq hs hc hn p (by omega)]; rfl
          · rw [if_neg h7, if_neg h7]
            by_cases h8 : k = 8
            · rw [if_pos h8, if_pos h8, list_eq hs hc hn _ (by simp only; omega)]; rfl
            · rw [if_neg h8, if_neg h8]
              by_cases h9 : k = 9
              · rw [if_pos h9, if_pos h9, stat_eq hs hc hn _ (by omega)]; rfl
              · rw [if_neg h9, if_neg h9]; rfl
/-- The files behind an operation. -/
noncomputable def nx (s : FS) (o : Opr) : FS := if (doP s o).1.1 = 0 then (doP s o).2 else s
theorem putAt_len' (xs : List UInt8) (d : Nat) (src : List UInt8) (h : d + src.length ≤ xs.length) : (putAt xs d src).length = xs.length := by
  simp [putAt]; omega
theorem nx_ok {s : FS} (hs : Snd s) {n : Nat} (hc : Crd s n) (hn : n ≤ 1000000) (o : Opr) : Snd (nx s o) ∧ Crd (nx s o) (n + 1) := by
  have h0 : Snd s ∧ Crd s (n + 1) := ⟨hs, hc.mono (by omega)⟩
  unfold nx
  by_cases hz : (doP s o).1.1 = 0
  · rw [if_pos hz]
    unfold doP at hz ⊢
    by_cases h12 : o.1 = 1 ∨ o.1 = 2
    · rw [if_pos h12] at hz ⊢
      simp only at hz ⊢
      rw [if_pos hz]
      exact ⟨hs.create hz _, hc.set _ _⟩
    · rw [if_neg h12] at hz ⊢
      by_cases h34 : o.1 = 3 ∨ o.1 = 4
      · rw [if_pos h34] at hz ⊢
        unfold wr at hz ⊢
        by_cases h1 : (rg s o.2.1).2 = 0
        · rw [if_pos h1] at hz ⊢
          obtain ⟨fd, h2, h3⟩ := rg_ok h1
          have hfl : fd.length ≤ 192 := hs.len _ _ h2
          rw [h3] at hz ⊢
          generalize hm : (if o.1 = 3 then o.2.2.2.1 else o.2.2.2.2.1) = m at hz ⊢
          by_cases g1 : m < 0
          · rw [if_pos g1] at hz; cases hz
          · rw [if_neg g1] at hz ⊢
            by_cases g2 : 192 < m ∨ (o.1 = 3 ∧ 192 < o.2.2.2.1 + (o.2.2.2.2.2.length : Int))
            · rw [if_pos g2] at hz; cases hz
            · rw [if_neg g2]
              by_cases h4 : o.1 = 4
              · rw [if_pos h4]
                rw [if_neg (by omega)] at hm
                refine ⟨hs.write h2 ?_, (hc.upd (by rw [h2]; rfl) _).mono (by omega)⟩
                rw [szd_len]
                have : ¬ 192 < m := fun h => g2 (.inl h)
                omega
              · rw [if_neg h4]
                have h5 : o.1 = 3 := by omega
                rw [if_pos h5] at hm
                simp only
                split
                · refine ⟨hs.write h2 ?_, (hc.upd (by rw [h2]; rfl) _).mono (by omega)⟩
                  have : ¬ (192 < o.2.2.2.1 + (o.2.2.2.2.2.length : Int)) := fun h => g2 (.inr ⟨h5, h⟩)
                  rw [putAt_len' _ _ _ (by rw [szd_len]; omega), szd_len]
                  omega
                · exact h0
        · rw [if_neg h1] at hz; exact absurd hz h1
      · rw [if_neg h34] at hz ⊢
        by_cases h5 : o.1 = 5
        · rw [if_pos h5]; exact h0
        · rw [if_neg h5] at hz ⊢
          by_cases h6 : o.1 = 6
          · rw [if_pos h6] at hz ⊢
            simp only at hz ⊢
            unfold rn at hz ⊢
            by_cases a1 : okP o.2.1 = true
            · rw [if_pos a1] at hz ⊢
              by_cases a2 : okP o.2.2.1 = true
              · rw [if_pos a2] at hz ⊢
                by_cases a3 : (lk s o.2.1).2 = 0
                · rw [if_pos a3] at hz ⊢
                  by_cases a4 : o.2.1 = [47]
                  · rw [if_pos a4]; exact h0
                  · rw [if_neg a4] at hz ⊢
                    by_cases a5 : wthn o.2.1 o.2.2.1 = true
                    · rw [if_pos a5]; exact h0
                    · rw [if_neg a5] at hz ⊢
                      by_cases a6 : rm s o.2.2.1 = 0
                      · rw [if_pos a6] at hz ⊢
                        by_cases a7 : badR s o.2.1 o.2.2.1
                        · rw [if_pos a7]; exact h0
                        · rw [if_neg a7]
                          have hR := ren_of hs a1 a3 a4 (by simpa using a5) a6
                          obtain ⟨l, hE, hl⟩ := hc
                          exact ⟨hR.sound a7, _, hR.enum a7 hE, by simp; omega⟩
                      · rw [if_neg a6]; exact h0
                · rw [if_neg a3]; exact h0
              · rw [if_neg a2]; exact h0
            · rw [if_neg a1]; exact h0
          · rw [if_neg h6] at hz ⊢
            by_cases h7 : o.1 = 7
            · rw [if_pos h7] at hz ⊢
              simp only at hz ⊢
              unfold rv at hz ⊢
              by_cases b1 : (lk s o.2.1).2 = 0
              · rw [if_pos b1] at hz ⊢
                by_cases b2 : o.2.1 = [47]
                · rw [if_pos b2]; exact h0
                · rw [if_neg b2] at hz ⊢
                  by_cases b3 : 0 < (bl s o.2.1).length
                  · rw [if_pos b3]; exact h0
                  · rw [if_neg b3]
                    have hB := hs.below hc hn o.2.1
                    refine ⟨hs.remove b2 fun q f hq hr hp => b3 ?_, (hc.del _).mono (by omega)⟩
                    exact List.length_pos_of_mem ((hB.mem (bas q)).2 ⟨q, f, hq, hr, hp, rfl⟩)
              · rw [if_neg b1]; exact h0
            · rw [if_neg h7] at hz ⊢
              by_cases h8 : o.1 = 8
              · rw [if_pos h8]; exact h0
              · rw [if_neg h8] at hz ⊢
                by_cases h9 : o.1 = 9
                · rw [if_pos h9]; exact h0
                · rw [if_neg h9]; exact h0
  · rw [if_neg hz]; exact h0
theorem fDo_eq {s : FS} (hs : Snd s) {n : Nat} (hc : Crd s n) (hn : n ≤ 200000) (o : Opr) (ho : OpOk o) : fDo (prsF s) o = some (prsF (nx s o), (doP s o).1) := by
  obtain ⟨h1, h2, h3, h4⟩ := hs.prs hc (by omega)
  unfold fDo
  rw [fRead_eq _ (by omega) (fun x hx => by have := h4 x hx; omega), h2]
  simp only [Option.bind_some, mClone]
  rw [do_eq hs hc (by omega) o ho]
  simp only [Option.bind_some]
  obtain ⟨k1, k2⟩ := nx_ok hs hc (by omega) o
  obtain ⟨h5, _⟩ := k1.prs k2 (by omega)
  unfold nx at h5 ⊢
  by_cases hz : (doP s o).1.1 = 0
  · rw [if_pos hz] at h5 ⊢
    rw [if_pos hz, h5]; rfl
  · rw [if_neg hz] at h5 ⊢
    rw [if_neg hz, h5]; rfl
end Go.Proofs.YtnagibpmfabkjaaGreatDoor
