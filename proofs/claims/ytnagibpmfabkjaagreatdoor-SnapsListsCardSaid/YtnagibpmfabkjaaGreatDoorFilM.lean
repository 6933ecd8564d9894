/- Plain: what is renamed. -/
import Derived.Test.YtnagibpmfabkjaaGreatDoorFilD
set_option linter.unusedSimpArgs false
set_option linter.unusedVariables false
namespace Go.Proofs.YtnagibpmfabkjaaGreatDoor
open Go.RowKit Go.Tri
/-- What comes behind a path. -/
def rst (c : List (List UInt8)) : List UInt8 := if c = [] then [] else pth c
theorem pth_app {a : List (List UInt8)} (ha : a ≠ []) (c : List (List UInt8)) : pth (a ++ c) = pth a ++ rst c := by
  unfold rst
  by_cases hc : c = []
  · rw [if_pos hc, hc]; simp
  · rw [if_neg hc]
    unfold pth
    rw [jn_app a c ha hc]; rfl
theorem pth_drop {a : List (List UInt8)} (ha : a ≠ []) (c : List (List UInt8)) : (pth (a ++ c)).drop (pth a).length = rst c := by
  rw [pth_app ha c, List.drop_left]
theorem wthn_iff {p q : List UInt8} (hp : okP p = true) : wthn p q = true ↔ okP q = true ∧ ∃ c, nmP q = nmP p ++ c := by
  unfold wthn
  rw [hp]
  simp only [Bool.true_and, Bool.and_eq_true, decide_eq_true_eq]
  constructor
  · rintro ⟨h1, c, h2⟩; exact ⟨h1, c, h2.symm⟩
  · rintro ⟨h1, c, h2⟩; exact ⟨h1, c, h2.symm⟩
theorem wthn_ok {p q : List UInt8} (h : wthn p q = true) : okP p = true ∧ okP q = true := by
  unfold wthn at h
  simp only [Bool.and_eq_true] at h
  exact h.1
def mvP (F T p : List UInt8) : List UInt8 := T ++ p.drop F.length
/-- F may be renamed to T. -/
structure Ren (s : FS) (F T : List UInt8) : Prop where
  snd : Snd s
  okF : okP F = true
  okT : okP T = true
  neF : F ≠ [47]
  neT : T ≠ [47]
  out : wthn F T = false
  up : ∃ d, s (par T) = some (true, d)
  noT : s T = none
  isF : ∃ f, s F = some f
section
variable {s : FS} {F T : List UInt8}
/-- Nothing is below what isn't there. -/
theorem none_below (hs : Snd s) (hT : okP T = true) (h0 : s T = none) {q : List UInt8} (hq : wthn T q = true) : s q = none := by
  cases hf : s q with
  | none => rfl
  | some f =>
    obtain ⟨hk, c, hc⟩ := (wthn_iff hT).1 hq
    by_cases hcn : c = []
    · have e : q = T := by rw [(okP_pth hk).2.1, (okP_pth hT).2.1, hc, hcn, List.append_nil]
      rw [e, h0] at hf; cases hf
    · obtain ⟨d, hd⟩ := take_pre hs hf (nmP T).length (by rw [hc, List.length_append]; have := List.length_pos_iff.2 hcn; omega)
      rw [hc, List.take_left, ← (okP_pth hT).2.1, h0] at hd
      cases hd
theorem Ren.notT (h : Ren s F T) {q : List UInt8} (hq : wthn T q = true) : s q = none := none_below h.snd h.okT h.noT hq
/-- F and T are apart. -/
theorem Ren.apart (h : Ren s F T) {q : List UInt8} (h1 : wthn F q = true) (h2 : wthn T q = true) : False := by
  obtain ⟨hk, c, hc⟩ := (wthn_iff h.okF).1 h1
  obtain ⟨_, c', hc'⟩ := (wthn_iff h.okT).1 h2
  rcases Nat.le_total (nmP F).length (nmP T).length with hl | hl
  · have : nmP F <+: nmP T := List.prefix_of_prefix_length_le ⟨c, hc.symm⟩ ⟨c', hc'.symm⟩ hl
    obtain ⟨d, hd⟩ := this
    have := (wthn_iff h.okF).2 ⟨h.okT, d, hd.symm⟩
    rw [h.out] at this; cases this
  · have : nmP T <+: nmP F := List.prefix_of_prefix_length_le ⟨c', hc'.symm⟩ ⟨c, hc.symm⟩ hl
    obtain ⟨d, hd⟩ := this
    have := (wthn_iff h.okT).2 ⟨h.okF, d, hd.symm⟩
    have := h.notT this
    obtain ⟨f, hf⟩ := h.isF
    rw [hf] at this; cases this
theorem mv_eq {c : List (List UInt8)} {p : List UInt8} (hF : okP F = true) (hT : okP T = true) (hF0 : F ≠ [47]) (hT0 : T ≠ [47]) (hp : okP p = true) (hc : nmP p = nmP F ++ c) : mvP F T p = pth (nmP T ++ c) ∧ p = pth (nmP F ++ c) := by
  have e := (okP_pth hp).2.1
  rw [hc] at e
  refine ⟨?_, e⟩
  unfold mvP
  have hf := (okP_pth hF).2.1
  have ht := (okP_pth hT).2.1
  have hd : p.drop F.length = rst c := by
    rw [e]
    have := pth_drop (nmP_ne hF hF0) c
    rwa [← hf] at this
  rw [hd, pth_app (nmP_ne hT hT0), ← ht]
/-- A path in F, as it is called behind the renaming. -/
theorem mv_in (hF : okP F = true) (hT : okP T = true) (hF0 : F ≠ [47]) (hT0 : T ≠ [47]) {p : List UInt8} (hp : wthn F p = true) (hl : (mvP F T p).length ≤ 24) : wthn T (mvP F T p) = true ∧ mvP T F (mvP F T p) = p := by
  obtain ⟨hk, c, hc⟩ := (wthn_iff hF).1 hp
  obtain ⟨h1, h2⟩ := mv_eq hF hT hF0 hT0 hk hc
  have hnp : NP (nmP T ++ c) := fun x hx => by
    rcases List.mem_append.1 hx with hx | hx
    · exact (okP_pth hT).1 x hx
    · exact (okP_pth hk).1 x (by rw [hc]; exact List.mem_append_right _ hx)
  rw [h1] at hl ⊢
  have hn := pth_nm hnp hl
  have hk2 := pth_ok hnp hl
  refine ⟨(wthn_iff hT).2 ⟨hk2, c, hn⟩, ?_⟩
  rw [(mv_eq hT hF hT0 hF0 hk2 hn).1, ← h2]
open Classical in
/-- The files behind the renaming. -/
noncomputable def rnF (s : FS) (F T : List UInt8) : FS := fun q => if wthn F q = true then none else if wthn T q = true then s (mvP T F q) else s q
def badR (s : FS) (F T : List UInt8) : Prop := ∃ p f, s p = some f ∧ wthn F p = true ∧ 24 < (mvP F T p).length
theorem foldO_until {β σ ρ : Type} {f : σ → β → Option (σ ⊕ ρ)} (bad : β → Bool) (r : ρ) (g : σ → β → σ) : ∀ (l : List β) (s : σ), (∀ x ∈ l, ∀ s, f s x = some (if bad x = true then .inr r else .inl (g s x))) → foldO f s l = some (if l.any bad = true then .inr r else .inl (l.foldl g s))
  | [], _, _ => rfl
  | x :: l, s, h => by
    show (f s x).bind _ = _
    rw [h x List.mem_cons_self]
    by_cases hb : bad x = true
    · rw [if_pos hb]; simp [hb]
    · rw [if_neg hb]
      simp only [Option.bind_some]
      rw [foldO_until bad r g l _ fun y hy => h y (List.mem_cons_of_mem _ hy)]
      simp [hb]
theorem mv_fold (h : Ren s F T) : ∀ (l : List (List UInt8 × List UInt8)) (u : FS), (l.map (·.1)).Nodup → (∀ x ∈ l, wthn F x.1 = true ∧ wthn T x.2 = true ∧ mvP T F x.2 = x.1) →
    ∀ q, (l.foldl (fun (u : FS) x => fdel x.1 (fset x.2 ((u x.1).getD (false, [])) u)) u) q = if q ∈ l.map (·.1) then none else if (mvP T F q, q) ∈ l then some ((u (mvP T F q)).getD (false, [])) else u q
  | [], u, _, _, q => by simp
  | (p, t) :: l, u, hn, hx, q => by
    simp only [List.map_cons, List.nodup_cons] at hn
    have hx' := fun x hx' => hx x (List.mem_cons_of_mem _ hx')
    obtain ⟨g1, g2, g3⟩ := hx (p, t) List.mem_cons_self
    simp only at g1 g2 g3
    rw [List.foldl_cons, mv_fold h l _ hn.2 hx' q]
    by_cases h1 : q ∈ l.map (·.1)
    · rw [if_pos h1, if_pos (show q ∈ ((p, t) :: l).map (·.1) from List.mem_cons_of_mem _ h1)]
    · rw [if_neg h1]
      by_cases h2 : (mvP T F q, q) ∈ l
      · obtain ⟨k1, k2, k3⟩ := hx' _ h2
        simp only at k1 k2
        have hqp : q ≠ p := fun e => h.apart g1 (by rw [← e]; exact k2)
        rw [if_pos h2, if_neg (show ¬ q ∈ ((p, t) :: l).map (·.1) from fun hm => (List.mem_cons.1 hm).elim hqp h1), if_pos (show (mvP T F q, q) ∈ (p, t) :: l from List.mem_cons_of_mem _ h2)]
        have e1 : mvP T F q ≠ p := fun e => hn.1 (List.mem_map.2 ⟨_, h2, e⟩)
        have e2 : mvP T F q ≠ t := fun e => h.apart k1 (by rw [e]; exact g2)
        simp [fdel, fset, e1, e2]
      · rw [if_neg h2]
        by_cases e : q = p
        · rw [if_pos (show q ∈ ((p, t) :: l).map (·.1) from by rw [e]; exact List.mem_cons_self)]
          simp [fdel, e]
        · rw [if_neg (show ¬ q ∈ ((p, t) :: l).map (·.1) from fun hm => (List.mem_cons.1 hm).elim e h1)]
          by_cases e2 : q = t
          · have e3 : mvP T F q = p := by rw [e2]; exact g3
            rw [if_pos (show (mvP T F q, q) ∈ (p, t) :: l from by rw [e3, e2]; exact List.mem_cons_self), e3]
            simp [fdel, fset, e2, show ¬ t = p from fun e' => e (e2.trans e')]
          · rw [if_neg (fun hm => by
              rcases List.mem_cons.1 hm with hm | hm
              · injection hm with _ hm; exact e2 hm
              · exact h2 hm)]
            simp [fdel, fset, e, e2]
end
open Classical in
noncomputable def rn (s : FS) (F T : List UInt8) : Int × FS :=
  if okP F = true then (if okP T = true then (if (lk s F).2 = 0 then (if F = [47] then (96, s) else if wthn F T = true then (96, s) else if rm s T = 0 then (if badR s F T then (90, s) else (0, rnF s F T)) else (rm s T, s)) else ((lk s F).2, s)) else (90, s)) else (90, s)
theorem ren_of {s : FS} (hs : Snd s) {F T : List UInt8} (h1 : okP F = true) (h2 : (lk s F).2 = 0) (h3 : F ≠ [47]) (h4 : wthn F T = false) (h5 : rm s T = 0) : Ren s F T := by
  obtain ⟨_, f, hf, _⟩ := lk_ok h2
  obtain ⟨a, b, c, d⟩ := rm_ok h5
  exact ⟨hs, h1, a, h3, b, h4, c, d, f, hf⟩
theorem rename_eq {s : FS} (hs : Snd s) {n : Nat} (hc : Crd s n) (o : Opr) (hF : o.2.1.length ≤ 80000) (hT : o.2.2.1.length ≤ 80000) : sRename s o = some (rn s o.2.1 o.2.2.1) := by
  obtain ⟨k, F, T, r⟩ := o
  simp only at hF hT
  unfold sRename rn
  simp only
  rw [check_eq F (by omega), check_eq T (by omega)]
  simp only [Option.bind_some]
  by_cases h1 : okP F = true
  · rw [if_pos h1, if_pos rfl, if_pos h1]
    by_cases h2 : okP T = true
    · rw [if_pos h2, if_pos rfl, if_pos h2, look_eq _ _ (by omega)]
      simp only [Option.bind_some]
      by_cases h3 : (lk s F).2 = 0
      · rw [if_pos h3, if_pos h3]
        by_cases h4 : F = [47]
        · rw [if_pos h4, if_pos h4]
        · rw [if_neg h4, if_neg h4, within_eq _ _ (by omega) (by omega)]
          simp only [Option.bind_some]
          by_cases h5 : wthn F T = true
          · rw [if_pos h5, if_pos h5]
          · rw [if_neg h5, if_neg h5, room_eq _ _ (by omega)]
            simp only [Option.bind_some]
            by_cases h6 : rm s T = 0
            · rw [if_pos h6, if_pos h6]
              have hR := ren_of hs h1 h3 h4 (by simpa using h5) h6
              obtain ⟨l, hE, hl⟩ := hc
              refine detM_of hE fun l' hE' => ?_
              have hkl : ∀ x ∈ l', x.1.length ≤ 24 := fun x hx => (okP_pth (hs.ok _ _ ((enum_mem hE').1 hx))).2.2
              have hF24 := (okP_pth h1).2.2
              have hT24 := (okP_pth h2).2.2
              rw [foldO_until (fun x : Ent => wthn F x.1 && decide (24 < (mvP F T x.1).length)) ((90, s) : Int × FS) (fun (m : CS) x => if wthn F x.1 = true then fset x.1 (mvP F T x.1) m else m) l' fnil fun x hx m => ?_]
              · simp only [Option.bind_some]
                have hb : (l'.any fun x : Ent => wthn F x.1 && decide (24 < (mvP F T x.1).length)) = true ↔ badR s F T := by
                  rw [List.any_eq_true]
                  constructor
                  · rintro ⟨⟨p, f⟩, hx, hb⟩
                    simp only [Bool.and_eq_true, decide_eq_true_eq] at hb
                    exact ⟨p, f, (enum_mem hE').1 hx, hb.1, hb.2⟩
                  · rintro ⟨p, f, hp, a, b⟩
                    exact ⟨(p, f), (enum_mem hE').2 hp, by simp [a, b]⟩
                by_cases hbad : badR s F T
                · rw [if_pos (hb.2 hbad), if_pos hbad]; rfl
                · rw [if_neg (fun h => hbad (hb.1 h)), if_neg hbad]
                  simp only [Sum.elim_inl]
                  have hmov : ∀ p, (l'.foldl (fun (m : CS) x => if wthn F x.1 = true then fset x.1 (mvP F T x.1) m else m) fnil) p = if (s p).isSome = true ∧ wthn F p = true then some (mvP F T p) else none := by
                    intro p
                    have key : ∀ (l' : List Ent) (m : CS), (l'.foldl (fun (m : CS) x => if wthn F x.1 = true then fset x.1 (mvP F T x.1) m else m) m) p = if p ∈ l'.map (·.1) ∧ wthn F p = true then some (mvP F T p) else m p := by
                      intro l'
                      induction l' with
                      | nil => intro m; simp
                      | cons x l' ih =>
                        intro m
                        rw [List.foldl_cons, ih]
                        by_cases hw : wthn F p = true
                        · by_cases hi : p ∈ l'.map (·.1)
                          · rw [if_pos ⟨hi, hw⟩, if_pos (show p ∈ (x :: l').map (·.1) ∧ wthn F p = true from ⟨List.mem_cons_of_mem _ hi, hw⟩)]
                          · rw [if_neg (show ¬ (p ∈ l'.map (·.1) ∧ wthn F p = true) from fun h => hi h.1)]
                            by_cases e : p = x.1
                            · have hw' : wthn F x.1 = true := by rw [← e]; exact hw
                              rw [if_pos hw', if_pos (show p ∈ (x :: l').map (·.1) ∧ wthn F p = true from ⟨by rw [e]; exact List.mem_cons_self, hw⟩), e]
                              simp [fset]
                            · rw [if_neg (show ¬ (p ∈ (x :: l').map (·.1) ∧ wthn F p = true) from fun h => (List.mem_cons.1 h.1).elim e hi)]
                              split
                              · simp [fset, e]
                              · rfl
                        · rw [if_neg (show ¬ (p ∈ l'.map (·.1) ∧ wthn F p = true) from fun h => hw h.2), if_neg (show ¬ (p ∈ (x :: l').map (·.1) ∧ wthn F p = true) from fun h => hw h.2)]
                          split
                          · rename_i hx
                            have e : ¬ p = x.1 := fun e => hw (by rw [e]; exact hx)
                            simp [fset, e]
                          · rfl
                    rw [key]
                    have : p ∈ l'.map (·.1) ↔ (s p).isSome = true := by rw [hE'.2 p]; exact (aget_isSome p l').symm
                    simp only [this, fnil]
                  generalize hM : l'.foldl (fun (m : CS) x => if wthn F x.1 = true then fset x.1 (mvP F T x.1) m else m) fnil = M at hmov
                  have hfin : ∃ kv, Enum M kv ∧ kv.map (·.1) = (l'.map (·.1)).filter (wthn F) := by
                    refine enum_of (m := M) _ M (hE'.1.filter _) fun q => ?_
                    rw [hmov q, List.mem_filter]
                    have : q ∈ l'.map (·.1) ↔ (s q).isSome = true := by rw [hE'.2 q]; exact (aget_isSome q l').symm
                    rw [this]
                    split
                    · rename_i hh; simp [hh]
                    · rename_i hh; simp only [Option.isSome_none, Bool.false_eq_true, iff_false]; exact hh
                  obtain ⟨kv, hkv, _⟩ := hfin
                  rw [detM_of hkv (r := rnF s F T) fun kv' hkv' => ?_]
                  · rfl
                  · rw [foldO_eq (fun (u : FS) (x : List UInt8 × List UInt8) => fdel x.1 (fset x.2 ((u x.1).getD (false, [])) u)) kv' s fun x _ u => rfl]
                    simp only [Option.bind_some, Sum.elim_inl]
                    congr 1
                    funext q
                    have hmem : ∀ x ∈ kv', (s x.1).isSome = true ∧ wthn F x.1 = true ∧ x.2 = mvP F T x.1 := fun x hx => by
                      have h7 := (enum_mem hkv').1 hx
                      rw [hmov] at h7
                      split at h7
                      · rename_i hh; exact ⟨hh.1, hh.2, (Option.some.inj h7).symm⟩
                      · cases h7
                    have hle : ∀ p, (s p).isSome = true → wthn F p = true → (mvP F T p).length ≤ 24 := fun p hp hw => by
                      obtain ⟨f, hf⟩ := Option.isSome_iff_exists.1 hp
                      by_cases h24 : (mvP F T p).length ≤ 24
                      · exact h24
                      · exact absurd ⟨p, f, hf, hw, by omega⟩ hbad
                    rw [mv_fold hR kv' s hkv'.1 (fun x hx => by
                      obtain ⟨a, b, c⟩ := hmem x hx
                      have := mv_in h1 h2 h4 hR.neT b (hle _ a b)
                      exact ⟨b, by rw [c]; exact this.1, by rw [c]; exact this.2⟩) q]
                    have hkeys : q ∈ kv'.map (·.1) ↔ (s q).isSome = true ∧ wthn F q = true := by
                      rw [← aget_isSome q kv', ← hkv'.2 q, hmov q]
                      split
                      · rename_i hh; simp [hh]
                      · rename_i hh; simp only [Option.isSome_none, Bool.false_eq_true, false_iff]; exact hh
                    unfold rnF
                    by_cases hq : wthn F q = true
                    · rw [if_pos hq]
                      by_cases hi : q ∈ kv'.map (·.1)
                      · rw [if_pos hi]
                      · rw [if_neg hi, if_neg (fun hm => by
                          obtain ⟨a, b, c⟩ := hmem _ hm
                          simp only at a b c
                          have := mv_in h1 h2 h4 hR.neT b (hle _ a b)
                          exact hR.apart hq (by rw [c]; exact this.1))]
                        cases hs' : s q with
                        | none => rfl
                        | some f => exact absurd (hkeys.2 ⟨by rw [hs']; rfl, hq⟩) hi
                    · rw [if_neg hq, if_neg (fun hi => hq (hkeys.1 hi).2)]
                      by_cases ht : wthn T q = true
                      · rw [if_pos ht]
                        by_cases hm : (mvP T F q, q) ∈ kv'
                        · rw [if_pos hm]
                          obtain ⟨a, _⟩ := hmem _ hm
                          obtain ⟨f, hf⟩ := Option.isSome_iff_exists.1 a
                          simp only at hf
                          rw [hf]; rfl
                        · rw [if_neg hm, hR.notT ht]
                          cases hs' : s (mvP T F q) with
                          | none => rfl
                          | some f =>
                            have hl2 := (okP_pth (hs.ok _ _ hs')).2.2
                            have := mv_in h2 h1 hR.neT h4 ht hl2
                            refine absurd ((enum_mem hkv').2 ?_) hm
                            rw [hmov, if_pos ⟨by rw [hs']; rfl, this.1⟩, this.2]
                      · rw [if_neg ht, if_neg (fun hm => by
                          obtain ⟨a, b, c⟩ := hmem _ hm
                          simp only at a b c
                          have := mv_in h1 h2 h4 hR.neT b (hle _ a b)
                          exact ht (by rw [c]; exact this.1))]
              · have hx24 := hkl x hx
                rw [within_eq _ _ (by omega) (by omega)]
                simp only [Option.bind_some]
                by_cases hw : wthn F x.1 = true
                · obtain ⟨_, c, hc⟩ := (wthn_iff h1).1 hw
                  have hFl : F.length ≤ x.1.length := by
                    obtain ⟨_, e⟩ := mv_eq h1 h2 h4 hR.neT (wthn_ok hw).2 hc
                    rw [pth_app (nmP_ne h1 h4), ← (okP_pth h1).2.1] at e
                    rw [e, List.length_append]; omega
                  rw [if_pos hw, slcO_of hFl (Nat.le_refl _), List.take_length]
                  simp only [Option.bind_some]
                  rw [appO_byte (by simp; omega)]
                  simp only [Option.bind_some]
                  have e : (fset x.1 (T ++ List.drop F.length x.1) m x.1).getD [] = mvP F T x.1 := by simp [fset, mvP]
                  rw [e, hw]
                  by_cases h24 : 24 < ((mvP F T x.1).length : Int)
                  · rw [if_pos h24, if_pos (by simp; omega)]; rfl
                  · rw [if_neg h24, if_neg (by simp; omega), if_pos rfl]; rfl
                · rw [if_neg hw]
                  have hw' : wthn F x.1 = false := by simpa using hw
                  rw [hw']; rfl
            · rw [if_neg h6, if_neg h6]
      · rw [if_neg h3, if_neg h3]
    · rw [if_neg h2, if_neg (by omega), if_neg h2]
  · rw [if_neg h1, if_neg (by omega), if_neg h1]
end Go.Proofs.YtnagibpmfabkjaaGreatDoor
