/- Plain: right files are read as they were written; which files are right. -/
import Derived.Test.YtnagibpmfabkjaaGreatDoorFilP
set_option linter.unusedSimpArgs false
set_option linter.unusedVariables false
namespace Go.Proofs.YtnagibpmfabkjaaGreatDoor
open Go.RowKit Go.Tri
theorem chunk_flat (n : Nat) (hn : 0 < n) (xs : List UInt8) : (chunkL n xs).flatten = xs := by
  have key : ∀ m : Nat, ((List.range m).map fun k => (xs.drop (k * n)).take n).flatten = xs.take (m * n) := by
    intro m
    induction m with
    | zero => simp
    | succ m ih =>
      rw [List.range_succ, List.map_append, List.flatten_append, ih]
      simp only [List.map_cons, List.map_nil, List.flatten_cons, List.flatten_nil, List.append_nil]
      rw [Nat.succ_mul, List.take_add]
  unfold chunkL chunkZ
  rw [List.map_map]
  refine (key _).trans (List.take_of_length_le ?_)
  have := (not_congr (chunkC_lt (n := n) (len := xs.length) (k := chunkC n xs.length) hn)).1 (Nat.lt_irrefl _)
  omega
theorem jn_nz {xs : List (List UInt8)} (h : ∀ x ∈ xs, ∀ c ∈ x, c ≠ 0) : ∀ c ∈ jn xs, c ≠ 0 := by
  induction xs with
  | nil => intro c hc; simp [jn_nil] at hc
  | cons x r ih =>
    cases r with
    | nil => intro c hc; rw [jn_one] at hc; exact h x List.mem_cons_self c hc
    | cons y r =>
      intro c hc
      rw [jn_cons] at hc
      rcases List.mem_append.1 hc with hc | hc
      · exact h x List.mem_cons_self c hc
      · rcases List.mem_cons.1 hc with rfl | hc
        · decide
        · exact ih (fun z hz => h z (List.mem_cons_of_mem _ hz)) c hc
theorem okP_nz {p : List UInt8} (h : okP p = true) : ∀ c ∈ p, c ≠ 0 := by
  obtain ⟨h1, h2, _⟩ := okP_pth h
  rw [h2]
  intro c hc
  rcases List.mem_cons.1 hc with rfl | hc
  · decide
  · exact jn_nz (fun x hx => isNm_z (h1 x hx)) c hc
theorem tw_app {p r : List UInt8} (h : ∀ c ∈ p, c ≠ 0) : tw (p ++ 0 :: r) = p := by
  unfold tw
  induction p with
  | nil => simp
  | cons c p ih =>
    have h1 := h c List.mem_cons_self
    rw [List.cons_append, List.takeWhile_cons, if_pos (by simpa using h1), ih fun d hd => h d (List.mem_cons_of_mem _ hd)]
def cof (p : List UInt8) (x : P2) : Option (List UInt8) := match x.1 with
  | [] => none
  | a :: r => if a = 99 ∧ tw r = p then some x.2 else none
theorem r1_c (p : List UInt8) : ∀ (L : List P2) (s : CS × FS), ((L.foldl r1 s).1 p).getD [] = (s.1 p).getD [] ++ (L.filterMap (cof p)).flatten
  | [], s => by simp
  | x :: L, s => by
    obtain ⟨k, v⟩ := x
    rw [List.foldl_cons, r1_c p L, List.filterMap_cons]
    cases k with
    | nil => rfl
    | cons a r =>
      simp only [r1, cof]
      by_cases h99 : a = 99
      · subst h99
        simp only [if_true, true_and, fset]
        by_cases e : p = tw r
        · rw [if_pos e, if_pos e.symm, ← e]; simp
        · rw [if_neg e, if_neg (Ne.symm e)]
      · rw [if_neg h99, if_neg (show ¬ (a = 99 ∧ tw r = p) from fun h => h99 h.1)]
        split <;> rfl
theorem r1_t (p : List UInt8) : ∀ (L : List P2) (s : CS × FS), (∀ v, (110 :: p, v) ∉ L) → (L.foldl r1 s).2 p = s.2 p
  | [], s, _ => rfl
  | x :: L, s, h => by
    obtain ⟨k, v⟩ := x
    rw [List.foldl_cons, r1_t p L _ fun u hu => h u (List.mem_cons_of_mem _ hu)]
    cases k with
    | nil => rfl
    | cons a r =>
      simp only [r1]
      by_cases h99 : a = 99
      · rw [if_pos h99]
      · rw [if_neg h99]
        by_cases h110 : a = 110
        · rw [if_pos h110]
          have e : p ≠ r := fun e => h v (by rw [e, h110]; exact List.mem_cons_self)
          simp [fset, e]
        · rw [if_neg h110]
theorem r1_t2 (p v : List UInt8) : ∀ (L : List P2) (s : CS × FS), (L.map (·.1)).Nodup → (110 :: p, v) ∈ L → (L.foldl r1 s).2 p = some (decide (v = [100]), [])
  | [], _, _, h => by cases h
  | x :: L, s, hn, h => by
    simp only [List.map_cons, List.nodup_cons] at hn
    rw [List.foldl_cons]
    rcases List.mem_cons.1 h with rfl | h
    · rw [r1_t p L _ fun u hu => hn.1 (List.mem_map.2 ⟨_, hu, rfl⟩)]
      simp [r1, fset]
    · exact r1_t2 p v L _ hn.2 h
theorem filterMap_filter {α β : Type} (f : α → Option β) (g : α → β) (hg : ∀ x y, f x = some y → y = g x) : ∀ l : List α, l.filterMap f = (l.filter fun x => (f x).isSome).map g
  | [] => rfl
  | x :: l => by
    rw [List.filterMap_cons, List.filter_cons]
    cases h : f x with
    | none => simp [filterMap_filter f g hg l]
    | some y => simp [filterMap_filter f g hg l, hg x y h]
/-- Pairs of right files: told of their entries. -/
structure EntOk (l : List Ent) : Prop where
  nd : (l.map (·.1)).Nodup
  ok : ∀ x ∈ l, okP x.1 = true
  len : ∀ x ∈ l, x.2.2.length ≤ 192
  dir : ∀ x ∈ l, x.2.1 = true → x.2.2 = []
theorem prs2_mem {l : List Ent} {x : P2} : x ∈ prs2 l ↔ ∃ e ∈ l, x ∈ encE e := by
  unfold prs2 sortPairs
  rw [(List.mergeSort_perm _ leP).mem_iff, List.mem_flatMap]
theorem rd_prs {l : List Ent} (h : EntOk l) : ∀ p, rdF (prs2 l) p = aget p l := by
  have hnd := enc_nodup h.nd h.len
  have hst := sortPairs_strict hnd
  have hkn : ((prs2 l).map (·.1)).Nodup := ((List.mergeSort_perm _ leP).map _).nodup_iff.2 hnd
  intro p
  unfold rdF fin2
  by_cases hp : ∃ f, (p, f) ∈ l
  · obtain ⟨⟨b, d⟩, hf⟩ := hp
    rw [aget_of_mem h.nd hf]
    cases b with
    | true =>
      have hm : (110 :: p, [100]) ∈ prs2 l := prs2_mem.2 ⟨_, hf, by simp [encE]⟩
      rw [r1_t2 p _ _ _ hkn hm]
      have := h.dir _ hf rfl
      simp only at this
      rw [this]; rfl
    | false =>
      have hm : (110 :: p, 102 :: len2 d.length) ∈ prs2 l := prs2_mem.2 ⟨_, hf, by simp [encE]⟩
      rw [r1_t2 p _ _ _ hkn hm]
      have hne : ¬ (102 :: len2 d.length = ([100] : List UInt8)) := by simp
      rw [decide_eq_false hne]
      simp only
      rw [r1_c p, filterMap_filter (cof p) (·.2) (fun x y hxy => by
        unfold cof at hxy
        split at hxy
        · cases hxy
        · split at hxy
          · exact (Option.some.inj hxy).symm
          · cases hxy)]
      have hfil : (prs2 l).filter (fun x => (cof p x).isSome) = chk p 0 (chunkL 64 d) := by
        refine pairs_same (List.Pairwise.sublist List.filter_sublist hst) (chk_lt (by have := chunkC_le (h.len _ hf); rw [chunkL_len]; simp only at this; omega)) fun x => ?_
        rw [List.mem_filter, prs2_mem]
        constructor
        · rintro ⟨⟨e, he, hx⟩, hc⟩
          obtain ⟨q, b', d'⟩ := e
          have hq := okP_nz (h.ok _ he)
          unfold encE at hx
          simp only at hx
          cases b' with
          | true => simp at hx; rw [hx] at hc; simp [cof] at hc
          | false =>
            simp only [Bool.false_eq_true, if_false] at hx
            rcases List.mem_cons.1 hx with rfl | hx
            · simp [cof] at hc
            · obtain ⟨j, _, _, h3⟩ := chk_mem hx
              unfold cof at hc
              rw [h3] at hc
              simp only [true_and] at hc
              rw [tw_app hq] at hc
              by_cases e : q = p
              · subst e
                have := aget_of_mem h.nd he
                rw [aget_of_mem h.nd hf] at this
                cases this
                exact hx
              · rw [if_neg e] at hc; cases hc
        · intro hx
          refine ⟨⟨_, hf, by simp [encE, hx]⟩, ?_⟩
          obtain ⟨j, _, _, h3⟩ := chk_mem hx
          unfold cof
          rw [h3]
          simp only [true_and]
          rw [tw_app (okP_nz (h.ok _ hf)), if_pos rfl]; rfl
      rw [hfil, chk_snd, chunk_flat 64 (by omega)]
      rfl
  · have hn : ∀ v, (110 :: p, v) ∉ prs2 l := fun v hv => by
      obtain ⟨e, he, hx⟩ := prs2_mem.1 hv
      rcases enc_key hx with h1 | ⟨c, h1⟩
      · simp only at h1
        injection h1 with _ h1
        exact hp ⟨e.2, by rw [h1]; exact he⟩
      · simp only at h1
        injection h1 with h1; exact absurd h1 (by decide)
    rw [r1_t p _ _ hn]
    symm
    refine aget_none fun hm => ?_
    obtain ⟨⟨a, b⟩, hx, hj⟩ := List.mem_map.1 hm
    simp only at hj
    exact hp ⟨b, by rw [← hj]; exact hx⟩
/-! ### Right files -/
structure Snd (s : FS) : Prop where
  root : ∃ d, s [47] = some (true, d)
  ok : ∀ p f, s p = some f → okP p = true
  len : ∀ p f, s p = some f → f.2.length ≤ 192
  dir : ∀ p d, s p = some (true, d) → d = []
  up : ∀ p f, s p = some f → p ≠ [47] → ∃ d, s (par p) = some (true, d)
theorem Snd.ent {s : FS} (h : Snd s) {l : List Ent} (hE : Enum s l) : EntOk l :=
  ⟨hE.1, fun x hx => h.ok x.1 x.2 ((enum_mem hE).1 hx), fun x hx => h.len x.1 x.2 ((enum_mem hE).1 hx), fun x hx hd => h.dir x.1 x.2.2 (by rw [← hd]; exact (enum_mem hE).1 hx)⟩
/-- The pairs of files. -/
noncomputable def prsF (s : FS) : List P2 := (sPairs s).getD []
theorem Snd.prs {s : FS} (h : Snd s) {n : Nat} (hc : Crd s n) (hn : n ≤ 1000000) : sPairs s = some (prsF s) ∧ rdF (prsF s) = s ∧ (prsF s).length ≤ 4 * n ∧ ∀ x ∈ prsF s, x.1.length ≤ 100 ∧ x.2.length ≤ 100 := by
  obtain ⟨l, hE, hl⟩ := hc
  have hk := h.ent hE
  have h1 : sPairs s = some (prs2 l) := sPairs_eq hE (by omega) fun x hx => ⟨by have := (okP_pth (hk.ok x hx)).2.2; omega, hk.len x hx⟩
  have h2 : prsF s = prs2 l := by unfold prsF; rw [h1]; rfl
  rw [h2]
  refine ⟨h1, ?_, ?_, fun x hx => ?_⟩
  · funext p
    rw [rd_prs hk p]
    exact (hE.2 p).symm
  · unfold prs2 sortPairs
    rw [(List.mergeSort_perm _ leP).length_eq]
    have := flat_len hk.len
    omega
  · obtain ⟨e, he, hx⟩ := prs2_mem.1 hx
    have hp := (okP_pth (hk.ok e he)).2.2
    refine ⟨?_, ?_⟩
    · rcases enc_key hx with h1 | ⟨c, h1⟩
      · rw [h1]; simp; omega
      · rw [h1]; simp; omega
    · have hmem : ∀ i (cs : List (List UInt8)), x ∈ chk e.1 i cs → x.2 ∈ cs := by
        intro i cs hh
        have := chk_snd e.1 i cs
        rw [← this]; exact List.mem_map.2 ⟨x, hh, rfl⟩
      unfold encE at hx
      split at hx
      · simp at hx; rw [hx]; simp
      · rcases List.mem_cons.1 hx with rfl | hx
        · simp [len2]
        · have := chunk_mem_len (hmem 0 _ hx); omega
theorem foldO_all {β : Type} {f : Unit → β → Option (Unit ⊕ Bool)} (good : β → Bool) : ∀ (l : List β), (∀ x ∈ l, f () x = some (if good x = true then .inl () else .inr false)) → foldO f () l = some (if l.all good = true then .inl () else .inr false)
  | [], _ => rfl
  | x :: l, h => by
    show (f () x).bind _ = _
    rw [h x List.mem_cons_self]
    by_cases hg : good x = true
    · rw [if_pos hg]
      simp only [Option.bind_some]
      rw [foldO_all good l fun y hy => h y (List.mem_cons_of_mem _ hy)]
      simp [hg]
    · rw [if_neg hg]
      simp [show good x = false by simpa using hg]
def gd (s : FS) (x : Ent) : Bool := okP x.1 && decide (x.2.2.length ≤ 192) && (decide (x.1 = [47]) || ((s (par x.1)).getD (false, [])).1)
theorem sound_eq {s : FS} {l : List Ent} (hE : Enum s l) (hb : ∀ x ∈ l, x.1.length ≤ 90000 ∧ x.2.2.length ≤ 1000000000000000) : sSound s = some (l.all (gd s) && ((s [47]).getD (false, [])).1) := by
  unfold sSound
  refine detM_of hE fun l' hE' => ?_
  have hp : l'.Perm l := hE'.perm hE
  rw [foldO_all (gd s) l' fun x hx => ?_]
  · have : l'.all (gd s) = l.all (gd s) := by
      rw [Bool.eq_iff_iff, List.all_eq_true, List.all_eq_true]
      exact ⟨fun h x hx => h x (hp.mem_iff.2 hx), fun h x hx => h x (hp.mem_iff.1 hx)⟩
    rw [this]
    cases l.all (gd s) <;> rfl
  · obtain ⟨h1, h2⟩ := hb x (hp.mem_iff.1 hx)
    unfold gd
    rw [check_eq _ (by omega)]
    simp only [Option.bind_some]
    cases okP x.1 with
    | false => rfl
    | true =>
      rw [if_pos rfl, if_pos rfl]
      by_cases h3 : 192 < (x.2.2.length : Int)
      · rw [if_pos h3, decide_eq_false (show ¬ x.2.2.length ≤ 192 by omega)]; rfl
      · rw [if_neg h3, decide_eq_true (show x.2.2.length ≤ 192 by omega)]
        by_cases h4 : x.1 = [47]
        · rw [if_pos h4, decide_eq_true h4]; rfl
        · rw [if_neg h4, decide_eq_false h4, parent_eq _ h1]
          simp only [Option.bind_some]
          cases ((s (par x.1)).getD (false, [])).1 <;> rfl
theorem rdF_dir (L : List P2) : ∀ p d, rdF L p = some (true, d) → d = [] := by
  have key : ∀ (L : List P2) (s : CS × FS), (∀ p f, s.2 p = some f → f.2 = []) → ∀ p f, (L.foldl r1 s).2 p = some f → f.2 = [] := by
    intro L
    induction L with
    | nil => intro s h; exact h
    | cons x L ih =>
      intro s h
      refine ih (r1 s x) fun p f hp => ?_
      obtain ⟨k, v⟩ := x
      cases k with
      | nil => exact h p f hp
      | cons a r =>
        simp only [r1] at hp
        split at hp
        · exact h p f hp
        · split at hp
          · simp only [fset] at hp
            split at hp
            · cases hp; rfl
            · exact h p f hp
          · exact h p f hp
  intro p d h
  unfold rdF fin2 at h
  split at h
  · cases h
  · exact key L (fnil, fnil) (fun p f h => by cases h) p _ h
theorem eqPairs_eq (x y : List P2) (hx : x.length ≤ 100000000) : eqPairs x y = some (decide (x = y)) := by
  have hs : ∀ a b : P2, m_files_same a b = some (decide (a = b)) := fun a b => by
    obtain ⟨a1, a2⟩ := a
    obtain ⟨b1, b2⟩ := b
    unfold m_files_same bEqual
    simp only [Option.bind_some]
    by_cases h1 : a1 = b1
    · rw [if_pos (decide_eq_true h1)]
      by_cases h2 : a2 = b2
      · rw [decide_eq_true h2, decide_eq_true (by rw [h1, h2])]
      · rw [decide_eq_false h2, decide_eq_false (by simp [h2])]
    · rw [if_neg (by simp [h1]), decide_eq_false (by simp [h1])]
  unfold eqPairs
  by_cases hl : (x.length : Int) = (y.length : Int)
  · rw [if_pos hl]
    refine bind_run (fun k (s : Int) => s = (k : Int) ∧ ∀ j, j < k → x.getD j ([], []) = y.getD j ([], [])) (fun r => (r = .inl () ∧ x = y) ∨ (r = .inr false ∧ x ≠ y)) x.length ⟨rfl, fun j hj => by omega⟩ ?_ ?_ ?_
    · rintro k _ hk ⟨rfl, hne⟩
      rw [if_pos (by omega), idxO_getD ([], []) rfl hk, idxO_getD ([], []) rfl (show k < y.length by omega)]
      simp only [Option.bind_some, hs]
      by_cases e : x.getD k ([], []) = y.getD k ([], [])
      · rw [if_neg (by rw [decide_eq_true e]; decide), i64_id (by omega) (by omega)]
        exact .inl ⟨_, rfl, rfl, fun j hj => by
          by_cases ej : j = k
          · subst ej; exact e
          · exact hne j (by omega)⟩
      · rw [if_pos (by rw [decide_eq_false e]; rfl)]
        exact .inr ⟨_, rfl, .inr ⟨rfl, fun h => e (by rw [h])⟩⟩
    · rintro _ ⟨rfl, hne⟩
      refine ⟨.inl (), ?_, .inl ⟨rfl, List.ext_getElem (by omega) fun j h1 h2 => ?_⟩⟩
      · rw [if_neg (by omega)]
      · have := hne j h1
        simpa [List.getD_eq_getElem?_getD, List.getElem?_eq_getElem h1, List.getElem?_eq_getElem h2] using this
    · rintro _ (⟨rfl, h1⟩ | ⟨rfl, h1⟩)
      · simp [h1]
      · simp [h1]
  · rw [if_neg hl, decide_eq_false fun h => hl (by rw [h])]
/-- What is told of any pairs: whether they are right; and if so, of which right files they are the pairs. -/
theorem fCheck_eq (L : List P2) (hn : L.length ≤ 1000) (hb : ∀ x ∈ L, x.1.length ≤ 10000 ∧ x.2.length ≤ 10000) : (fCheck L = some 0 ∧ Snd (rdF L) ∧ prsF (rdF L) = L) ∨ (fCheck L = some 22 ∧ ¬ (Snd (rdF L) ∧ prsF (rdF L) = L)) := by
  unfold fCheck
  rw [fRead_eq L (by omega) fun x hx => by have := hb x hx; omega]
  simp only [Option.bind_some]
  obtain ⟨l, hE, hl⟩ := rdF_crd L
  have hkey : ∀ p f, rdF L p = some f → p.length ≤ 10000 ∧ f.2.length ≤ 100000000 := by
    have key : ∀ (L : List P2) (s : CS × FS) (n : Nat), (∀ x ∈ L, x.1.length ≤ 10000 ∧ x.2.length ≤ 10000) → (∀ p f, s.2 p = some f → p.length ≤ 10000) → (∀ p, ((s.1 p).getD []).length ≤ n) → (∀ p f, (L.foldl r1 s).2 p = some f → p.length ≤ 10000) ∧ ∀ p, (((L.foldl r1 s).1 p).getD []).length ≤ n + L.length * 10000 := by
      intro L
      induction L with
      | nil => intro s n _ h1 h2; exact ⟨h1, fun p => by have := h2 p; simpa using this⟩
      | cons x L ih =>
        intro s n hb h1 h2
        obtain ⟨h3, h4⟩ := hb x List.mem_cons_self
        obtain ⟨h5, h6⟩ := ih (r1 s x) (n + 10000) (fun y hy => hb y (List.mem_cons_of_mem _ hy)) (fun p f hp => by
          obtain ⟨k, v⟩ := x
          cases k with
          | nil => exact h1 p f hp
          | cons a r =>
            simp only [r1] at hp
            split at hp
            · exact h1 p f hp
            · split at hp
              · simp only [fset] at hp
                split at hp
                · rename_i e; subst e; simp at h3; omega
                · exact h1 p f hp
              · exact h1 p f hp) (r1_len s x n 10000 h2 h4)
        exact ⟨h5, fun p => by have := h6 p; simp only [List.foldl_cons, List.length_cons] at this ⊢; omega⟩
    obtain ⟨h1, h2⟩ := key L (fnil, fnil) 0 hb (fun p f h => by cases h) (fun p => by simp [fnil])
    intro p f hp
    unfold rdF fin2 at hp
    split at hp
    · rename_i b e
      cases hp
      exact ⟨h1 p _ e, by have := h2 p; simp only; omega⟩
    · rename_i e1 e2
      refine ⟨h1 p f hp, ?_⟩
      obtain ⟨b, d⟩ := f
      cases b with
      | false => exact absurd hp (e2 d)
      | true =>
        have := rdF_dir L p d (by unfold rdF fin2; simp only [hp])
        rw [this]; simp
  have hbl : ∀ x ∈ l, x.1.length ≤ 90000 ∧ x.2.2.length ≤ 1000000000000000 := fun x hx => by
    have := hkey x.1 x.2 ((enum_mem hE).1 hx); omega
  rw [sound_eq hE hbl]
  simp only [Option.bind_some]
  have hsnd : (l.all (gd (rdF L)) && ((rdF L [47]).getD (false, [])).1) = true ↔ Snd (rdF L) := by
    rw [Bool.and_eq_true, List.all_eq_true]
    have hdd : ∀ p, ((rdF L p).getD (false, [])).1 = true ↔ ∃ d, rdF L p = some (true, d) := fun p => by
      cases h : rdF L p with
      | none => simp
      | some v => obtain ⟨b, d⟩ := v; cases b <;> simp
    rw [hdd]
    have hg : ∀ x, gd (rdF L) x = true ↔ okP x.1 = true ∧ x.2.2.length ≤ 192 ∧ (x.1 ≠ [47] → ∃ d, rdF L (par x.1) = some (true, d)) := fun x => by
      unfold gd
      simp only [Bool.and_eq_true, Bool.or_eq_true, decide_eq_true_eq, hdd]
      constructor
      · rintro ⟨⟨a, b⟩, c⟩; exact ⟨a, b, fun h => c.resolve_left h⟩
      · rintro ⟨a, b, c⟩
        refine ⟨⟨a, b⟩, ?_⟩
        by_cases h : x.1 = [47]
        · exact .inl h
        · exact .inr (c h)
    constructor
    · rintro ⟨h1, h2⟩
      exact ⟨h2, fun p f hp => ((hg (p, f)).1 (h1 _ ((enum_mem hE).2 hp))).1, fun p f hp => ((hg (p, f)).1 (h1 _ ((enum_mem hE).2 hp))).2.1, rdF_dir L, fun p f hp => ((hg (p, f)).1 (h1 _ ((enum_mem hE).2 hp))).2.2⟩
    · intro h
      exact ⟨fun x hx => (hg x).2 ⟨h.ok _ _ ((enum_mem hE).1 hx), h.len _ _ ((enum_mem hE).1 hx), h.up _ _ ((enum_mem hE).1 hx)⟩, h.root⟩
  by_cases hs : (l.all (gd (rdF L)) && ((rdF L [47]).getD (false, [])).1) = true
  · have hS := hsnd.1 hs
    rw [if_neg (by rw [hs]; decide)]
    obtain ⟨h1, _, h3, _⟩ := hS.prs ⟨l, hE, hl⟩ (by omega)
    rw [h1]
    simp only [Option.bind_some]
    rw [eqPairs_eq _ _ (by omega)]
    simp only [Option.bind_some]
    by_cases he : prsF (rdF L) = L
    · rw [if_neg (by simp [he])]; exact .inl ⟨rfl, hS, he⟩
    · rw [if_pos (by simp [he])]; exact .inr ⟨rfl, fun h => he h.2⟩
  · rw [if_pos (by simp only [show (l.all (gd (rdF L)) && ((rdF L [47]).getD (false, [])).1) = false by simpa using hs]; rfl)]
    exact .inr ⟨rfl, fun h => hs (hsnd.2 h.1)⟩
end Go.Proofs.YtnagibpmfabkjaaGreatDoor
