/- maps.Values: what comes out of the iterator. -/
import Derived.Test.YtchcoenpnmgnhaaTalB
set_option linter.unusedSimpArgs false
set_option linter.unusedVariables false
namespace Go.Proofs.Ytchcoenpnmgnhaa
open Go.ChangeShapes Go.WideShapes Go.ChangeAt Go.RowKit Go.Tri
/-- The pairs of a map, as values. -/
def vmap (l : List (Int × Int)) : List (Int × Value) := l.map fun p => (p.1, .int .u64 p.2)
def vOf (e : MapEntry) : Int := match e.val with | .int _ n => n | _ => 0
theorem vOf_eq {e : MapEntry} {n : Int} (h : e.val = .int .u64 n) : vOf e = n := by simp [vOf, h]
theorem vmap_vals {es : Array MapEntry} {l : List (Int × Int)} (h : es.toList.map (fun e => (e.key, e.val)) = mkv (Value.int .i64) (vmap l)) : es.toList.map (·.val) = l.map fun p => Value.int .u64 p.2 := by
  have := congrArg (List.map (·.2)) h
  simpa [mkv, vmap, Function.comp_def] using this
theorem vmap_val {es : Array MapEntry} {l : List (Int × Int)} {e : MapEntry} (h : es.toList.map (fun e => (e.key, e.val)) = mkv (Value.int .i64) (vmap l)) (he : e ∈ es.toList) : ∃ n, e.val = .int .u64 n := by
  have h1 : e.val ∈ es.toList.map (·.val) := List.mem_map.2 ⟨e, he, rfl⟩
  rw [vmap_vals h] at h1
  obtain ⟨p, _, hp⟩ := List.mem_map.1 h1
  exact ⟨p.2, hp.symm⟩
theorem vmap_vOf {es : Array MapEntry} {l : List (Int × Int)} (h : es.toList.map (fun e => (e.key, e.val)) = mkv (Value.int .i64) (vmap l)) : es.toList.map vOf = l.map (·.2) := by
  have h1 := congrArg (List.map fun v : Value => match v with | .int _ n => n | _ => (0 : Int)) (vmap_vals h)
  have e : vOf = fun x : MapEntry => (match x.val with | .int _ n => n | _ => (0 : Int)) := rfl
  rw [e]
  simpa [Function.comp_def] using h1
theorem push_born (vis : List MapEntry) (e : MapEntry) : (vis.map (·.born)).toArray.push e.born = ((vis ++ [e]).map (·.born)).toArray := by simp
theorem not_seen {vis : List MapEntry} {e : MapEntry} (h : (vis.map (·.born)).toArray.contains e.born = false) : e.born ∉ vis.map (·.born) := by
  intro hm
  have : (vis.map (·.born)).toArray.contains e.born = true := by simpa using hm
  rw [h] at this; cases this
theorem nodup_snoc {vis : List MapEntry} {e : MapEntry} (h : (vis.map (·.born)).Nodup) (hn : (vis.map (·.born)).toArray.contains e.born = false) : ((vis ++ [e]).map (·.born)).Nodup := by
  rw [List.map_append]
  refine List.nodup_append.2 ⟨h, by simp, fun x hx y hy => ?_⟩
  simp at hy; subst hy
  intro hxe; subst hxe; exact not_seen hn hx
theorem nodup_of_born {vis : List MapEntry} (h : (vis.map (·.born)).Nodup) : vis.Nodup := by
  unfold List.Nodup at h ⊢
  rw [List.pairwise_map] at h
  exact h.imp fun hne e => hne (by rw [e])
theorem sub_perm : ∀ {vis es : List MapEntry}, (∀ e ∈ vis, e ∈ es) → vis.Nodup → ∃ rest, (vis ++ rest).Perm es
  | [], es, _, _ => ⟨es, List.Perm.refl _⟩
  | e :: vis, es, hsub, hnd => by
    obtain ⟨A, B, rfl⟩ := List.append_of_mem (hsub e (List.mem_cons_self ..))
    have hn := List.nodup_cons.1 hnd
    obtain ⟨rest, hr⟩ := sub_perm (vis := vis) (es := A ++ B) (fun x hx => by
      have h1 := hsub x (List.mem_cons_of_mem _ hx)
      have hne : x ≠ e := fun h => hn.1 (h ▸ hx)
      simp only [List.mem_append, List.mem_cons] at h1 ⊢
      rcases h1 with h | h | h
      · exact .inl h
      · exact absurd h hne
      · exact .inr h) hn.2
    exact ⟨rest, ((List.Perm.cons e hr).trans List.perm_middle.symm)⟩
theorem sub_snoc {vis es : List MapEntry} {e : MapEntry} (hsub : ∀ e ∈ vis, e ∈ es) (he : e ∈ es) : ∀ x ∈ vis ++ [e], x ∈ es := by
  intro x hx
  rcases List.mem_append.1 hx with h | h
  · exact hsub x h
  · simp at h; subst h; exact he
theorem all_of {es : Array MapEntry} {l : List (Int × Int)} {vis : List MapEntry} (h : es.toList.map (fun e => (e.key, e.val)) = mkv (Value.int .i64) (vmap l)) (hnd : (es.toList.map (·.born)).Nodup) (hsub : ∀ e ∈ vis, e ∈ es.toList) (hndv : (vis.map (·.born)).Nodup)
    (hall : ∀ e ∈ es.toList, (vis.map (·.born)).toArray.contains e.born = true) : (vis.map vOf).Perm (l.map (·.2)) := by
  rw [← vmap_vOf h]
  refine List.Perm.map _ ?_
  obtain ⟨rest, hr⟩ := sub_perm hsub (nodup_of_born hndv)
  cases rest with
  | nil => simpa using hr
  | cons e rest =>
    exfalso
    have he : e ∈ es.toList := hr.mem_iff.1 (by simp)
    have h1 := hall e he
    have h2 : e.born ∈ vis.map (·.born) := by simpa using h1
    have h3 : ((vis ++ e :: rest).map (·.born)).Nodup := (hr.map _).nodup_iff.2 hnd
    rw [List.map_append, List.map_cons] at h3
    exact (List.nodup_append.1 h3).2.2 _ h2 _ (by simp) rfl
theorem adm_of {es : Array MapEntry} {l : List (Int × Int)} {vis : List MapEntry} {e : MapEntry} {n : Int} (h : es.toList.map (fun e => (e.key, e.val)) = mkv (Value.int .i64) (vmap l)) (hsub : ∀ e ∈ vis, e ∈ es.toList) (hndv : (vis.map (·.born)).Nodup) (he : e ∈ es.toList)
    (hnot : (vis.map (·.born)).toArray.contains e.born = false) (hn : e.val = .int .u64 n) : ∃ ys, (vis.map vOf ++ n :: ys).Perm (l.map (·.2)) := by
  obtain ⟨rest, hr⟩ := sub_perm (vis := vis ++ [e]) (sub_snoc hsub he) (nodup_of_born (nodup_snoc hndv hnot))
  refine ⟨rest.map vOf, ?_⟩
  rw [← vmap_vOf h]
  have := hr.map vOf
  simpa [vOf_eq hn] using this
theorem less_left {es : Array MapEntry} {vis : List MapEntry} {e : MapEntry} (hsub : ∀ e ∈ vis, e ∈ es.toList) (hndv : (vis.map (·.born)).Nodup) (he : e ∈ es.toList) (hnot : (vis.map (·.born)).toArray.contains e.born = false) : es.size - (vis ++ [e]).length < es.size - vis.length := by
  obtain ⟨rest, hr⟩ := sub_perm (vis := vis ++ [e]) (sub_snoc hsub he) (nodup_of_born (nodup_snoc hndv hnot))
  have := hr.length_eq
  simp at this ⊢
  omega
theorem valuesSeq (Bm b : Nat) (l : List (Int × Int)) :
    SeqC Try.prog 27 [.pointer (some ⟨Bm, 0, none⟩)] (inC .u64) [HP.blk Bm [.map (some b)] 36, HP.mp b (mkv (Value.int .i64) (vmap l))] (fun xs x => ∃ ys, (xs ++ x :: ys).Perm (l.map (·.2))) (fun xs => xs.Perm (l.map (·.2))) := by
  intro L w0 G E J K next stop g0 hY W fr H
  replace H : St w0 W ([HP.blk Bm [.map (some b)] 36, HP.mp b (mkv (Value.int .i64) (vmap l))] ++ (J g0 ++ fr)) := St.perm H perm_mid
  refine xii_enter Try.func27 rfl rfl rfl ?_
  intro a0 F0
  replace F0 : Fr ⟨15, []⟩ a0 [(0, .func (.yield L) #[] #[]), (1, .pointer (some ⟨Bm, 0, none⟩))] := F0
  have H0 := H
  refine wpIn_seq ?_
  refine ri_lit ?_
  refine s_val wkI F0 rfl rfl rfl rfl (y_load1 F0 plMap rfl rfl (((H0.blk 0 rfl).cell _).trans rfl)) ?_; intro a1 F1; clear F0
  obtain ⟨es, c, hes, hnd, hltc, Hm⟩ := H0.openMap 1 rfl
  refine s_range wkI F1 rfl rfl rfl Try.underlying36 rfl Hm 1 rfl rfl ?_; intro r w2 a2 h2 F2; clear F1
  have H2 : St w0 w2 ([HP.obj r (.mapIter (some b) c #[] c), HP.blk Bm [.map (some b)] 36, HP.obj b (.map es c)] ++ (J g0 ++ fr)) := h2
  refine wpListIn_nil ?_
  refine c_then ?_
  refine wpIn_block ?_
  refine xi_loop (G := List MapEntry × G) (fun gg a w' => match gg with | (vis, g) => Fr ⟨15, []⟩ a [(0, .func (.yield L) #[] #[]), (6, .pointer (some ⟨r, 0, none⟩))] ∧ St w0 w' ([HP.obj r (.mapIter (some b) c (vis.map (·.born)).toArray c), HP.blk Bm [.map (some b)] 36, HP.obj b (.map es c)] ++ (J g ++ fr)) ∧ (∀ e ∈ vis, e ∈ es.toList) ∧ ((vis.map (·.born)).Nodup) ∧ (Rn next g0 (vis.map vOf) g)) (fun gg => match gg with | (vis, g) => es.size - vis.length) ([], g0) ⟨F2.cut _ ⟨rfl, rfl, trivial⟩, H2, by simp, by simp, rfl⟩ ?_
  clear F2
  rintro ⟨vis, g⟩ a3 w3 ⟨F3, H3, hsub, hndv, hrn⟩
  refine wpIn_seq ?_
  refine ri_lit ?_
  refine s_next wkI F3 rfl rfl rfl rfl rfl H3 2 0 rfl rfl hltc ?_ ?_
  · skip
    intro hall w4 a4 H4 F4; clear F3
    refine s_val wkI F4 rfl rfl rfl rfl (y_extract F4 rfl rfl rfl) ?_; intro a5 F5; clear F4
    refine wpListIn_nil ?_
    refine c_then ?_
    refine wpIn_seq ?_
    refine xi_condF F5 rfl ?_
    refine wpIn_exit ?_
    refine c_thenX ?_
    refine c_thenX ?_
    refine c_hit ?_
    refine xi_end0 F5 rfl ?_
    have hc := St.closeMap H4 2 rfl hnd hltc
    rw [hes] at hc
    refine ⟨_, rfl, .inl ⟨_, g, all_of hes hnd hsub hndv hall, hrn, ?_⟩⟩
    exact St.perm (St.tail hc) (perm_mid (A := [HP.blk Bm [.map (some b)] 36, HP.mp b (mkv (Value.int .i64) (vmap l))]) (B := J g) (C := fr))
  · skip
    intro e he hnot w8 a8 h8 F8; clear F3
    have H8 : St w0 w8 ([HP.obj r (.mapIter (some b) c ((vis.map (·.born)).toArray.push e.born) c), HP.blk Bm [.map (some b)] 36, HP.obj b (.map es c)] ++ (J g ++ fr)) := h8
    refine s_val wkI F8 rfl rfl rfl rfl (y_extract F8 rfl rfl rfl) ?_; intro a9 F9; clear F8
    refine wpListIn_nil ?_
    refine c_then ?_
    refine wpIn_seq ?_
    refine xi_condT F9 rfl ?_
    refine wpIn_skip ?_
    refine c_then ?_
    refine wpIn_block ?_
    refine wpIn_seq ?_
    refine ri_lit ?_
    refine s_val wkI F9 rfl rfl rfl rfl (y_entry F9 rfl rfl H8 2 0 rfl rfl he hnd) ?_; intro a11 F11; clear F9
    obtain ⟨n, hn⟩ := vmap_val hes he
    rw [hn] at F11
    refine s_val wkI F11 rfl rfl rfl rfl (y_extract F11 rfl rfl rfl) ?_; intro a12 F12; clear F11
    refine s_val wkI F12 rfl rfl rfl rfl (y_assign F12 rfl rfl) ?_; intro a13 F13; clear F12
    refine wpListIn_nil ?_
    refine c_then ?_
    refine wpIn_seq ?_
    refine ri_lit ?_
    refine s_val wkI F13 rfl rfl rfl rfl (y_move F13 rfl rfl) ?_; intro a14 F14; clear F13
    refine s_val wkI F14 rfl rfl rfl rfl (y_move F14 rfl rfl) ?_; intro a15 F15; clear F14
    have hP : St w0 w8 (J g ++ ([HP.obj r (.mapIter (some b) c ((vis.map (·.born)).toArray.push e.born) c), HP.blk Bm [.map (some b)] 36, HP.obj b (.map es c)] ++ fr)) := St.perm (l := [HP.obj r (.mapIter (some b) c ((vis.map (·.born)).toArray.push e.born) c), HP.blk Bm [.map (some b)] 36, HP.obj b (.map es c)] ++ (J g ++ fr)) H8 perm_mid
    refine si_yield F15 rfl rfl rfl rfl rfl rfl (YieldI.mono (hY _ g n _ _ (adm_of hes hsub hndv he hnot hn) hrn hP) (R' := fun ee W' => ∃ bb, ee = .returned (.bool bb) ∧ ((bb = true ∧ ∃ g', next g n g' ∧ St w0 W' (J g' ++ ([HP.obj r (.mapIter (some b) c ((vis.map (·.born)).toArray.push e.born) c), HP.blk Bm [.map (some b)] 36, HP.obj b (.map es c)] ++ fr))) ∨ (bb = false ∧ ∃ q, stop g n q ∧ St w0 W' (K q ++ ([HP.obj r (.mapIter (some b) c ((vis.map (·.born)).toArray.push e.born) c), HP.blk Bm [.map (some b)] 36, HP.obj b (.map es c)] ++ fr))))) fun ee W' hh => hh.elim (fun ⟨g1, hee, h1, h2⟩ => ⟨true, hee, .inl ⟨rfl, g1, h1, h2⟩⟩) (fun ⟨q, hee, h1, h2⟩ => ⟨false, hee, .inr ⟨rfl, q, h1, h2⟩⟩)) ?_
    rintro bb w16 a16 (⟨rfl, g1, hnx, h16⟩ | ⟨rfl, q, hst, h16⟩) F16 <;> clear F15
    · skip
      have H16 : St w0 w16 ([HP.obj r (.mapIter (some b) c ((vis.map (·.born)).toArray.push e.born) c), HP.blk Bm [.map (some b)] 36, HP.obj b (.map es c)] ++ (J g1 ++ fr)) := St.perm h16 perm_mid
      refine s_val wkI F16 rfl rfl rfl rfl (y_not F16 rfl rfl) ?_; intro a17 F17; clear F16
      refine wpListIn_nil ?_
      refine c_then ?_
      refine xi_condF F17 rfl ?_
      refine wpIn_skip ?_
      refine c_blkN ?_
      refine c_then ?_
      exact ⟨(vis ++ [e], g1), ⟨F17.cut _ ⟨rfl, rfl, trivial⟩, (by have hp : St w0 w16 ([HP.obj r (.mapIter (some b) c ((vis.map (·.born)).toArray.push e.born) c), HP.blk Bm [.map (some b)] 36, HP.obj b (.map es c)] ++ (J g1 ++ fr)) := H16; rw [push_born] at hp; exact hp), sub_snoc hsub he, nodup_snoc hndv hnot, by rw [List.map_append, List.map_cons, List.map_nil, vOf_eq hn]; exact hrn.snoc hnx⟩, by dsimp only; exact less_left hsub hndv he hnot⟩
    · skip
      have H16 : St w0 w16 ([HP.obj r (.mapIter (some b) c ((vis.map (·.born)).toArray.push e.born) c), HP.blk Bm [.map (some b)] 36, HP.obj b (.map es c)] ++ (K q ++ fr)) := St.perm h16 perm_mid
      refine s_val wkI F16 rfl rfl rfl rfl (y_not F16 rfl rfl) ?_; intro a19 F19; clear F16
      refine wpListIn_nil ?_
      refine c_then ?_
      refine xi_condT F19 rfl ?_
      refine wpIn_ret ?_
      refine c_blkR ?_
      refine c_thenR ?_
      refine c_blkR ?_
      refine xi_ret0 F19 rfl ?_
      have hc := St.closeMap H16 2 rfl hnd hltc
      rw [hes] at hc
      refine ⟨_, rfl, .inr ⟨_, g, n, q, adm_of hes hsub hndv he hnot hn, hrn, hst, ?_⟩⟩
      exact St.perm (St.tail hc) (perm_mid (A := [HP.blk Bm [.map (some b)] 36, HP.mp b (mkv (Value.int .i64) (vmap l))]) (B := K q) (C := fr))
end Go.Proofs.Ytchcoenpnmgnhaa
