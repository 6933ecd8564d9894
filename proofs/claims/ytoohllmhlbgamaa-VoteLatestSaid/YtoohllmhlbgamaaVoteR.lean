import Derived.Test.YtoohllmhlbgamaaVoteQ
set_option linter.unusedSimpArgs false
set_option linter.unusedVariables false
namespace Go.Proofs.Ytoohllmhlbgamaa
open Go.ChangeShapes Go.WideShapes Go.ChangeAt Go.RowKit Go.Tri
theorem vote_cell1 {w : World} {b off : Nat} {xs : List Vote} {k : Nat} {x : Vote} (h : Row w b off (votes xs)) (hw : ∀ y ∈ xs, y.wf) (hk : xs[k]? = some x) : w.cell? ⟨b, off + k * 37 + 1, none⟩ = some (.int .u64 x.view) := Row.vote h hw hk 1 _ rfl
set_option maxRecDepth 100000 in
set_option maxHeartbeats 2000000 in
theorem add (xs : List Vote) (hw : ∀ x ∈ xs, x.wf) (hn : xs.length ≤ 900) (s : Value) (v : Vote) (hv : v.wf) (w : World) (hs : Sl w s xs.length (votes xs)) :
    Calls Try.prog 14 [s, .agg v.cells.toArray].toArray w (fun e w' => ∃ r, e = .returned r ∧ St w w' [HP.own 28 37 r (addV xs v).length (votes (addV xs v))]) := by
  refine x_enter Try.func14 rfl rfl rfl ?_
  intro a0 F0
  replace F0 : Fr 38 a0 [(0, s), (1, .agg v.cells.toArray)] := F0
  have H0 := St.nil w
  refine wp_seq ?_
  refine r_lit ?_
  refine s_boxA F0 rfl rfl rfl rfl rfl H0 ?_; intro b1 w1 a1 H1 F1; clear F0
  refine s_val F1 rfl rfl rfl (y_assign F1 rfl rfl) ?_; intro a2 F2; clear F1
  refine wpList_nil ?_
  refine c_then ?_
  refine wp_seq ?_
  refine r_lit ?_
  refine s_val F2 rfl rfl rfl (y_move F2 rfl rfl) ?_; intro a3 F3; clear F2
  refine s_call F3 rfl rfl rfl (y_call F3 rfl rfl ent_clone) (cloneSt _ _ _ _ (hs.st H1) (votes_len xs hw) (votes_flat xs) (by omega)) ?_; intro r0 w4 a4 hR4 F4; clear F3
  have H4 : St w w4 [HP.own 28 37 r0 (xs.length) (votes xs), HP.blk b1 (v.cells) 28] := H1.call hR4
  obtain ⟨p, cap, rfl, hcap, hp⟩ := H4.ownForm 0 rfl
  refine s_val F4 rfl rfl rfl (y_assign F4 rfl rfl) ?_; intro a5 F5; clear F4
  refine wpList_nil ?_
  refine c_then ?_
  refine wp_seq ?_
  refine r_lit ?_
  refine s_val F5 rfl rfl rfl (y_move F5 rfl rfl) ?_; intro a6 F6; clear F5
  refine s_val F6 rfl rfl rfl (y_loadA F6 aggVote rfl rfl ((H4.blk 1 rfl).row) (Vote.len_cells hv)) ?_; intro a7 F7; clear F6
  refine s_callV F7 rfl rfl rfl (y_call F7 rfl rfl ent_search) (searchSt xs hw (by omega) _ v hv _ (H4.sl 0 rfl)) ?_; intro w8 a8 hR8 F8; clear F7
  have H8 : St w w8 [HP.own 28 37 (.slice p xs.length cap) (xs.length) (votes xs), HP.blk b1 (v.cells) 28] := H4.call hR8
  refine s_val F8 rfl rfl rfl (y_move F8 rfl rfl) ?_; intro a9 F9; clear F8
  refine s_val F9 rfl rfl rfl (y_extract F9 rfl rfl rfl) ?_; intro a10 F10; clear F9
  refine s_val F10 rfl rfl rfl (y_extract F10 rfl rfl rfl) ?_; intro a11 F11; clear F10
  refine s_val F11 rfl rfl rfl (y_assign F11 rfl rfl) ?_; intro a12 F12; clear F11
  refine s_val F12 rfl rfl rfl (y_assign F12 rfl rfl) ?_; intro a13 F13; clear F12
  refine wpList_nil ?_
  refine c_then ?_
  refine wp_seq ?_
  refine wp_block ?_
  refine wp_seq ?_
  refine r_lit ?_
  refine s_val F13 rfl rfl rfl (y_move F13 rfl rfl) ?_; intro a14 F14; clear F13
  refine s_val F14 rfl rfl rfl (y_not F14 rfl rfl) ?_; intro a15 F15; clear F14
  refine s_val F15 rfl rfl rfl (y_assign F15 rfl rfl) ?_; intro a16 F16; clear F15
  refine wpList_nil ?_
  refine c_then ?_
  refine x_cond F16 rfl (fun hc => ?_) (fun hc => ?_)
  · skip
    replace hc : foundAt xs v = false := by simpa using hc
    refine wp_seq ?_
    refine r_lit ?_
    refine s_val F16 rfl rfl rfl (y_move F16 rfl rfl) ?_; intro a18 F18; clear F16
    refine s_val F18 rfl rfl rfl (y_move F18 rfl rfl) ?_; intro a19 F19; clear F18
    refine s_val F19 rfl rfl rfl (y_loadA F19 aggVote rfl rfl ((H8.blk 1 rfl).row) (Vote.len_cells hv)) ?_; intro a20 F20; clear F19
    refine s_build1 F20 rfl rfl rfl aggVote elemVote rfl rfl (Vote.len_cells hv) (by decide) H8 ?_; intro b21 w21 a21 H21 F21; clear F20
    refine s_call F21 rfl rfl rfl (y_call F21 rfl rfl ent_insert) (insertSt (cv := 0) H21 1 0 (by decide) rfl rfl (votes_flat xs) (by omega) (findAt_le xs v) (Vote.len_cells hv) (Vote.flat v)) ?_; intro r1 w22 a22 H22 F22; clear F21
    refine s_val F22 rfl rfl rfl (y_assign F22 rfl rfl) ?_; intro a23 F23; clear F22
    refine wpList_nil ?_
    refine c_then ?_
    refine wp_ret ?_
    refine c_blkR ?_
    refine c_thenR ?_
    refine x_ret1 F23 rfl rfl ?_
    refine ⟨_, rfl, ?_⟩
    rw [addV_not hc, votes_app, votes_take xs hw _ (findAt_le xs v), List.length_append, List.length_cons, List.length_take, List.length_drop, Nat.min_eq_left (findAt_le xs v)]
    have e : findAt xs v + (xs.length - findAt xs v + 1) = xs.length + 1 := by have := findAt_le xs v; omega
    rw [e, show votes (v :: xs.drop (findAt xs v)) = v.cells ++ votes (xs.drop (findAt xs v)) by simp [votes], votes_drop xs hw _ (findAt_le xs v), ← List.append_assoc]
    exact H22
  · skip
    replace hc : foundAt xs v = true := by simpa using hc
    obtain ⟨x, hx, hxn⟩ := found_at hc
    have hlt : findAt xs v < xs.length := (List.getElem?_eq_some_iff.1 hx).1
    obtain ⟨g, rfl⟩ := hp (by omega)
    refine wp_seq ?_
    refine q_region (fun u => St w u [HP.own 28 37 (.slice (some ⟨g, 0, none⟩) xs.length cap) (xs.length) (votes xs), HP.blk b1 (v.cells) 28]) (by kernel_rfl) (by kernel_rfl) H8.drew ?_
    refine q_val F16 rfl rfl rfl (fun u hu => y_fieldAddr F16 fld1 rfl rfl) ?_; intro a24 F24; clear F16
    refine q_val F24 rfl rfl rfl (fun u hu => y_load1 F24 plU64 rfl rfl (((hu.blk 1 rfl).cell _).trans rfl)) ?_; intro a25 F25; clear F24
    refine q_val F25 rfl rfl rfl (fun u hu => y_move F25 rfl rfl) ?_; intro a26 F26; clear F25
    refine q_val F26 rfl rfl rfl (fun u hu => y_move F26 rfl rfl) ?_; intro a27 F27; clear F26
    refine q_val F27 rfl rfl rfl (fun u hu => y_index F27 elemVote rfl rfl rfl (hlt)) ?_; intro a28 F28; clear F27
    refine q_val F28 rfl rfl rfl (fun u hu => y_fieldAddr F28 fld1 rfl rfl) ?_; intro a29 F29; clear F28
    refine q_val F29 rfl rfl rfl (fun u hu => y_load1 F29 plU64 rfl rfl (vote_cell1 (hu.ownRow 0 rfl) hw hx)) ?_; intro a30 F30; clear F29
    refine q_val F30 rfl rfl rfl (fun u hu => y_geq F30 rfl rfl rfl) ?_; intro a31 F31; clear F30
    refine q_val F31 rfl rfl rfl (fun u hu => y_assign F31 rfl rfl) ?_; intro a32 F32; clear F31
    refine q_nil ?_; intro w33 H33
    refine c_then ?_
    refine x_condP F32 rfl (fun hle => ?_) (fun hle => ?_)
    · skip
      refine r_lit ?_
      refine s_val F32 rfl rfl rfl (y_move F32 rfl rfl) ?_; intro a35 F35; clear F32
      refine s_val F35 rfl rfl rfl (y_move F35 rfl rfl) ?_; intro a36 F36; clear F35
      refine s_val F36 rfl rfl rfl (y_loadA F36 aggVote rfl rfl ((H33.blk 1 rfl).row) (Vote.len_cells hv)) ?_; intro a37 F37; clear F36
      refine s_val F37 rfl rfl rfl (y_index F37 elemVote rfl rfl rfl (hlt)) ?_; intro a38 F38; clear F37
      refine s_storeElem F38 rfl rfl aggVote rfl rfl rfl H33 0 rfl hlt (Vote.len_cells hv) (Vote.flat v) ?_; intro w40 h40
      have H40 : St w w40 [HP.own 28 37 (.slice (some ⟨g, 0, none⟩) xs.length cap) (xs.length) ((votes xs).take (findAt xs v * 37) ++ v.cells ++ (votes xs).drop (findAt xs v * 37 + 37)), HP.blk b1 (v.cells) 28] := h40
      refine wpList_nil ?_
      refine c_blkN ?_
      refine c_then ?_
      refine wp_seq ?_
      refine r_lit ?_
      refine s_val F38 rfl rfl rfl (y_move F38 rfl rfl) ?_; intro a41 F41; clear F38
      refine s_val F41 rfl rfl rfl (y_assign F41 rfl rfl) ?_; intro a42 F42; clear F41
      refine wpList_nil ?_
      refine c_then ?_
      refine wp_ret ?_
      refine x_ret1 F42 rfl rfl ?_
      refine ⟨_, rfl, ?_⟩
      rw [addV_set hc hx hle, List.length_set, votes_set xs hw _ hlt]
      exact H40.pick [0] (by decide) rfl
    · skip
      refine wp_skip ?_
      refine c_blkN ?_
      refine c_then ?_
      refine wp_seq ?_
      refine r_lit ?_
      refine s_val F32 rfl rfl rfl (y_move F32 rfl rfl) ?_; intro a43 F43; clear F32
      refine s_val F43 rfl rfl rfl (y_assign F43 rfl rfl) ?_; intro a44 F44; clear F43
      refine wpList_nil ?_
      refine c_then ?_
      refine wp_ret ?_
      refine x_ret1 F44 rfl rfl ?_
      refine ⟨_, rfl, ?_⟩
      rw [addV_keep hc hx hle]
      exact H33.pick [0] (by decide) rfl
end Go.Proofs.Ytoohllmhlbgamaa
