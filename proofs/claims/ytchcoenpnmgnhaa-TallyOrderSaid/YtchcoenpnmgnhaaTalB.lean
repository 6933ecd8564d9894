/- tally.Add, and the document's Add and Same. -/
import Derived.Test.YtchcoenpnmgnhaaTalQ
set_option linter.unusedSimpArgs false
set_option linter.unusedVariables false
namespace Go.Proofs.Ytchcoenpnmgnhaa
open Go.ChangeShapes Go.WideShapes Go.ChangeAt Go.RowKit Go.Tri
theorem ent24 : ∀ args w, (callFunc 24 args).run Try.prog w = .ok (.enter 24 args) w := enters Try.func24 (by kernel_rfl) rfl
set_option maxRecDepth 100000 in
set_option maxHeartbeats 2000000 in
theorem add (xs : List Mrk) (hw : ∀ x ∈ xs, x.wf) (hn : xs.length ≤ 900) (s : Value) (v : Mrk) (hv : v.wf) (w : World) (hs : Sl w s xs.length (rows Mrk.cells xs)) :
    Calls Try.prog 11 [s, .agg v.cells.toArray].toArray w (fun e w' => ∃ r, e = .returned r ∧ St w w' [HP.own 28 2 r (addM xs v).length (rows Mrk.cells (addM xs v))]) := by
  refine x_enter Try.func11 rfl rfl rfl ?_
  intro a0 F0
  replace F0 : Fr ⟨38, []⟩ a0 [(0, s), (1, .agg v.cells.toArray)] := F0
  have H0 := St.nil w
  refine wp_seq ?_
  refine r_lit ?_
  refine s_boxA wkP F0 rfl rfl rfl rfl rfl H0 ?_; intro b1 w1 a1 H1 F1; clear F0
  refine s_val wkP F1 rfl rfl rfl rfl (y_assign F1 rfl rfl) ?_; intro a2 F2; clear F1
  refine wpList_nil ?_
  refine c_then ?_
  refine wp_seq ?_
  refine r_lit ?_
  refine s_val wkP F2 rfl rfl rfl rfl (y_move F2 rfl rfl) ?_; intro a3 F3; clear F2
  refine s_call wkP F3 rfl rfl rfl rfl (y_call F3 rfl rfl ent20) (cloneM _ _ _ _ (hs.st H1) (rows_len Mrk.len xs hw) (rows_flat Mrk.flat xs) (by unfold maxLen; omega) (by omega)) ?_; intro r0 w4 a4 hR4 F4; clear F3
  have H4 : St w w4 [HP.own 28 2 r0 (xs.length) (rows Mrk.cells xs), HP.blk b1 (v.cells) 28] := H1.call hR4
  obtain ⟨p, cap, rfl, hcap, hp⟩ := H4.ownForm 0 rfl
  refine s_val wkP F4 rfl rfl rfl rfl (y_assign F4 rfl rfl) ?_; intro a5 F5; clear F4
  refine wpList_nil ?_
  refine c_then ?_
  refine wp_seq ?_
  refine r_lit ?_
  refine s_val wkP F5 rfl rfl rfl rfl (y_move F5 rfl rfl) ?_; intro a6 F6; clear F5
  refine s_val wkP F6 rfl rfl rfl rfl (y_loadA F6 aggMark rfl rfl ((H4.blk 1 rfl).row) (Mrk.len_cells hv)) ?_; intro a7 F7; clear F6
  refine s_callV wkP F7 rfl rfl rfl rfl (y_call F7 rfl rfl ent21) (searchM xs hw (by omega) _ v hv _ (H4.sl 0 rfl)) ?_; intro w8 a8 hR8 F8; clear F7
  have H8 : St w w8 [HP.own 28 2 (.slice p xs.length cap) (xs.length) (rows Mrk.cells xs), HP.blk b1 (v.cells) 28] := H4.call hR8
  refine s_val wkP F8 rfl rfl rfl rfl (y_move F8 rfl rfl) ?_; intro a9 F9; clear F8
  refine s_val wkP F9 rfl rfl rfl rfl (y_extract F9 rfl rfl rfl) ?_; intro a10 F10; clear F9
  refine s_val wkP F10 rfl rfl rfl rfl (y_extract F10 rfl rfl rfl) ?_; intro a11 F11; clear F10
  refine s_val wkP F11 rfl rfl rfl rfl (y_assign F11 rfl rfl) ?_; intro a12 F12; clear F11
  refine s_val wkP F12 rfl rfl rfl rfl (y_assign F12 rfl rfl) ?_; intro a13 F13; clear F12
  refine wpList_nil ?_
  refine c_then ?_
  refine wp_seq ?_
  refine wp_block ?_
  refine wp_seq ?_
  refine r_lit ?_
  refine s_val wkP F13 rfl rfl rfl rfl (y_move F13 rfl rfl) ?_; intro a14 F14; clear F13
  refine s_val wkP F14 rfl rfl rfl rfl (y_not F14 rfl rfl) ?_; intro a15 F15; clear F14
  refine s_val wkP F15 rfl rfl rfl rfl (y_assign F15 rfl rfl) ?_; intro a16 F16; clear F15
  refine wpList_nil ?_
  refine c_then ?_
  refine x_cond F16 rfl (fun hc => ?_) (fun hc => ?_)
  · skip
    replace hc : foundC cmpN xs v = false := by simpa using hc
    refine wp_seq ?_
    refine r_lit ?_
    refine s_val wkP F16 rfl rfl rfl rfl (y_move F16 rfl rfl) ?_; intro a18 F18; clear F16
    refine s_val wkP F18 rfl rfl rfl rfl (y_move F18 rfl rfl) ?_; intro a19 F19; clear F18
    refine s_val wkP F19 rfl rfl rfl rfl (y_loadA F19 aggMark rfl rfl ((H8.blk 1 rfl).row) (Mrk.len_cells hv)) ?_; intro a20 F20; clear F19
    refine s_build1 wkP F20 rfl rfl rfl aggMark elemMark rfl rfl (Mrk.len_cells hv) (by decide) H8 ?_; intro b21 w21 a21 H21 F21; clear F20
    refine s_call wkP F21 rfl rfl rfl rfl (y_call F21 rfl rfl ent24) (insertSt (cv := 0) H21 1 0 (by decide) rfl rfl (rows_flat Mrk.flat xs) (by omega) (findC_le cmpN xs v) (Mrk.len_cells hv) (Mrk.flat v)) ?_; intro r1 w22 a22 H22 F22; clear F21
    refine s_val wkP F22 rfl rfl rfl rfl (y_assign F22 rfl rfl) ?_; intro a23 F23; clear F22
    refine wpList_nil ?_
    refine c_then ?_
    refine wp_ret ?_
    refine c_blkR ?_
    refine c_thenR ?_
    refine x_ret1 F23 rfl rfl ?_
    refine ⟨_, rfl, ?_⟩
    rw [addM_not hc, rows_app, rows_take Mrk.len xs hw _ (findC_le cmpN xs v), List.length_append, List.length_cons, List.length_take, List.length_drop, Nat.min_eq_left (findC_le cmpN xs v)]
    have e : findC cmpN xs v + (xs.length - findC cmpN xs v + 1) = xs.length + 1 := by have := findC_le cmpN xs v; omega
    rw [e, rows_cons, rows_drop Mrk.len xs hw _ (findC_le cmpN xs v), ← List.append_assoc]
    exact H22
  · skip
    replace hc : foundC cmpN xs v = true := by simpa using hc
    obtain ⟨x, hx, hxn⟩ := found_at hc
    have hlt : findC cmpN xs v < xs.length := (List.getElem?_eq_some_iff.1 hx).1
    obtain ⟨g, rfl⟩ := hp (by omega)
    refine wp_seq ?_
    refine q_region (fun u => St w u [HP.own 28 2 (.slice (some ⟨g, 0, none⟩) xs.length cap) (xs.length) (rows Mrk.cells xs), HP.blk b1 (v.cells) 28]) (by kernel_rfl) (by kernel_rfl) H8.drew ?_
    refine q_val F16 rfl rfl rfl (fun u hu => y_fieldAddr F16 mfld1 rfl rfl) ?_; intro a24 F24; clear F16
    refine q_val F24 rfl rfl rfl (fun u hu => y_load1 F24 plU64 rfl rfl (((hu.blk 1 rfl).cell _).trans rfl)) ?_; intro a25 F25; clear F24
    refine q_val F25 rfl rfl rfl (fun u hu => y_move F25 rfl rfl) ?_; intro a26 F26; clear F25
    refine q_val F26 rfl rfl rfl (fun u hu => y_move F26 rfl rfl) ?_; intro a27 F27; clear F26
    refine q_val F27 rfl rfl rfl (fun u hu => y_index F27 elemMark rfl rfl rfl (hlt)) ?_; intro a28 F28; clear F27
    refine q_val F28 rfl rfl rfl (fun u hu => y_fieldAddr F28 mfld1 rfl rfl) ?_; intro a29 F29; clear F28
    refine q_val F29 rfl rfl rfl (fun u hu => y_load1 F29 plU64 rfl rfl (Row.elem Mrk.len (hu.ownRow 0 rfl) hw hx 1 _ rfl)) ?_; intro a30 F30; clear F29
    refine q_val F30 rfl rfl rfl (fun u hu => y_gtr F30 rfl rfl rfl) ?_; intro a31 F31; clear F30
    refine q_val F31 rfl rfl rfl (fun u hu => y_assign F31 rfl rfl) ?_; intro a32 F32; clear F31
    refine q_nil ?_; intro w33 H33
    refine c_then ?_
    refine x_condP F32 rfl (fun hle => ?_) (fun hle => ?_)
    · skip
      refine r_lit ?_
      refine s_val wkP F32 rfl rfl rfl rfl (y_move F32 rfl rfl) ?_; intro a35 F35; clear F32
      refine s_val wkP F35 rfl rfl rfl rfl (y_move F35 rfl rfl) ?_; intro a36 F36; clear F35
      refine s_val wkP F36 rfl rfl rfl rfl (y_loadA F36 aggMark rfl rfl ((H33.blk 1 rfl).row) (Mrk.len_cells hv)) ?_; intro a37 F37; clear F36
      refine s_val wkP F37 rfl rfl rfl rfl (y_index F37 elemMark rfl rfl rfl (hlt)) ?_; intro a38 F38; clear F37
      refine s_storeElem wkP F38 rfl rfl aggMark rfl rfl rfl H33 0 rfl hlt (Mrk.len_cells hv) (Mrk.flat v) ?_; intro w40 h40
      have H40 : St w w40 [HP.own 28 2 (.slice (some ⟨g, 0, none⟩) xs.length cap) (xs.length) ((rows Mrk.cells xs).take (findC cmpN xs v * 2) ++ v.cells ++ (rows Mrk.cells xs).drop (findC cmpN xs v * 2 + 2)), HP.blk b1 (v.cells) 28] := h40
      refine wpList_nil ?_
      refine c_blkN ?_
      refine c_then ?_
      refine wp_seq ?_
      refine r_lit ?_
      refine s_val wkP F38 rfl rfl rfl rfl (y_move F38 rfl rfl) ?_; intro a41 F41; clear F38
      refine s_val wkP F41 rfl rfl rfl rfl (y_assign F41 rfl rfl) ?_; intro a42 F42; clear F41
      refine wpList_nil ?_
      refine c_then ?_
      refine wp_ret ?_
      refine x_ret1 F42 rfl rfl ?_
      refine ⟨_, rfl, ?_⟩
      rw [addM_set hc hx hle, List.length_set, rows_set Mrk.len xs hw _ hlt]
      exact H40.pick [0] (by decide) rfl
    · skip
      refine wp_skip ?_
      refine c_blkN ?_
      refine c_then ?_
      refine wp_seq ?_
      refine r_lit ?_
      refine s_val wkP F32 rfl rfl rfl rfl (y_move F32 rfl rfl) ?_; intro a43 F43; clear F32
      refine s_val wkP F43 rfl rfl rfl rfl (y_assign F43 rfl rfl) ?_; intro a44 F44; clear F43
      refine wpList_nil ?_
      refine c_then ?_
      refine wp_ret ?_
      refine x_ret1 F44 rfl rfl ?_
      refine ⟨_, rfl, ?_⟩
      rw [addM_keep hc hx hle]
      exact H33.pick [0] (by decide) rfl
theorem ent11 : ∀ args w, (callFunc 11 args).run Try.prog w = .ok (.enter 11 args) w := enters Try.func11 (by kernel_rfl) rfl
set_option maxRecDepth 100000 in
set_option maxHeartbeats 2000000 in
theorem same_core (xs ys : List Mrk) (hwx : ∀ x ∈ xs, x.wf) (hwy : ∀ x ∈ ys, x.wf) (hx1 : xs.length ≤ 1000000) (p q : Option Addr) (cp cq : Nat) (w : World) (hp : 0 < xs.length → ∃ b off, p = some ⟨b, off, none⟩ ∧ Row w b off (rows Mrk.cells xs)) (hq : 0 < ys.length → ∃ b off, q = some ⟨b, off, none⟩ ∧ Row w b off (rows Mrk.cells ys)) :
    Calls Try.prog 12 [.slice p xs.length cp, .slice q ys.length cq].toArray w (fun e w' => e = .returned (.bool (decide (xs = ys))) ∧ St w w' []) := by
  refine x_enter Try.func12 rfl rfl rfl ?_
  intro a0 F0
  replace F0 : Fr ⟨26, []⟩ a0 [(0, .slice p xs.length cp), (1, .slice q ys.length cq)] := F0
  have H0 := St.nil w
  refine wp_seq ?_
  refine r_lit ?_
  refine s_val wkP F0 rfl rfl rfl rfl (y_assign F0 rfl rfl) ?_; intro a1 F1; clear F0
  refine wpList_nil ?_
  refine c_then ?_
  refine wp_seq ?_
  refine wp_seq ?_
  refine r_lit ?_
  refine s_val wkP F1 rfl rfl rfl rfl (y_move F1 rfl rfl) ?_; intro a2 F2; clear F1
  refine s_val wkP F2 rfl rfl rfl rfl (y_lenS F2 rfl Try.underlying22 rfl) ?_; intro a3 F3; clear F2
  refine s_val wkP F3 rfl rfl rfl rfl (y_move F3 rfl rfl) ?_; intro a4 F4; clear F3
  refine s_val wkP F4 rfl rfl rfl rfl (y_lenS F4 rfl Try.underlying22 rfl) ?_; intro a5 F5; clear F4
  refine s_val wkP F5 rfl rfl rfl rfl (y_neq F5 rfl rfl rfl) ?_; intro a6 F6; clear F5
  refine wpList_nil ?_
  refine c_then ?_
  refine x_condN F6 rfl (fun hc => ?_) (fun hc => ?_)
  · skip
    refine wp_seq ?_
    refine r_lit ?_
    refine s_val wkP F6 rfl rfl rfl rfl (y_assign F6 rfl rfl) ?_; intro a8 F8; clear F6
    refine wpList_nil ?_
    refine c_then ?_
    refine wp_ret ?_
    refine c_thenR ?_
    refine x_ret1 F8 rfl rfl ?_
    refine ⟨ret_bool ?_, H0.drop0⟩
    rw [eq_comm, decide_eq_false_iff_not]
    intro e
    exact hc (by rw [e])
  · skip
    refine wp_skip ?_
    refine c_then ?_
    refine wp_seq ?_
    refine wp_seq ?_
    refine r_lit ?_
    refine s_val wkP F6 rfl rfl rfl rfl (y_assign F6 rfl rfl) ?_; intro a9 F9; clear F6
    refine wpList_nil ?_
    refine c_then ?_
    refine wp_block ?_
    refine x_loop (G := Nat) (fun k a w' => Fr ⟨26, []⟩ a [(0, .slice p xs.length cp), (1, .slice q ys.length cq), (5, .int .i64 (((k : Nat) : Int)))] ∧ St w w' [] ∧ (k ≤ xs.length) ∧ (xs.take k = ys.take k)) (fun k => xs.length - k) 0 ⟨F9.cut _ ⟨rfl, rfl, rfl, trivial⟩, H0, Nat.zero_le _, rfl⟩ ?_
    clear F9
    rintro k a10 w10 ⟨F10, H10, hk, hpre⟩
    refine wp_seq ?_
    refine wp_seq ?_
    refine r_lit ?_
    refine s_val wkP F10 rfl rfl rfl rfl (y_move F10 rfl rfl) ?_; intro a11 F11; clear F10
    refine s_val wkP F11 rfl rfl rfl rfl (y_move F11 rfl rfl) ?_; intro a12 F12; clear F11
    refine s_val wkP F12 rfl rfl rfl rfl (y_lenS F12 rfl Try.underlying22 rfl) ?_; intro a13 F13; clear F12
    refine s_val wkP F13 rfl rfl rfl rfl (y_lss F13 rfl rfl rfl) ?_; intro a14 F14; clear F13
    refine wpList_nil ?_
    refine c_then ?_
    refine x_condP F14 rfl (fun hlt => ?_) (fun hlt => ?_)
    · skip
      refine wp_skip ?_
      refine c_then ?_
      refine wp_seq ?_
      refine wp_block ?_
      refine wp_seq ?_
      refine q_region (fun u => St w u []) (by kernel_rfl) (by kernel_rfl) H10.drew ?_
      refine q_val F14 rfl rfl rfl (fun u hu => y_move F14 rfl rfl) ?_; intro a16 F16; clear F14
      refine q_val F16 rfl rfl rfl (fun u hu => y_move F16 rfl rfl) ?_; intro a17 F17; clear F16
      obtain ⟨bb18, of18, hpe18, hrow18⟩ := hp (by omega)
      obtain ⟨x, mx⟩ : ∃ x, (xs)[k]? = some x := ⟨_, List.getElem?_eq_getElem (by omega)⟩
      have hx := hwx x (List.mem_of_getElem? mx)
      refine q_val F17 rfl rfl rfl (fun u hu => y_indexP F17 elemMark rfl rfl rfl hpe18 (by omega)) ?_; intro a20 F20; clear F17
      refine q_val F20 rfl rfl rfl (fun u hu => y_loadA F20 aggMark rfl rfl (Row.elem Mrk.len (hrow18.st hu) hwx mx) (Mrk.len_cells hx)) ?_; intro a21 F21; clear F20
      refine q_val F21 rfl rfl rfl (fun u hu => y_move F21 rfl rfl) ?_; intro a22 F22; clear F21
      refine q_val F22 rfl rfl rfl (fun u hu => y_move F22 rfl rfl) ?_; intro a23 F23; clear F22
      obtain ⟨bb24, of24, hpe24, hrow24⟩ := hq (by omega)
      obtain ⟨y, my⟩ : ∃ x, (ys)[k]? = some x := ⟨_, List.getElem?_eq_getElem (by omega)⟩
      have hy := hwy y (List.mem_of_getElem? my)
      refine q_val F23 rfl rfl rfl (fun u hu => y_indexP F23 elemMark rfl rfl rfl hpe24 (by omega)) ?_; intro a26 F26; clear F23
      refine q_val F26 rfl rfl rfl (fun u hu => y_loadA F26 aggMark rfl rfl (Row.elem Mrk.len (hrow24.st hu) hwy my) (Mrk.len_cells hy)) ?_; intro a27 F27; clear F26
      refine q_val F27 rfl rfl rfl (fun u hu => y_binAgg F27 rfl rfl rfl ((run_eq_mark x y hx hy _ _ _ (decide (x = y)) (by simp)).2)) ?_; intro a28 F28; clear F27
      refine q_nil ?_; intro w29 H29
      refine c_then ?_
      refine x_condN F28 rfl (fun hd => ?_) (fun hd => ?_)
      · skip
        refine wp_seq ?_
        refine r_lit ?_
        refine s_val wkP F28 rfl rfl rfl rfl (y_assign F28 rfl rfl) ?_; intro a31 F31; clear F28
        refine wpList_nil ?_
        refine c_then ?_
        refine wp_ret ?_
        refine c_blkR ?_
        refine c_thenR ?_
        refine c_thenR ?_
        refine c_blkR ?_
        refine c_thenR ?_
        refine x_ret1 F31 rfl rfl ?_
        refine ⟨ret_bool ?_, H29.drop0⟩
        rw [eq_comm, decide_eq_false_iff_not]
        intro e
        subst e
        rw [mx] at my
        exact hd (Option.some.inj my)
      · skip
        refine wp_skip ?_
        refine c_blkN ?_
        refine c_then ?_
        refine r_lit ?_
        refine s_val wkP F28 rfl rfl rfl rfl (y_move F28 rfl rfl) ?_; intro a32 F32; clear F28
        refine s_val wkP F32 rfl rfl rfl rfl (y_add F32 rfl rfl rfl (r := (((k : Nat) : Int)) + (1)) (wrap_i64 (by omega) (by omega) (by omega))) ?_; intro a33 F33; clear F32
        refine s_val wkP F33 rfl rfl rfl rfl (y_assign F33 rfl rfl) ?_; intro a34 F34; clear F33
        refine wpList_nil ?_
        refine c_then ?_
        exact ⟨k + 1, ⟨F34.cut _ ⟨rfl, rfl, rfl, trivial⟩, H29, by omega, by rw [List.take_add_one, List.take_add_one, mx, my, hpre, hd]⟩, by first | omega | (dsimp only; omega)⟩
    · skip
      refine wp_exit ?_
      refine c_thenX ?_
      refine c_thenX ?_
      refine c_hit ?_
      refine c_then ?_
      refine wp_seq ?_
      refine r_lit ?_
      refine s_val wkP F14 rfl rfl rfl rfl (y_assign F14 rfl rfl) ?_; intro a35 F35; clear F14
      refine wpList_nil ?_
      refine c_then ?_
      refine wp_ret ?_
      refine x_ret1 F35 rfl rfl ?_
      refine ⟨ret_bool ?_, H10.drop0⟩
      rw [eq_comm, decide_eq_true_eq]
      rw [List.take_of_length_le (by omega), List.take_of_length_le (by omega)] at hpre
      exact hpre
theorem same (xs ys : List Mrk) (hwx : ∀ x ∈ xs, x.wf) (hwy : ∀ x ∈ ys, x.wf) (hx1 : xs.length ≤ 1000000) (s u : Value) (w : World) (hs : Sl w s xs.length (rows Mrk.cells xs)) (hu : Sl w u ys.length (rows Mrk.cells ys)) :
    Calls Try.prog 12 [s, u].toArray w fun e w' => e = .returned (.bool (decide (xs = ys))) ∧ St w w' [] := by
  obtain ⟨p, cp, rfl, hp⟩ := hs.form
  obtain ⟨q, cq, rfl, hq⟩ := hu.form
  exact same_core xs ys hwx hwy hx1 p q cp cq w hp hq
theorem ent12 : ∀ args w, (callFunc 12 args).run Try.prog w = .ok (.enter 12 args) w := enters Try.func12 (by kernel_rfl) rfl
set_option maxRecDepth 100000 in
set_option maxHeartbeats 2000000 in
theorem radd_core (xs : List Mrk) (hw : ∀ x ∈ xs, x.wf) (hn : xs.length ≤ 1000) (p : Option Addr) (cp : Nat) (v : Mrk) (hv : v.wf) (w : World) (hp : 0 < xs.length → ∃ b off, p = some ⟨b, off, none⟩ ∧ Row w b off (rows Mrk.cells xs)) :
    Calls Try.prog 13 [.slice p xs.length cp, .agg v.cells.toArray].toArray w (fun e w' => ∃ r, e = .returned r ∧ St w w' [HP.own 28 2 r (raddM xs v).length (rows Mrk.cells (raddM xs v))]) := by
  refine x_enter Try.func13 rfl rfl rfl ?_
  intro a0 F0
  replace F0 : Fr ⟨55, []⟩ a0 [(0, .slice p xs.length cp), (1, .agg v.cells.toArray)] := F0
  have H0 := St.nil w
  refine wp_seq ?_
  refine r_lit ?_
  refine s_boxA wkP F0 rfl rfl rfl rfl rfl H0 ?_; intro b1 w1 a1 H1 F1; clear F0
  refine s_val wkP F1 rfl rfl rfl rfl (y_assign F1 rfl rfl) ?_; intro a2 F2; clear F1
  refine wpList_nil ?_
  refine c_then ?_
  refine wp_seq ?_
  refine r_lit ?_
  refine s_build0 wkP F2 rfl rfl rfl elemMark rfl H1 ?_; intro s3 w3 a3 H3 F3; clear F2
  refine s_val wkP F3 rfl rfl rfl rfl (y_assign F3 rfl rfl) ?_; intro a4 F4; clear F3
  refine s_val wkP F4 rfl rfl rfl rfl (y_assign F4 rfl rfl) ?_; intro a5 F5; clear F4
  refine wpList_nil ?_
  refine c_then ?_
  refine wp_seq ?_
  refine wp_seq ?_
  refine r_lit ?_
  refine s_val wkP F5 rfl rfl rfl rfl (y_assign F5 rfl rfl) ?_; intro a6 F6; clear F5
  refine wpList_nil ?_
  refine c_then ?_
  refine wp_block ?_
  refine x_loop (G := Nat × List Mrk × Bool × Value) (fun g a w' => match g with | (k, out, put, s) => Fr ⟨55, []⟩ a [(0, .slice p xs.length cp), (3, .pointer (some ⟨b1, 0, none⟩)), (4, .slice none 0 0), (5, s), (6, .bool (put)), (7, .int .i64 (((k : Nat) : Int)))] ∧ St w w' [HP.own 28 2 s (out.length) (rows Mrk.cells out), HP.blk b1 (v.cells) 28] ∧ (k ≤ xs.length) ∧ (out.length ≤ 2 * k) ∧ (raddSt v (xs.take k) = (out, put))) (fun g => match g with | (k, out, put, s) => xs.length - k) (0, [], false, s3) ⟨F6.cut _ ⟨rfl, rfl, rfl, rfl, rfl, rfl, trivial⟩, H3, Nat.zero_le _, by simp, rfl⟩ ?_
  clear F6
  rintro ⟨k, out, put, s⟩ a7 w7 ⟨F7, H7, hk, hl, hst⟩
  refine wp_seq ?_
  refine wp_seq ?_
  refine r_lit ?_
  refine s_val wkP F7 rfl rfl rfl rfl (y_move F7 rfl rfl) ?_; intro a8 F8; clear F7
  refine s_val wkP F8 rfl rfl rfl rfl (y_move F8 rfl rfl) ?_; intro a9 F9; clear F8
  refine s_val wkP F9 rfl rfl rfl rfl (y_lenS F9 rfl Try.underlying22 rfl) ?_; intro a10 F10; clear F9
  refine s_val wkP F10 rfl rfl rfl rfl (y_lss F10 rfl rfl rfl) ?_; intro a11 F11; clear F10
  refine wpList_nil ?_
  refine c_then ?_
  refine x_condP F11 rfl (fun hlt => ?_) (fun hlt => ?_)
  · skip
    refine wp_skip ?_
    refine c_then ?_
    refine wp_seq ?_
    refine wp_block ?_
    refine wp_seq ?_
    refine r_lit ?_
    refine s_val wkP F11 rfl rfl rfl rfl (y_move F11 rfl rfl) ?_; intro a13 F13; clear F11
    refine s_val wkP F13 rfl rfl rfl rfl (y_move F13 rfl rfl) ?_; intro a14 F14; clear F13
    obtain ⟨bb15, of15, hpe15, hrow15⟩ := hp (by omega)
    obtain ⟨x, mx⟩ : ∃ x, (xs)[k]? = some x := ⟨_, List.getElem?_eq_getElem (by omega)⟩
    have hx := hw x (List.mem_of_getElem? mx)
    refine s_val wkP F14 rfl rfl rfl rfl (y_indexP F14 elemMark rfl rfl rfl hpe15 (by omega)) ?_; intro a17 F17; clear F14
    refine s_val wkP F17 rfl rfl rfl rfl (y_loadA F17 aggMark rfl rfl (Row.elem Mrk.len (hrow15.st H7) hw mx) (Mrk.len_cells hx)) ?_; intro a18 F18; clear F17
    refine s_allocA wkP F18 rfl rfl rfl aggMark rfl H7 ?_; intro b19 w19 a19 H19 F19; clear F18
    refine s_storeA wkP F19 rfl rfl aggMark rfl rfl rfl H19 0 rfl (Mrk.len_cells hx) (rfl) (Mrk.flat x) ?_; intro w20 h20
    have H20 : St w w20 [HP.blk b19 (x.cells) 28, HP.own 28 2 s (out.length) (rows Mrk.cells out), HP.blk b1 (v.cells) 28] := h20
    clear h20
    refine wpList_nil ?_
    refine c_then ?_
    refine wp_seq ?_
    refine wp_seq ?_
    refine r_lit ?_
    refine s_val wkP F19 rfl rfl rfl rfl (y_move F19 rfl rfl) ?_; intro a21 F21; clear F19
    refine s_val wkP F21 rfl rfl rfl rfl (y_not F21 rfl rfl) ?_; intro a22 F22; clear F21
    refine s_val wkP F22 rfl rfl rfl rfl (y_move F22 rfl rfl) ?_; intro a23 F23; clear F22
    refine g_splitB (k := 22) F23 rfl (fun hput F24 => ?_) (fun hput F24 => ?_)
    · clear F23
      refine g_onP F24 rfl rfl rfl rfl ?_
      refine s_val wkP F24 rfl rfl rfl rfl (y_fieldAddr F24 mfld0 rfl rfl) ?_; intro a25 F25; clear F24
      refine g_onP F25 rfl rfl rfl rfl ?_
      refine s_val wkP F25 rfl rfl rfl rfl (y_load1 F25 plInt rfl rfl (((H20.blk 0 rfl).cell _).trans rfl)) ?_; intro a26 F26; clear F25
      refine g_onP F26 rfl rfl rfl rfl ?_
      refine s_val wkP F26 rfl rfl rfl rfl (y_fieldAddr F26 mfld0 rfl rfl) ?_; intro a27 F27; clear F26
      refine g_onP F27 rfl rfl rfl rfl ?_
      refine s_val wkP F27 rfl rfl rfl rfl (y_load1 F27 plInt rfl rfl (((H20.blk 2 rfl).cell _).trans rfl)) ?_; intro a28 F28; clear F27
      refine g_onP F28 rfl rfl rfl rfl ?_
      refine s_val wkP F28 rfl rfl rfl rfl (y_gtr F28 rfl rfl rfl) ?_; intro a29 F29; clear F28
      refine s_val wkP F29 rfl rfl rfl rfl (y_pickT F29 rfl rfl rfl) ?_; intro a30 F30; clear F29
      refine wpList_nil ?_
      refine c_then ?_
      refine x_condP F30 rfl (fun hgt => ?_) (fun hgt => ?_)
      · skip
        refine wp_seq ?_
        refine r_lit ?_
        refine s_val wkP F30 rfl rfl rfl rfl (y_move F30 rfl rfl) ?_; intro a32 F32; clear F30
        refine s_val wkP F32 rfl rfl rfl rfl (y_loadA F32 aggMark rfl rfl ((H20.blk 2 rfl).row) (Mrk.len_cells hv)) ?_; intro a33 F33; clear F32
        refine s_build1 wkP F33 rfl rfl rfl aggMark elemMark rfl rfl (Mrk.len_cells hv) (by decide) H20 ?_; intro b34 w34 a34 H34 F34; clear F33
        refine s_append wkP F34 rfl rfl rfl rfl H34 2 rfl rfl elemMark rfl (.inr (.inr ⟨_, _, _, rfl, Nat.le_refl _, (H34.blk 0 rfl).row⟩)) (by rw [Nat.one_mul]; exact Mrk.len_cells hv) (Mrk.flat v) (by unfold maxLen; first | omega | (simp; omega)) (by first | omega | (simp; omega)) ?_; intro s35 w35 a35 h35 F35; clear F34
        have H35 : St w w35 [HP.blk b34 (v.cells) 28, HP.blk b19 (x.cells) 28, HP.own 28 2 s35 ((out ++ [v]).length) (rows Mrk.cells (out ++ [v])), HP.blk b1 (v.cells) 28] := by rw [rows_snoc, List.length_append]; exact h35
        clear h35
        refine s_val wkP F35 rfl rfl rfl rfl (y_assign F35 rfl rfl) ?_; intro a36 F36; clear F35
        refine wpList_nil ?_
        refine c_then ?_
        refine r_lit ?_
        refine s_val wkP F36 rfl rfl rfl rfl (y_assign F36 rfl rfl) ?_; intro a37 F37; clear F36
        refine wpList_nil ?_
        refine c_then ?_
        refine wp_seq ?_
        refine wp_seq ?_
        refine r_lit ?_
        refine s_val wkP F37 rfl rfl rfl rfl (y_fieldAddr F37 mfld0 rfl rfl) ?_; intro a38 F38; clear F37
        refine s_val wkP F38 rfl rfl rfl rfl (y_load1 F38 plInt rfl rfl (((H35.blk 1 rfl).cell _).trans rfl)) ?_; intro a39 F39; clear F38
        refine s_val wkP F39 rfl rfl rfl rfl (y_fieldAddr F39 mfld0 rfl rfl) ?_; intro a40 F40; clear F39
        refine s_val wkP F40 rfl rfl rfl rfl (y_load1 F40 plInt rfl rfl (((H35.blk 3 rfl).cell _).trans rfl)) ?_; intro a41 F41; clear F40
        refine s_val wkP F41 rfl rfl rfl rfl (y_eql F41 rfl rfl rfl) ?_; intro a42 F42; clear F41
        refine wpList_nil ?_
        refine c_then ?_
        refine x_condP F42 rfl (fun heq => ?_) (fun heq => ?_)
        · skip
          refine wp_seq ?_
          refine r_lit ?_
          refine s_val wkP F42 rfl rfl rfl rfl (y_assign F42 rfl rfl) ?_; intro a44 F44; clear F42
          refine wpList_nil ?_
          refine c_then ?_
          refine wp_seq ?_
          refine r_lit ?_
          refine s_val wkP F44 rfl rfl rfl rfl (y_fieldAddr F44 mfld1 rfl rfl) ?_; intro a45 F45; clear F44
          refine s_val wkP F45 rfl rfl rfl rfl (y_load1 F45 plU64 rfl rfl (((H35.blk 3 rfl).cell _).trans rfl)) ?_; intro a46 F46; clear F45
          refine s_val wkP F46 rfl rfl rfl rfl (y_fieldAddr F46 mfld1 rfl rfl) ?_; intro a47 F47; clear F46
          refine s_val wkP F47 rfl rfl rfl rfl (y_load1 F47 plU64 rfl rfl (((H35.blk 1 rfl).cell _).trans rfl)) ?_; intro a48 F48; clear F47
          refine s_val wkP F48 rfl rfl rfl rfl (y_gtr F48 rfl rfl rfl) ?_; intro a49 F49; clear F48
          refine wpList_nil ?_
          refine c_then ?_
          refine x_condP F49 rfl (fun hvw => ?_) (fun hvw => ?_)
          · skip
            refine r_lit ?_
            refine s_val wkP F49 rfl rfl rfl rfl (y_loadA F49 aggMark rfl rfl ((H35.blk 3 rfl).row) (Mrk.len_cells hv)) ?_; intro a51 F51; clear F49
            refine s_storeA wkP F51 rfl rfl aggMark rfl rfl rfl H35 1 rfl (Mrk.len_cells hv) (Mrk.len_cells hx) (Mrk.flat v) ?_; intro w52 h52
            have H52 : St w w52 [HP.blk b34 (v.cells) 28, HP.blk b19 (v.cells) 28, HP.own 28 2 s35 ((out ++ [v]).length) (rows Mrk.cells (out ++ [v])), HP.blk b1 (v.cells) 28] := h52
            clear h52
            refine wpList_nil ?_
            refine c_then ?_
            refine r_lit ?_
            refine s_val wkP F51 rfl rfl rfl rfl (y_move F51 rfl rfl) ?_; intro a53 F53; clear F51
            refine s_val wkP F53 rfl rfl rfl rfl (y_loadA F53 aggMark rfl rfl ((H52.blk 1 rfl).row) (Mrk.len_cells hv)) ?_; intro a54 F54; clear F53
            refine s_build1 wkP F54 rfl rfl rfl aggMark elemMark rfl rfl (Mrk.len_cells hv) (by decide) H52 ?_; intro b55 w55 a55 H55 F55; clear F54
            refine s_append wkP F55 rfl rfl rfl rfl H55 3 rfl rfl elemMark rfl (.inr (.inr ⟨_, _, _, rfl, Nat.le_refl _, (H55.blk 0 rfl).row⟩)) (by rw [Nat.one_mul]; exact Mrk.len_cells hv) (Mrk.flat v) (by unfold maxLen; first | omega | (simp; omega)) (by first | omega | (simp; omega)) ?_; intro s56 w56 a56 h56 F56; clear F55
            have H56 : St w w56 [HP.blk b55 (v.cells) 28, HP.blk b34 (v.cells) 28, HP.blk b19 (v.cells) 28, HP.own 28 2 s56 (((out ++ [v]) ++ [v]).length) (rows Mrk.cells ((out ++ [v]) ++ [v])), HP.blk b1 (v.cells) 28] := by rw [rows_snoc, List.length_append]; exact h56
            clear h56
            refine s_val wkP F56 rfl rfl rfl rfl (y_assign F56 rfl rfl) ?_; intro a57 F57; clear F56
            refine wpList_nil ?_
            refine c_blkN ?_
            refine c_then ?_
            refine r_lit ?_
            refine s_val wkP F57 rfl rfl rfl rfl (y_move F57 rfl rfl) ?_; intro a58 F58; clear F57
            refine s_val wkP F58 rfl rfl rfl rfl (y_add F58 rfl rfl rfl (r := (((k : Nat) : Int)) + (1)) (wrap_i64 (by omega) (by omega) (by omega))) ?_; intro a59 F59; clear F58
            refine s_val wkP F59 rfl rfl rfl rfl (y_assign F59 rfl rfl) ?_; intro a60 F60; clear F59
            refine wpList_nil ?_
            refine c_then ?_
            exact ⟨(k + 1, ((out ++ [v]) ++ [v]), true, s56), ⟨F60.cut _ ⟨rfl, rfl, rfl, rfl, rfl, rfl, trivial⟩, H56.pick [3, 4] (by decide) rfl, by omega, by simp; omega, by first | (exfalso; omega) | (rw [raddSt_succ v mx, hst]; simp_all [raddStep]; try (intros; omega))⟩, by first | omega | (dsimp only; omega)⟩
          · skip
            refine wp_skip ?_
            refine c_then ?_
            refine r_lit ?_
            refine s_val wkP F49 rfl rfl rfl rfl (y_move F49 rfl rfl) ?_; intro a61 F61; clear F49
            refine s_val wkP F61 rfl rfl rfl rfl (y_loadA F61 aggMark rfl rfl ((H35.blk 1 rfl).row) (Mrk.len_cells hx)) ?_; intro a62 F62; clear F61
            refine s_build1 wkP F62 rfl rfl rfl aggMark elemMark rfl rfl (Mrk.len_cells hx) (by decide) H35 ?_; intro b63 w63 a63 H63 F63; clear F62
            refine s_append wkP F63 rfl rfl rfl rfl H63 3 rfl rfl elemMark rfl (.inr (.inr ⟨_, _, _, rfl, Nat.le_refl _, (H63.blk 0 rfl).row⟩)) (by rw [Nat.one_mul]; exact Mrk.len_cells hx) (Mrk.flat x) (by unfold maxLen; first | omega | (simp; omega)) (by first | omega | (simp; omega)) ?_; intro s64 w64 a64 h64 F64; clear F63
            have H64 : St w w64 [HP.blk b63 (x.cells) 28, HP.blk b34 (v.cells) 28, HP.blk b19 (x.cells) 28, HP.own 28 2 s64 (((out ++ [v]) ++ [x]).length) (rows Mrk.cells ((out ++ [v]) ++ [x])), HP.blk b1 (v.cells) 28] := by rw [rows_snoc, List.length_append]; exact h64
            clear h64
            refine s_val wkP F64 rfl rfl rfl rfl (y_assign F64 rfl rfl) ?_; intro a65 F65; clear F64
            refine wpList_nil ?_
            refine c_blkN ?_
            refine c_then ?_
            refine r_lit ?_
            refine s_val wkP F65 rfl rfl rfl rfl (y_move F65 rfl rfl) ?_; intro a66 F66; clear F65
            refine s_val wkP F66 rfl rfl rfl rfl (y_add F66 rfl rfl rfl (r := (((k : Nat) : Int)) + (1)) (wrap_i64 (by omega) (by omega) (by omega))) ?_; intro a67 F67; clear F66
            refine s_val wkP F67 rfl rfl rfl rfl (y_assign F67 rfl rfl) ?_; intro a68 F68; clear F67
            refine wpList_nil ?_
            refine c_then ?_
            exact ⟨(k + 1, ((out ++ [v]) ++ [x]), true, s64), ⟨F68.cut _ ⟨rfl, rfl, rfl, rfl, rfl, rfl, trivial⟩, H64.pick [3, 4] (by decide) rfl, by omega, by simp; omega, by first | (exfalso; omega) | (rw [raddSt_succ v mx, hst]; simp_all [raddStep]; try (intros; omega))⟩, by first | omega | (dsimp only; omega)⟩
        · skip
          refine wp_skip ?_
          refine c_then ?_
          refine r_lit ?_
          refine s_val wkP F42 rfl rfl rfl rfl (y_move F42 rfl rfl) ?_; intro a69 F69; clear F42
          refine s_val wkP F69 rfl rfl rfl rfl (y_loadA F69 aggMark rfl rfl ((H35.blk 1 rfl).row) (Mrk.len_cells hx)) ?_; intro a70 F70; clear F69
          refine s_build1 wkP F70 rfl rfl rfl aggMark elemMark rfl rfl (Mrk.len_cells hx) (by decide) H35 ?_; intro b71 w71 a71 H71 F71; clear F70
          refine s_append wkP F71 rfl rfl rfl rfl H71 3 rfl rfl elemMark rfl (.inr (.inr ⟨_, _, _, rfl, Nat.le_refl _, (H71.blk 0 rfl).row⟩)) (by rw [Nat.one_mul]; exact Mrk.len_cells hx) (Mrk.flat x) (by unfold maxLen; first | omega | (simp; omega)) (by first | omega | (simp; omega)) ?_; intro s72 w72 a72 h72 F72; clear F71
          have H72 : St w w72 [HP.blk b71 (x.cells) 28, HP.blk b34 (v.cells) 28, HP.blk b19 (x.cells) 28, HP.own 28 2 s72 (((out ++ [v]) ++ [x]).length) (rows Mrk.cells ((out ++ [v]) ++ [x])), HP.blk b1 (v.cells) 28] := by rw [rows_snoc, List.length_append]; exact h72
          clear h72
          refine s_val wkP F72 rfl rfl rfl rfl (y_assign F72 rfl rfl) ?_; intro a73 F73; clear F72
          refine wpList_nil ?_
          refine c_blkN ?_
          refine c_then ?_
          refine r_lit ?_
          refine s_val wkP F73 rfl rfl rfl rfl (y_move F73 rfl rfl) ?_; intro a74 F74; clear F73
          refine s_val wkP F74 rfl rfl rfl rfl (y_add F74 rfl rfl rfl (r := (((k : Nat) : Int)) + (1)) (wrap_i64 (by omega) (by omega) (by omega))) ?_; intro a75 F75; clear F74
          refine s_val wkP F75 rfl rfl rfl rfl (y_assign F75 rfl rfl) ?_; intro a76 F76; clear F75
          refine wpList_nil ?_
          refine c_then ?_
          exact ⟨(k + 1, ((out ++ [v]) ++ [x]), true, s72), ⟨F76.cut _ ⟨rfl, rfl, rfl, rfl, rfl, rfl, trivial⟩, H72.pick [3, 4] (by decide) rfl, by omega, by simp; omega, by first | (exfalso; omega) | (rw [raddSt_succ v mx, hst]; simp_all [raddStep]; try (intros; omega))⟩, by first | omega | (dsimp only; omega)⟩
      · skip
        refine wp_skip ?_
        refine c_then ?_
        refine wp_seq ?_
        refine wp_seq ?_
        refine r_lit ?_
        refine s_val wkP F30 rfl rfl rfl rfl (y_fieldAddr F30 mfld0 rfl rfl) ?_; intro a77 F77; clear F30
        refine s_val wkP F77 rfl rfl rfl rfl (y_load1 F77 plInt rfl rfl (((H20.blk 0 rfl).cell _).trans rfl)) ?_; intro a78 F78; clear F77
        refine s_val wkP F78 rfl rfl rfl rfl (y_fieldAddr F78 mfld0 rfl rfl) ?_; intro a79 F79; clear F78
        refine s_val wkP F79 rfl rfl rfl rfl (y_load1 F79 plInt rfl rfl (((H20.blk 2 rfl).cell _).trans rfl)) ?_; intro a80 F80; clear F79
        refine s_val wkP F80 rfl rfl rfl rfl (y_eql F80 rfl rfl rfl) ?_; intro a81 F81; clear F80
        refine wpList_nil ?_
        refine c_then ?_
        refine x_condP F81 rfl (fun heq => ?_) (fun heq => ?_)
        · skip
          refine wp_seq ?_
          refine r_lit ?_
          refine s_val wkP F81 rfl rfl rfl rfl (y_assign F81 rfl rfl) ?_; intro a83 F83; clear F81
          refine wpList_nil ?_
          refine c_then ?_
          refine wp_seq ?_
          refine r_lit ?_
          refine s_val wkP F83 rfl rfl rfl rfl (y_fieldAddr F83 mfld1 rfl rfl) ?_; intro a84 F84; clear F83
          refine s_val wkP F84 rfl rfl rfl rfl (y_load1 F84 plU64 rfl rfl (((H20.blk 2 rfl).cell _).trans rfl)) ?_; intro a85 F85; clear F84
          refine s_val wkP F85 rfl rfl rfl rfl (y_fieldAddr F85 mfld1 rfl rfl) ?_; intro a86 F86; clear F85
          refine s_val wkP F86 rfl rfl rfl rfl (y_load1 F86 plU64 rfl rfl (((H20.blk 0 rfl).cell _).trans rfl)) ?_; intro a87 F87; clear F86
          refine s_val wkP F87 rfl rfl rfl rfl (y_gtr F87 rfl rfl rfl) ?_; intro a88 F88; clear F87
          refine wpList_nil ?_
          refine c_then ?_
          refine x_condP F88 rfl (fun hvw => ?_) (fun hvw => ?_)
          · skip
            refine r_lit ?_
            refine s_val wkP F88 rfl rfl rfl rfl (y_loadA F88 aggMark rfl rfl ((H20.blk 2 rfl).row) (Mrk.len_cells hv)) ?_; intro a90 F90; clear F88
            refine s_storeA wkP F90 rfl rfl aggMark rfl rfl rfl H20 0 rfl (Mrk.len_cells hv) (Mrk.len_cells hx) (Mrk.flat v) ?_; intro w91 h91
            have H91 : St w w91 [HP.blk b19 (v.cells) 28, HP.own 28 2 s (out.length) (rows Mrk.cells out), HP.blk b1 (v.cells) 28] := h91
            clear h91
            refine wpList_nil ?_
            refine c_then ?_
            refine r_lit ?_
            refine s_val wkP F90 rfl rfl rfl rfl (y_move F90 rfl rfl) ?_; intro a92 F92; clear F90
            refine s_val wkP F92 rfl rfl rfl rfl (y_loadA F92 aggMark rfl rfl ((H91.blk 0 rfl).row) (Mrk.len_cells hv)) ?_; intro a93 F93; clear F92
            refine s_build1 wkP F93 rfl rfl rfl aggMark elemMark rfl rfl (Mrk.len_cells hv) (by decide) H91 ?_; intro b94 w94 a94 H94 F94; clear F93
            refine s_append wkP F94 rfl rfl rfl rfl H94 2 rfl rfl elemMark rfl (.inr (.inr ⟨_, _, _, rfl, Nat.le_refl _, (H94.blk 0 rfl).row⟩)) (by rw [Nat.one_mul]; exact Mrk.len_cells hv) (Mrk.flat v) (by unfold maxLen; first | omega | (simp; omega)) (by first | omega | (simp; omega)) ?_; intro s95 w95 a95 h95 F95; clear F94
            have H95 : St w w95 [HP.blk b94 (v.cells) 28, HP.blk b19 (v.cells) 28, HP.own 28 2 s95 ((out ++ [v]).length) (rows Mrk.cells (out ++ [v])), HP.blk b1 (v.cells) 28] := by rw [rows_snoc, List.length_append]; exact h95
            clear h95
            refine s_val wkP F95 rfl rfl rfl rfl (y_assign F95 rfl rfl) ?_; intro a96 F96; clear F95
            refine wpList_nil ?_
            refine c_blkN ?_
            refine c_then ?_
            refine r_lit ?_
            refine s_val wkP F96 rfl rfl rfl rfl (y_move F96 rfl rfl) ?_; intro a97 F97; clear F96
            refine s_val wkP F97 rfl rfl rfl rfl (y_add F97 rfl rfl rfl (r := (((k : Nat) : Int)) + (1)) (wrap_i64 (by omega) (by omega) (by omega))) ?_; intro a98 F98; clear F97
            refine s_val wkP F98 rfl rfl rfl rfl (y_assign F98 rfl rfl) ?_; intro a99 F99; clear F98
            refine wpList_nil ?_
            refine c_then ?_
            exact ⟨(k + 1, (out ++ [v]), true, s95), ⟨F99.cut _ ⟨rfl, rfl, rfl, rfl, rfl, rfl, trivial⟩, H95.pick [2, 3] (by decide) rfl, by omega, by simp; omega, by first | (exfalso; omega) | (rw [raddSt_succ v mx, hst]; simp_all [raddStep]; try (intros; omega))⟩, by first | omega | (dsimp only; omega)⟩
          · skip
            refine wp_skip ?_
            refine c_then ?_
            refine r_lit ?_
            refine s_val wkP F88 rfl rfl rfl rfl (y_move F88 rfl rfl) ?_; intro a100 F100; clear F88
            refine s_val wkP F100 rfl rfl rfl rfl (y_loadA F100 aggMark rfl rfl ((H20.blk 0 rfl).row) (Mrk.len_cells hx)) ?_; intro a101 F101; clear F100
            refine s_build1 wkP F101 rfl rfl rfl aggMark elemMark rfl rfl (Mrk.len_cells hx) (by decide) H20 ?_; intro b102 w102 a102 H102 F102; clear F101
            refine s_append wkP F102 rfl rfl rfl rfl H102 2 rfl rfl elemMark rfl (.inr (.inr ⟨_, _, _, rfl, Nat.le_refl _, (H102.blk 0 rfl).row⟩)) (by rw [Nat.one_mul]; exact Mrk.len_cells hx) (Mrk.flat x) (by unfold maxLen; first | omega | (simp; omega)) (by first | omega | (simp; omega)) ?_; intro s103 w103 a103 h103 F103; clear F102
            have H103 : St w w103 [HP.blk b102 (x.cells) 28, HP.blk b19 (x.cells) 28, HP.own 28 2 s103 ((out ++ [x]).length) (rows Mrk.cells (out ++ [x])), HP.blk b1 (v.cells) 28] := by rw [rows_snoc, List.length_append]; exact h103
            clear h103
            refine s_val wkP F103 rfl rfl rfl rfl (y_assign F103 rfl rfl) ?_; intro a104 F104; clear F103
            refine wpList_nil ?_
            refine c_blkN ?_
            refine c_then ?_
            refine r_lit ?_
            refine s_val wkP F104 rfl rfl rfl rfl (y_move F104 rfl rfl) ?_; intro a105 F105; clear F104
            refine s_val wkP F105 rfl rfl rfl rfl (y_add F105 rfl rfl rfl (r := (((k : Nat) : Int)) + (1)) (wrap_i64 (by omega) (by omega) (by omega))) ?_; intro a106 F106; clear F105
            refine s_val wkP F106 rfl rfl rfl rfl (y_assign F106 rfl rfl) ?_; intro a107 F107; clear F106
            refine wpList_nil ?_
            refine c_then ?_
            exact ⟨(k + 1, (out ++ [x]), true, s103), ⟨F107.cut _ ⟨rfl, rfl, rfl, rfl, rfl, rfl, trivial⟩, H103.pick [2, 3] (by decide) rfl, by omega, by simp; omega, by first | (exfalso; omega) | (rw [raddSt_succ v mx, hst]; simp_all [raddStep]; try (intros; omega))⟩, by first | omega | (dsimp only; omega)⟩
        · skip
          refine wp_skip ?_
          refine c_then ?_
          refine r_lit ?_
          refine s_val wkP F81 rfl rfl rfl rfl (y_move F81 rfl rfl) ?_; intro a108 F108; clear F81
          refine s_val wkP F108 rfl rfl rfl rfl (y_loadA F108 aggMark rfl rfl ((H20.blk 0 rfl).row) (Mrk.len_cells hx)) ?_; intro a109 F109; clear F108
          refine s_build1 wkP F109 rfl rfl rfl aggMark elemMark rfl rfl (Mrk.len_cells hx) (by decide) H20 ?_; intro b110 w110 a110 H110 F110; clear F109
          refine s_append wkP F110 rfl rfl rfl rfl H110 2 rfl rfl elemMark rfl (.inr (.inr ⟨_, _, _, rfl, Nat.le_refl _, (H110.blk 0 rfl).row⟩)) (by rw [Nat.one_mul]; exact Mrk.len_cells hx) (Mrk.flat x) (by unfold maxLen; first | omega | (simp; omega)) (by first | omega | (simp; omega)) ?_; intro s111 w111 a111 h111 F111; clear F110
          have H111 : St w w111 [HP.blk b110 (x.cells) 28, HP.blk b19 (x.cells) 28, HP.own 28 2 s111 ((out ++ [x]).length) (rows Mrk.cells (out ++ [x])), HP.blk b1 (v.cells) 28] := by rw [rows_snoc, List.length_append]; exact h111
          clear h111
          refine s_val wkP F111 rfl rfl rfl rfl (y_assign F111 rfl rfl) ?_; intro a112 F112; clear F111
          refine wpList_nil ?_
          refine c_blkN ?_
          refine c_then ?_
          refine r_lit ?_
          refine s_val wkP F112 rfl rfl rfl rfl (y_move F112 rfl rfl) ?_; intro a113 F113; clear F112
          refine s_val wkP F113 rfl rfl rfl rfl (y_add F113 rfl rfl rfl (r := (((k : Nat) : Int)) + (1)) (wrap_i64 (by omega) (by omega) (by omega))) ?_; intro a114 F114; clear F113
          refine s_val wkP F114 rfl rfl rfl rfl (y_assign F114 rfl rfl) ?_; intro a115 F115; clear F114
          refine wpList_nil ?_
          refine c_then ?_
          exact ⟨(k + 1, (out ++ [x]), (put), s111), ⟨F115.cut _ ⟨rfl, rfl, rfl, rfl, rfl, rfl, trivial⟩, H111.pick [2, 3] (by decide) rfl, by omega, by simp; omega, by first | (exfalso; omega) | (rw [raddSt_succ v mx, hst]; simp_all [raddStep]; try (intros; omega))⟩, by first | omega | (dsimp only; omega)⟩
    · clear F23
      refine g_off wkP F24 rfl rfl rfl rfl rfl rfl rfl ?_; intro a116 F116; clear F24
      refine g_off wkP F116 rfl rfl rfl rfl rfl rfl rfl ?_; intro a117 F117; clear F116
      refine g_off wkP F117 rfl rfl rfl rfl rfl rfl rfl ?_; intro a118 F118; clear F117
      refine g_off wkP F118 rfl rfl rfl rfl rfl rfl rfl ?_; intro a119 F119; clear F118
      refine g_off wkP F119 rfl rfl rfl rfl rfl rfl rfl ?_; intro a120 F120; clear F119
      refine s_val wkP F120 rfl rfl rfl rfl (y_pickF F120 rfl rfl rfl) ?_; intro a121 F121; clear F120
      refine wpList_nil ?_
      refine c_then ?_
      refine x_condF F121 rfl ?_
      refine wp_skip ?_
      refine c_then ?_
      refine wp_seq ?_
      refine wp_seq ?_
      refine r_lit ?_
      refine s_val wkP F121 rfl rfl rfl rfl (y_fieldAddr F121 mfld0 rfl rfl) ?_; intro a123 F123; clear F121
      refine s_val wkP F123 rfl rfl rfl rfl (y_load1 F123 plInt rfl rfl (((H20.blk 0 rfl).cell _).trans rfl)) ?_; intro a124 F124; clear F123
      refine s_val wkP F124 rfl rfl rfl rfl (y_fieldAddr F124 mfld0 rfl rfl) ?_; intro a125 F125; clear F124
      refine s_val wkP F125 rfl rfl rfl rfl (y_load1 F125 plInt rfl rfl (((H20.blk 2 rfl).cell _).trans rfl)) ?_; intro a126 F126; clear F125
      refine s_val wkP F126 rfl rfl rfl rfl (y_eql F126 rfl rfl rfl) ?_; intro a127 F127; clear F126
      refine wpList_nil ?_
      refine c_then ?_
      refine x_condP F127 rfl (fun heq => ?_) (fun heq => ?_)
      · skip
        refine wp_seq ?_
        refine r_lit ?_
        refine s_val wkP F127 rfl rfl rfl rfl (y_assign F127 rfl rfl) ?_; intro a129 F129; clear F127
        refine wpList_nil ?_
        refine c_then ?_
        refine wp_seq ?_
        refine r_lit ?_
        refine s_val wkP F129 rfl rfl rfl rfl (y_fieldAddr F129 mfld1 rfl rfl) ?_; intro a130 F130; clear F129
        refine s_val wkP F130 rfl rfl rfl rfl (y_load1 F130 plU64 rfl rfl (((H20.blk 2 rfl).cell _).trans rfl)) ?_; intro a131 F131; clear F130
        refine s_val wkP F131 rfl rfl rfl rfl (y_fieldAddr F131 mfld1 rfl rfl) ?_; intro a132 F132; clear F131
        refine s_val wkP F132 rfl rfl rfl rfl (y_load1 F132 plU64 rfl rfl (((H20.blk 0 rfl).cell _).trans rfl)) ?_; intro a133 F133; clear F132
        refine s_val wkP F133 rfl rfl rfl rfl (y_gtr F133 rfl rfl rfl) ?_; intro a134 F134; clear F133
        refine wpList_nil ?_
        refine c_then ?_
        refine x_condP F134 rfl (fun hvw => ?_) (fun hvw => ?_)
        · skip
          refine r_lit ?_
          refine s_val wkP F134 rfl rfl rfl rfl (y_loadA F134 aggMark rfl rfl ((H20.blk 2 rfl).row) (Mrk.len_cells hv)) ?_; intro a136 F136; clear F134
          refine s_storeA wkP F136 rfl rfl aggMark rfl rfl rfl H20 0 rfl (Mrk.len_cells hv) (Mrk.len_cells hx) (Mrk.flat v) ?_; intro w137 h137
          have H137 : St w w137 [HP.blk b19 (v.cells) 28, HP.own 28 2 s (out.length) (rows Mrk.cells out), HP.blk b1 (v.cells) 28] := h137
          clear h137
          refine wpList_nil ?_
          refine c_then ?_
          refine r_lit ?_
          refine s_val wkP F136 rfl rfl rfl rfl (y_move F136 rfl rfl) ?_; intro a138 F138; clear F136
          refine s_val wkP F138 rfl rfl rfl rfl (y_loadA F138 aggMark rfl rfl ((H137.blk 0 rfl).row) (Mrk.len_cells hv)) ?_; intro a139 F139; clear F138
          refine s_build1 wkP F139 rfl rfl rfl aggMark elemMark rfl rfl (Mrk.len_cells hv) (by decide) H137 ?_; intro b140 w140 a140 H140 F140; clear F139
          refine s_append wkP F140 rfl rfl rfl rfl H140 2 rfl rfl elemMark rfl (.inr (.inr ⟨_, _, _, rfl, Nat.le_refl _, (H140.blk 0 rfl).row⟩)) (by rw [Nat.one_mul]; exact Mrk.len_cells hv) (Mrk.flat v) (by unfold maxLen; first | omega | (simp; omega)) (by first | omega | (simp; omega)) ?_; intro s141 w141 a141 h141 F141; clear F140
          have H141 : St w w141 [HP.blk b140 (v.cells) 28, HP.blk b19 (v.cells) 28, HP.own 28 2 s141 ((out ++ [v]).length) (rows Mrk.cells (out ++ [v])), HP.blk b1 (v.cells) 28] := by rw [rows_snoc, List.length_append]; exact h141
          clear h141
          refine s_val wkP F141 rfl rfl rfl rfl (y_assign F141 rfl rfl) ?_; intro a142 F142; clear F141
          refine wpList_nil ?_
          refine c_blkN ?_
          refine c_then ?_
          refine r_lit ?_
          refine s_val wkP F142 rfl rfl rfl rfl (y_move F142 rfl rfl) ?_; intro a143 F143; clear F142
          refine s_val wkP F143 rfl rfl rfl rfl (y_add F143 rfl rfl rfl (r := (((k : Nat) : Int)) + (1)) (wrap_i64 (by omega) (by omega) (by omega))) ?_; intro a144 F144; clear F143
          refine s_val wkP F144 rfl rfl rfl rfl (y_assign F144 rfl rfl) ?_; intro a145 F145; clear F144
          refine wpList_nil ?_
          refine c_then ?_
          exact ⟨(k + 1, (out ++ [v]), true, s141), ⟨F145.cut _ ⟨rfl, rfl, rfl, rfl, rfl, rfl, trivial⟩, H141.pick [2, 3] (by decide) rfl, by omega, by simp; omega, by first | (exfalso; omega) | (rw [raddSt_succ v mx, hst]; simp_all [raddStep]; try (intros; omega))⟩, by first | omega | (dsimp only; omega)⟩
        · skip
          refine wp_skip ?_
          refine c_then ?_
          refine r_lit ?_
          refine s_val wkP F134 rfl rfl rfl rfl (y_move F134 rfl rfl) ?_; intro a146 F146; clear F134
          refine s_val wkP F146 rfl rfl rfl rfl (y_loadA F146 aggMark rfl rfl ((H20.blk 0 rfl).row) (Mrk.len_cells hx)) ?_; intro a147 F147; clear F146
          refine s_build1 wkP F147 rfl rfl rfl aggMark elemMark rfl rfl (Mrk.len_cells hx) (by decide) H20 ?_; intro b148 w148 a148 H148 F148; clear F147
          refine s_append wkP F148 rfl rfl rfl rfl H148 2 rfl rfl elemMark rfl (.inr (.inr ⟨_, _, _, rfl, Nat.le_refl _, (H148.blk 0 rfl).row⟩)) (by rw [Nat.one_mul]; exact Mrk.len_cells hx) (Mrk.flat x) (by unfold maxLen; first | omega | (simp; omega)) (by first | omega | (simp; omega)) ?_; intro s149 w149 a149 h149 F149; clear F148
          have H149 : St w w149 [HP.blk b148 (x.cells) 28, HP.blk b19 (x.cells) 28, HP.own 28 2 s149 ((out ++ [x]).length) (rows Mrk.cells (out ++ [x])), HP.blk b1 (v.cells) 28] := by rw [rows_snoc, List.length_append]; exact h149
          clear h149
          refine s_val wkP F149 rfl rfl rfl rfl (y_assign F149 rfl rfl) ?_; intro a150 F150; clear F149
          refine wpList_nil ?_
          refine c_blkN ?_
          refine c_then ?_
          refine r_lit ?_
          refine s_val wkP F150 rfl rfl rfl rfl (y_move F150 rfl rfl) ?_; intro a151 F151; clear F150
          refine s_val wkP F151 rfl rfl rfl rfl (y_add F151 rfl rfl rfl (r := (((k : Nat) : Int)) + (1)) (wrap_i64 (by omega) (by omega) (by omega))) ?_; intro a152 F152; clear F151
          refine s_val wkP F152 rfl rfl rfl rfl (y_assign F152 rfl rfl) ?_; intro a153 F153; clear F152
          refine wpList_nil ?_
          refine c_then ?_
          exact ⟨(k + 1, (out ++ [x]), true, s149), ⟨F153.cut _ ⟨rfl, rfl, rfl, rfl, rfl, rfl, trivial⟩, H149.pick [2, 3] (by decide) rfl, by omega, by simp; omega, by first | (exfalso; omega) | (rw [raddSt_succ v mx, hst]; simp_all [raddStep]; try (intros; omega))⟩, by first | omega | (dsimp only; omega)⟩
      · skip
        refine wp_skip ?_
        refine c_then ?_
        refine r_lit ?_
        refine s_val wkP F127 rfl rfl rfl rfl (y_move F127 rfl rfl) ?_; intro a154 F154; clear F127
        refine s_val wkP F154 rfl rfl rfl rfl (y_loadA F154 aggMark rfl rfl ((H20.blk 0 rfl).row) (Mrk.len_cells hx)) ?_; intro a155 F155; clear F154
        refine s_build1 wkP F155 rfl rfl rfl aggMark elemMark rfl rfl (Mrk.len_cells hx) (by decide) H20 ?_; intro b156 w156 a156 H156 F156; clear F155
        refine s_append wkP F156 rfl rfl rfl rfl H156 2 rfl rfl elemMark rfl (.inr (.inr ⟨_, _, _, rfl, Nat.le_refl _, (H156.blk 0 rfl).row⟩)) (by rw [Nat.one_mul]; exact Mrk.len_cells hx) (Mrk.flat x) (by unfold maxLen; first | omega | (simp; omega)) (by first | omega | (simp; omega)) ?_; intro s157 w157 a157 h157 F157; clear F156
        have H157 : St w w157 [HP.blk b156 (x.cells) 28, HP.blk b19 (x.cells) 28, HP.own 28 2 s157 ((out ++ [x]).length) (rows Mrk.cells (out ++ [x])), HP.blk b1 (v.cells) 28] := by rw [rows_snoc, List.length_append]; exact h157
        clear h157
        refine s_val wkP F157 rfl rfl rfl rfl (y_assign F157 rfl rfl) ?_; intro a158 F158; clear F157
        refine wpList_nil ?_
        refine c_blkN ?_
        refine c_then ?_
        refine r_lit ?_
        refine s_val wkP F158 rfl rfl rfl rfl (y_move F158 rfl rfl) ?_; intro a159 F159; clear F158
        refine s_val wkP F159 rfl rfl rfl rfl (y_add F159 rfl rfl rfl (r := (((k : Nat) : Int)) + (1)) (wrap_i64 (by omega) (by omega) (by omega))) ?_; intro a160 F160; clear F159
        refine s_val wkP F160 rfl rfl rfl rfl (y_assign F160 rfl rfl) ?_; intro a161 F161; clear F160
        refine wpList_nil ?_
        refine c_then ?_
        exact ⟨(k + 1, (out ++ [x]), (put), s157), ⟨F161.cut _ ⟨rfl, rfl, rfl, rfl, rfl, rfl, trivial⟩, H157.pick [2, 3] (by decide) rfl, by omega, by simp; omega, by first | (exfalso; omega) | (rw [raddSt_succ v mx, hst]; simp_all [raddStep]; try (intros; omega))⟩, by first | omega | (dsimp only; omega)⟩
  · skip
    refine wp_exit ?_
    refine c_thenX ?_
    refine c_thenX ?_
    refine c_hit ?_
    refine c_then ?_
    refine wp_seq ?_
    refine wp_seq ?_
    refine r_lit ?_
    refine s_val wkP F11 rfl rfl rfl rfl (y_move F11 rfl rfl) ?_; intro a162 F162; clear F11
    refine s_val wkP F162 rfl rfl rfl rfl (y_not F162 rfl rfl) ?_; intro a163 F163; clear F162
    refine wpList_nil ?_
    refine c_then ?_
    refine x_cond F163 rfl (fun hfin => ?_) (fun hfin => ?_)
    · skip
      refine r_lit ?_
      refine s_val wkP F163 rfl rfl rfl rfl (y_move F163 rfl rfl) ?_; intro a165 F165; clear F163
      refine s_val wkP F165 rfl rfl rfl rfl (y_loadA F165 aggMark rfl rfl ((H7.blk 1 rfl).row) (Mrk.len_cells hv)) ?_; intro a166 F166; clear F165
      refine s_build1 wkP F166 rfl rfl rfl aggMark elemMark rfl rfl (Mrk.len_cells hv) (by decide) H7 ?_; intro b167 w167 a167 H167 F167; clear F166
      refine s_append wkP F167 rfl rfl rfl rfl H167 1 rfl rfl elemMark rfl (.inr (.inr ⟨_, _, _, rfl, Nat.le_refl _, (H167.blk 0 rfl).row⟩)) (by rw [Nat.one_mul]; exact Mrk.len_cells hv) (Mrk.flat v) (by unfold maxLen; first | omega | (simp; omega)) (by first | omega | (simp; omega)) ?_; intro s168 w168 a168 h168 F168; clear F167
      have H168 : St w w168 [HP.blk b167 (v.cells) 28, HP.own 28 2 s168 ((out ++ [v]).length) (rows Mrk.cells (out ++ [v])), HP.blk b1 (v.cells) 28] := by rw [rows_snoc, List.length_append]; exact h168
      clear h168
      refine s_val wkP F168 rfl rfl rfl rfl (y_assign F168 rfl rfl) ?_; intro a169 F169; clear F168
      refine wpList_nil ?_
      refine c_then ?_
      refine wp_seq ?_
      refine r_lit ?_
      refine s_val wkP F169 rfl rfl rfl rfl (y_move F169 rfl rfl) ?_; intro a170 F170; clear F169
      refine s_val wkP F170 rfl rfl rfl rfl (y_assign F170 rfl rfl) ?_; intro a171 F171; clear F170
      refine wpList_nil ?_
      refine c_then ?_
      refine wp_ret ?_
      refine x_ret1 F171 rfl rfl ?_
      refine ⟨_, rfl, ?_⟩
      rw [List.take_of_length_le (by omega)] at hst
      have e : raddM xs v = (out ++ [v]) := by simp_all [raddM]
      rw [e]
      exact H168.pick [1] (by decide) rfl
    · skip
      refine wp_skip ?_
      refine c_then ?_
      refine wp_seq ?_
      refine r_lit ?_
      refine s_val wkP F163 rfl rfl rfl rfl (y_move F163 rfl rfl) ?_; intro a172 F172; clear F163
      refine s_val wkP F172 rfl rfl rfl rfl (y_assign F172 rfl rfl) ?_; intro a173 F173; clear F172
      refine wpList_nil ?_
      refine c_then ?_
      refine wp_ret ?_
      refine x_ret1 F173 rfl rfl ?_
      refine ⟨_, rfl, ?_⟩
      rw [List.take_of_length_le (by omega)] at hst
      have e : raddM xs v = out := by simp_all [raddM]
      rw [e]
      exact H7.pick [0] (by decide) rfl
theorem radd (xs : List Mrk) (hw : ∀ x ∈ xs, x.wf) (hn : xs.length ≤ 1000) (s : Value) (v : Mrk) (hv : v.wf) (w : World) (hs : Sl w s xs.length (rows Mrk.cells xs)) :
    Calls Try.prog 13 [s, .agg v.cells.toArray].toArray w fun e w' => ∃ r, e = .returned r ∧ St w w' [HP.own 28 2 r (raddM xs v).length (rows Mrk.cells (raddM xs v))] := by
  obtain ⟨p, cp, rfl, hp⟩ := hs.form
  exact radd_core xs hw hn p cp v hv w hp
theorem ent13 : ∀ args w, (callFunc 13 args).run Try.prog w = .ok (.enter 13 args) w := enters Try.func13 (by kernel_rfl) rfl
end Go.Proofs.Ytchcoenpnmgnhaa
