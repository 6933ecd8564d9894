/- The law TallyAdds. -/
import Derived.Test.YtchcoenpnmgnhaaTalH
set_option linter.unusedSimpArgs false
set_option linter.unusedVariables false
namespace Go.Proofs.Ytchcoenpnmgnhaa
open Go.ChangeShapes Go.WideShapes Go.ChangeAt Go.RowKit Go.Tri
set_option maxRecDepth 100000 in
set_option maxHeartbeats 2000000 in
theorem lawAdds (xs : List Mrk) (hw : ∀ x ∈ xs, x.wf) (hm : xs.length ≤ 9223372036854775807) (s : Value) (v : Mrk) (hv : v.wf) (w : World) (hs : Sl w s xs.length (rows Mrk.cells xs)) :
    Calls Try.prog 4 [s, .agg v.cells.toArray].toArray w (fun e w' => e = .returned (.bool true) ∧ Below w.heap.size w w') := by
  have hs0 := hs
  obtain ⟨p, cp, rfl, hp⟩ := hs0.form
  refine x_enter Try.func4 rfl rfl rfl ?_
  intro a0 F0
  replace F0 : Fr ⟨46, []⟩ a0 [(0, .slice p xs.length cp), (1, .agg v.cells.toArray)] := F0
  have H0 := St.nil w
  refine wp_seq ?_
  refine r_lit ?_
  refine s_boxA wkP F0 rfl rfl rfl rfl rfl H0 ?_; intro b1 w1 a1 H1 F1; clear F0
  refine s_val wkP F1 rfl rfl rfl rfl (y_assign F1 rfl rfl) ?_; intro a2 F2; clear F1
  refine wpList_nil ?_
  refine c_then ?_
  refine wp_seq ?_
  refine wp_seq ?_
  refine r_lit ?_
  refine s_callV wkP F2 rfl rfl rfl rfl (y_call F2 rfl rfl ent8) (speaks _) ?_; intro w3 a3 hR3 F3; clear F2
  have H3 : St w w3 [HP.blk b1 (v.cells) 28] := H1.call hR3
  refine s_val wkP F3 rfl rfl rfl rfl (y_not F3 rfl rfl) ?_; intro a4 F4; clear F3
  refine wpList_nil ?_
  refine c_then ?_
  refine x_condF F4 rfl ?_
  refine wp_skip ?_
  refine c_then ?_
  refine wp_seq ?_
  refine wp_seq ?_
  refine r_lit ?_
  refine s_val wkP F4 rfl rfl rfl rfl (y_move F4 rfl rfl) ?_; intro a6 F6; clear F4
  refine s_val wkP F6 rfl rfl rfl rfl (y_lenS F6 rfl Try.underlying22 rfl) ?_; intro a7 F7; clear F6
  refine s_val wkP F7 rfl rfl rfl rfl (y_gtr F7 rfl rfl rfl) ?_; intro a8 F8; clear F7
  refine wpList_nil ?_
  refine c_then ?_
  refine x_condP F8 rfl (fun hlen => ?_) (fun hlen => ?_)
  · skip
    refine wp_seq ?_
    refine r_lit ?_
    refine s_val wkP F8 rfl rfl rfl rfl (y_assign F8 rfl rfl) ?_; intro a10 F10; clear F8
    refine wpList_nil ?_
    refine c_then ?_
    refine wp_ret ?_
    refine c_thenR ?_
    refine x_ret1 F10 rfl rfl ?_
    exact ⟨rfl, H3.below⟩
  · skip
    refine wp_skip ?_
    refine c_then ?_
    refine wp_seq ?_
    refine r_lit ?_
    refine s_build0 wkP F8 rfl rfl rfl elemMark rfl H3 ?_; intro s11 w11 a11 H11 F11; clear F8
    refine s_val wkP F11 rfl rfl rfl rfl (y_move F11 rfl rfl) ?_; intro a12 F12; clear F11
    refine s_append wkP F12 rfl rfl rfl rfl H11 0 rfl rfl elemMark rfl (hs.st H11) (rows_len Mrk.len xs hw) (rows_flat Mrk.flat xs) (by unfold maxLen; omega) (by omega) ?_; intro s1 w13 a13 h13 F13; clear F12
    have H13 : St w w13 [HP.own 28 2 s1 (xs.length) (rows Mrk.cells xs), HP.blk b1 (v.cells) 28] := by rw [Nat.zero_add, List.nil_append] at h13; exact h13
    refine s_val wkP F13 rfl rfl rfl rfl (y_assign F13 rfl rfl) ?_; intro a14 F14; clear F13
    refine wpList_nil ?_
    refine c_then ?_
    refine wp_seq ?_
    refine r_lit ?_
    refine s_val wkP F14 rfl rfl rfl rfl (y_move F14 rfl rfl) ?_; intro a15 F15; clear F14
    refine s_val wkP F15 rfl rfl rfl rfl (y_loadA F15 aggMark rfl rfl ((H13.blk 1 rfl).row) (Mrk.len_cells hv)) ?_; intro a16 F16; clear F15
    refine s_call wkP F16 rfl rfl rfl rfl (y_call F16 rfl rfl ent11) (add _ hw (by omega) _ v hv _ (H13.sl 0 rfl)) ?_; intro r w17 a17 hR17 F17; clear F16
    have H17 : St w w17 [HP.own 28 2 r ((addM xs v).length) (rows Mrk.cells (addM xs v)), HP.own 28 2 s1 (xs.length) (rows Mrk.cells xs), HP.blk b1 (v.cells) 28] := H13.call hR17
    refine s_val wkP F17 rfl rfl rfl rfl (y_assign F17 rfl rfl) ?_; intro a18 F18; clear F17
    refine wpList_nil ?_
    refine c_then ?_
    refine wp_seq ?_
    refine wp_seq ?_
    refine r_lit ?_
    refine s_val wkP F18 rfl rfl rfl rfl (y_move F18 rfl rfl) ?_; intro a19 F19; clear F18
    refine s_val wkP F19 rfl rfl rfl rfl (y_move F19 rfl rfl) ?_; intro a20 F20; clear F19
    refine s_callV wkP F20 rfl rfl rfl rfl (y_call F20 rfl rfl ent12) (same xs xs hw hw (by omega) _ _ _ (H17.sl 1 rfl) (hs.st H17)) ?_; intro w21 a21 hR21 F21; clear F20
    have H21 : St w w21 [HP.own 28 2 r ((addM xs v).length) (rows Mrk.cells (addM xs v)), HP.own 28 2 s1 (xs.length) (rows Mrk.cells xs), HP.blk b1 (v.cells) 28] := H17.call hR21
    refine s_val wkP F21 rfl rfl rfl rfl (y_not F21 rfl rfl) ?_; intro a22 F22; clear F21
    refine wpList_nil ?_
    refine c_then ?_
    refine x_condN F22 rfl (fun hsm => ?_) (fun hsm => ?_)
    · skip
      exact absurd rfl hsm
    · skip
      refine wp_skip ?_
      refine c_then ?_
      refine wp_seq ?_
      refine wp_seq ?_
      refine r_lit ?_
      refine s_val wkP F22 rfl rfl rfl rfl (y_assign F22 rfl rfl) ?_; intro a24 F24; clear F22
      refine wpList_nil ?_
      refine c_then ?_
      refine wp_block ?_
      refine x_loop (G := Nat) (fun k aa ww => Fr ⟨46, []⟩ aa [(0, .slice p xs.length cp), (3, .pointer (some ⟨b1, 0, none⟩)), (6, r), (7, .int .i64 (((k : Nat) : Int)))] ∧ St w ww [HP.own 28 2 r ((addM xs v).length) (rows Mrk.cells (addM xs v)), HP.own 28 2 s1 (xs.length) (rows Mrk.cells xs), HP.blk b1 (v.cells) 28] ∧ (1 ≤ k ∧ k ≤ xs.length + 1) ∧ (∀ j x y, j + 1 < k → xs[j]? = some x → xs[j + 1]? = some y → x.node < y.node)) (fun k => xs.length - k) 1 ⟨F24.cut _ ⟨rfl, rfl, rfl, rfl, trivial⟩, H21, by omega, fun j _ _ h => by omega⟩ ?_
      clear F24
      rintro k a25 w25 ⟨F25, H25, hk, hup0⟩
      refine wp_seq ?_
      refine wp_seq ?_
      refine r_lit ?_
      refine s_val wkP F25 rfl rfl rfl rfl (y_move F25 rfl rfl) ?_; intro a26 F26; clear F25
      refine s_val wkP F26 rfl rfl rfl rfl (y_move F26 rfl rfl) ?_; intro a27 F27; clear F26
      refine s_val wkP F27 rfl rfl rfl rfl (y_lenS F27 rfl Try.underlying22 rfl) ?_; intro a28 F28; clear F27
      refine s_val wkP F28 rfl rfl rfl rfl (y_lss F28 rfl rfl rfl) ?_; intro a29 F29; clear F28
      refine wpList_nil ?_
      refine c_then ?_
      refine x_condP F29 rfl (fun hlt => ?_) (fun hlt => ?_)
      · skip
        refine wp_skip ?_
        refine c_then ?_
        refine wp_seq ?_
        refine wp_block ?_
        refine wp_seq ?_
        refine q_region (fun u => St w u [HP.own 28 2 r ((addM xs v).length) (rows Mrk.cells (addM xs v)), HP.own 28 2 s1 (xs.length) (rows Mrk.cells xs), HP.blk b1 (v.cells) 28]) (by kernel_rfl) (by kernel_rfl) H25.drew ?_
        refine q_val F29 rfl rfl rfl (fun u hu => y_move F29 rfl rfl) ?_; intro a31 F31; clear F29
        refine q_val F31 rfl rfl rfl (fun u hu => y_move F31 rfl rfl) ?_; intro a32 F32; clear F31
        refine q_val F32 rfl rfl rfl (fun u hu => y_sub F32 rfl rfl rfl (r := ((k - 1 : Nat) : Int)) (wrap_i64 (by omega) (by omega) (by omega))) ?_; intro a33 F33; clear F32
        obtain ⟨bb34, of34, hpe34, hrow34⟩ := hp (by omega)
        obtain ⟨x, mx⟩ : ∃ x, (xs)[k - 1]? = some x := ⟨_, List.getElem?_eq_getElem (by first | omega | (simp only [List.length_set]; omega))⟩
        have hx := hw x (List.mem_of_getElem? mx)
        refine q_val F33 rfl rfl rfl (fun u hu => y_indexP F33 elemMark rfl rfl rfl hpe34 (by omega)) ?_; intro a36 F36; clear F33
        refine q_val F36 rfl rfl rfl (fun u hu => y_fieldAddr F36 mfld0 rfl rfl) ?_; intro a37 F37; clear F36
        refine q_val F37 rfl rfl rfl (fun u hu => y_load1 F37 plInt rfl rfl (Row.elem Mrk.len (hrow34.st hu) hw mx 0 _ rfl)) ?_; intro a38 F38; clear F37
        refine q_val F38 rfl rfl rfl (fun u hu => y_move F38 rfl rfl) ?_; intro a39 F39; clear F38
        refine q_val F39 rfl rfl rfl (fun u hu => y_move F39 rfl rfl) ?_; intro a40 F40; clear F39
        obtain ⟨y, my⟩ : ∃ x, (xs)[k]? = some x := ⟨_, List.getElem?_eq_getElem (by first | omega | (simp only [List.length_set]; omega))⟩
        have hy := hw y (List.mem_of_getElem? my)
        refine q_val F40 rfl rfl rfl (fun u hu => y_indexP F40 elemMark rfl rfl rfl hpe34 (by omega)) ?_; intro a42 F42; clear F40
        refine q_val F42 rfl rfl rfl (fun u hu => y_fieldAddr F42 mfld0 rfl rfl) ?_; intro a43 F43; clear F42
        refine q_val F43 rfl rfl rfl (fun u hu => y_load1 F43 plInt rfl rfl (Row.elem Mrk.len (hrow34.st hu) hw my 0 _ rfl)) ?_; intro a44 F44; clear F43
        refine q_val F44 rfl rfl rfl (fun u hu => y_geq F44 rfl rfl rfl) ?_; intro a45 F45; clear F44
        refine q_nil ?_; intro w46 H46
        refine c_then ?_
        refine x_condP F45 rfl (fun hge => ?_) (fun hge => ?_)
        · skip
          refine wp_seq ?_
          refine r_lit ?_
          refine s_val wkP F45 rfl rfl rfl rfl (y_assign F45 rfl rfl) ?_; intro a48 F48; clear F45
          refine wpList_nil ?_
          refine c_then ?_
          refine wp_ret ?_
          refine c_blkR ?_
          refine c_thenR ?_
          refine c_thenR ?_
          refine c_blkR ?_
          refine c_thenR ?_
          refine x_ret1 F48 rfl rfl ?_
          exact ⟨rfl, H46.below⟩
        · skip
          refine wp_skip ?_
          refine c_blkN ?_
          refine c_then ?_
          refine r_lit ?_
          refine s_val wkP F45 rfl rfl rfl rfl (y_move F45 rfl rfl) ?_; intro a49 F49; clear F45
          refine s_val wkP F49 rfl rfl rfl rfl (y_add F49 rfl rfl rfl (r := (((k : Nat) : Int)) + (1)) (wrap_i64 (by omega) (by omega) (by omega))) ?_; intro a50 F50; clear F49
          refine s_val wkP F50 rfl rfl rfl rfl (y_assign F50 rfl rfl) ?_; intro a51 F51; clear F50
          refine wpList_nil ?_
          refine c_then ?_
          exact ⟨k + 1, ⟨F51.cut _ ⟨rfl, rfl, rfl, rfl, trivial⟩, H46, by omega, fun j x2 y2 h h2 h3 => by
                        by_cases e : j + 1 = k
                        · subst e
                          rw [show j + 1 - 1 = j by omega, h2] at mx
                          rw [h3] at my
                          cases mx; cases my; omega
                        · exact hup0 j x2 y2 (by omega) h2 h3⟩, by first | omega | (dsimp only; omega)⟩
      · skip
        refine wp_exit ?_
        refine c_thenX ?_
        refine c_thenX ?_
        refine c_hit ?_
        refine c_then ?_
        refine wp_seq ?_
        have hup : Up xs := up_of fun j x y hx hy => hup0 j x y (by have := (List.getElem?_eq_some_iff.1 hy).1; omega) hx hy
        have hsame := adds_same hup v
        refine r_lit ?_
        refine s_val wkP F29 rfl rfl rfl rfl (y_move F29 rfl rfl) ?_; intro a52 F52; clear F29
        refine s_val wkP F52 rfl rfl rfl rfl (y_move F52 rfl rfl) ?_; intro a53 F53; clear F52
        refine s_val wkP F53 rfl rfl rfl rfl (y_loadA F53 aggMark rfl rfl ((H25.blk 2 rfl).row) (Mrk.len_cells hv)) ?_; intro a54 F54; clear F53
        refine s_call wkP F54 rfl rfl rfl rfl (y_call F54 rfl rfl ent13) (radd xs hw (by omega) _ v hv _ (hs.st H25)) ?_; intro q w55 a55 hR55 F55; clear F54
        have H55 : St w w55 [HP.own 28 2 q ((raddM xs v).length) (rows Mrk.cells (raddM xs v)), HP.own 28 2 r ((addM xs v).length) (rows Mrk.cells (addM xs v)), HP.own 28 2 s1 (xs.length) (rows Mrk.cells xs), HP.blk b1 (v.cells) 28] := H25.call hR55
        refine s_callV wkP F55 rfl rfl rfl rfl (y_call F55 rfl rfl ent12) (same (addM xs v) (raddM xs v) (addM_wf hw hv) (by rw [← hsame]; exact addM_wf hw hv) (by have := (addM_len xs v).2; omega) _ _ _ (H55.sl 1 rfl) (H55.sl 0 rfl)) ?_; intro w56 a56 hR56 F56; clear F55
        have H56 : St w w56 [HP.own 28 2 q ((raddM xs v).length) (rows Mrk.cells (raddM xs v)), HP.own 28 2 r ((addM xs v).length) (rows Mrk.cells (addM xs v)), HP.own 28 2 s1 (xs.length) (rows Mrk.cells xs), HP.blk b1 (v.cells) 28] := H55.call hR56
        refine s_val wkP F56 rfl rfl rfl rfl (y_assign F56 rfl rfl) ?_; intro a57 F57; clear F56
        refine wpList_nil ?_
        refine c_then ?_
        refine wp_ret ?_
        refine x_ret1 F57 rfl rfl ?_
        exact ⟨ret_bool (decide_eq_true hsame), H56.below⟩
end Go.Proofs.Ytchcoenpnmgnhaa
