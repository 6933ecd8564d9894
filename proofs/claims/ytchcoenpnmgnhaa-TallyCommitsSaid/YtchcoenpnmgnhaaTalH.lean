/- marks, speaks. -/
import Derived.Test.YtchcoenpnmgnhaaTalG
set_option linter.unusedSimpArgs false
set_option linter.unusedVariables false
namespace Go.Proofs.Ytchcoenpnmgnhaa
open Go.ChangeShapes Go.WideShapes Go.ChangeAt Go.RowKit Go.Tri
set_option maxRecDepth 100000 in
set_option maxHeartbeats 2000000 in
theorem marks_core (gs : List Int) (hgb : ∀ g ∈ gs, 0 ≤ g ∧ g ≤ 18446744073709551615) (hgl : gs.length ≤ 1000) (p : Option Addr) (cp : Nat) (w : World) (hp : 0 < gs.length → ∃ b off, p = some ⟨b, off, none⟩ ∧ Row w b off (rows (inC .u64) gs)) :
    Calls Try.prog 14 [.slice p gs.length cp].toArray w (fun e w' => ∃ r, e = .returned r ∧ St w w' [HP.own 28 2 r (marksL gs).length (rows Mrk.cells (marksL gs))]) := by
  refine x_enter Try.func14 rfl rfl rfl ?_
  intro a0 F0
  replace F0 : Fr ⟨22, []⟩ a0 [(0, .slice p gs.length cp)] := F0
  have H0 := St.nil w
  refine wp_seq ?_
  refine r_lit ?_
  refine s_val wkP F0 rfl rfl rfl rfl (y_assign F0 rfl rfl) ?_; intro a1 F1; clear F0
  refine wpList_nil ?_
  refine c_then ?_
  refine wp_seq ?_
  refine r_lit ?_
  refine s_build0 wkP F1 rfl rfl rfl elemMark rfl H0 ?_; intro s2 w2 a2 H2 F2; clear F1
  refine s_val wkP F2 rfl rfl rfl rfl (y_assign F2 rfl rfl) ?_; intro a3 F3; clear F2
  refine wpList_nil ?_
  refine c_then ?_
  refine wp_seq ?_
  refine wp_seq ?_
  refine r_lit ?_
  refine s_val wkP F3 rfl rfl rfl rfl (y_move F3 rfl rfl) ?_; intro a4 F4; clear F3
  refine s_val wkP F4 rfl rfl rfl rfl (y_lenS F4 rfl Try.underlying33 rfl) ?_; intro a5 F5; clear F4
  refine s_val wkP F5 rfl rfl rfl rfl (y_move F5 rfl rfl) ?_; intro a6 F6; clear F5
  refine wpList_nil ?_
  refine c_then ?_
  refine wp_block ?_
  refine x_loop (G := Nat × Value) (fun gg aa ww => match gg with | (k, s) => Fr ⟨22, []⟩ aa [(2, .slice none 0 0), (7, .slice p gs.length cp), (8, .int .i64 (((gs.length : Nat) : Int))), (3, s), (9, .int .i64 (((k : Nat) : Int)))] ∧ St w ww [HP.own 28 2 s ((marksL (gs.take k)).length) (rows Mrk.cells (marksL (gs.take k)))] ∧ (k ≤ gs.length)) (fun gg => match gg with | (k, s) => gs.length - k) (0, s2) ⟨F6.cut _ ⟨rfl, rfl, rfl, rfl, rfl, trivial⟩, H2, Nat.zero_le _⟩ ?_
  clear F6
  rintro ⟨k, s⟩ a7 w7 ⟨F7, H7, hk⟩
  refine wp_seq ?_
  refine r_lit ?_
  refine s_val wkP F7 rfl rfl rfl rfl (y_lss F7 rfl rfl rfl) ?_; intro a8 F8; clear F7
  refine wpList_nil ?_
  refine c_then ?_
  refine wp_seq ?_
  refine x_condP F8 rfl (fun hlt => ?_) (fun hlt => ?_)
  · skip
    refine wp_skip ?_
    refine c_then ?_
    refine wp_seq ?_
    refine wp_block ?_
    refine wp_seq ?_
    have hmk : (marksL (gs.take k)).length = k := by rw [marksL_len, List.length_take]; omega
    refine r_lit ?_
    refine s_val wkP F8 rfl rfl rfl rfl (y_move F8 rfl rfl) ?_; intro a10 F10; clear F8
    obtain ⟨bb11, of11, hpe11, hrow11⟩ := hp (by omega)
    obtain ⟨x, mx⟩ : ∃ x, (gs)[k]? = some x := ⟨_, List.getElem?_eq_getElem (by first | omega | (simp only [List.length_set]; omega))⟩
    refine s_val wkP F10 rfl rfl rfl rfl (y_indexP F10 elemU64 rfl rfl rfl hpe11 (by omega)) ?_; intro a13 F13; clear F10
    refine s_val wkP F13 rfl rfl rfl rfl (y_load1 F13 plU64 rfl rfl (Row.elem (inC_len .u64) (hrow11.st H7) (fun _ _ => trivial) mx 0 _ rfl)) ?_; intro a14 F14; clear F13
    refine s_val wkP F14 rfl rfl rfl rfl (y_assign F14 rfl rfl) ?_; intro a15 F15; clear F14
    refine s_val wkP F15 rfl rfl rfl rfl (y_assign F15 rfl rfl) ?_; intro a16 F16; clear F15
    refine wpList_nil ?_
    refine c_then ?_
    have hxb := hgb x (List.mem_of_getElem? mx)
    refine r_lit ?_
    refine s_val wkP F16 rfl rfl rfl rfl (y_move F16 rfl rfl) ?_; intro a17 F17; clear F16
    refine s_val wkP F17 rfl rfl rfl rfl (y_move F17 rfl rfl) ?_; intro a18 F18; clear F17
    refine s_val wkP F18 rfl rfl rfl rfl (y_move F18 rfl rfl) ?_; intro a19 F19; clear F18
    obtain ⟨y, eqy⟩ : ∃ qq, qq = Mrk.mk (((k : Nat) : Int)) (x) := ⟨_, rfl⟩
    have hy : y.wf := by rw [eqy]; exact mrk_wf (by omega) (by omega) (by omega) (by omega)
    refine s_val wkP F19 rfl rfl rfl rfl (y_build F19 rfl rfl (cs := y.cells) (by rw [eqy]; kernel_rfl)) ?_; intro a21 F21; clear F19
    refine s_build1 wkP F21 rfl rfl rfl aggMark elemMark rfl rfl (Mrk.len_cells hy) (by decide) H7 ?_; intro b22 w22 a22 H22 F22; clear F21
    refine s_append wkP F22 rfl rfl rfl rfl H22 1 rfl rfl elemMark rfl (.inr (.inr ⟨_, _, _, rfl, Nat.le_refl _, (H22.blk 0 rfl).row⟩)) (by rw [Nat.one_mul]; exact Mrk.len_cells hy) (Mrk.flat y) (by unfold maxLen; first | omega | (simp; omega)) (by first | omega | (simp; omega)) ?_; intro s23 w23 a23 h23 F23; clear F22
    have H23 : St w w23 [HP.blk b22 (y.cells) 28, HP.own 28 2 s23 (((marksL (gs.take k)) ++ [y]).length) (rows Mrk.cells ((marksL (gs.take k)) ++ [y]))] := by rw [rows_snoc, List.length_append]; exact h23
    clear h23
    refine s_val wkP F23 rfl rfl rfl rfl (y_assign F23 rfl rfl) ?_; intro a24 F24; clear F23
    refine wpList_nil ?_
    refine c_blkN ?_
    refine c_then ?_
    refine r_lit ?_
    refine s_val wkP F24 rfl rfl rfl rfl (y_add F24 rfl rfl rfl (r := (((k : Nat) : Int)) + (1)) (wrap_i64 (by omega) (by omega) (by omega))) ?_; intro a25 F25; clear F24
    refine s_val wkP F25 rfl rfl rfl rfl (y_move F25 rfl rfl) ?_; intro a26 F26; clear F25
    refine wpList_nil ?_
    refine c_then ?_
    exact ⟨(k + 1, s23), ⟨F26.cut _ ⟨rfl, rfl, rfl, rfl, rfl, trivial⟩, (by have hp : St w w23 [HP.own 28 2 s23 (((marksL (gs.take k)) ++ [y]).length) (rows Mrk.cells ((marksL (gs.take k)) ++ [y]))] := H23.pick [1] (by decide) rfl; rw [eqy, ← marksL_succ mx] at hp; exact hp), by omega⟩, by first | omega | (dsimp only; omega)⟩
  · skip
    refine wp_exit ?_
    refine c_thenX ?_
    refine c_thenX ?_
    refine c_hit ?_
    refine c_then ?_
    refine wp_seq ?_
    refine r_lit ?_
    refine s_val wkP F8 rfl rfl rfl rfl (y_move F8 rfl rfl) ?_; intro a27 F27; clear F8
    refine s_val wkP F27 rfl rfl rfl rfl (y_assign F27 rfl rfl) ?_; intro a28 F28; clear F27
    refine wpList_nil ?_
    refine c_then ?_
    refine wp_ret ?_
    refine x_ret1 F28 rfl rfl ?_
    obtain rfl : k = gs.length := by omega
    have h := H7
    rw [List.take_length] at h
    exact ⟨_, rfl, h⟩
theorem marks (gs : List Int) (hgb : ∀ g ∈ gs, 0 ≤ g ∧ g ≤ 18446744073709551615) (hgl : gs.length ≤ 1000) (s : Value) (w : World) (hs : Sl w s gs.length (rows (inC .u64) gs)) :
    Calls Try.prog 14 [s].toArray w (fun e w' => ∃ r, e = .returned r ∧ St w w' [HP.own 28 2 r (marksL gs).length (rows Mrk.cells (marksL gs))]) := by
  obtain ⟨p, cp, rfl, hp⟩ := hs.form
  exact marks_core gs hgb hgl p cp w hp
theorem ent14 : ∀ args w, (callFunc 14 args).run Try.prog w = .ok (.enter 14 args) w := enters Try.func14 (by kernel_rfl) rfl
set_option maxRecDepth 100000 in
set_option maxHeartbeats 2000000 in
theorem speaks (w : World) :
    Calls Try.prog 8 [].toArray w (fun e w' => e = .returned (.bool true) ∧ St w w' []) := by
  refine x_enter Try.func8 rfl rfl rfl ?_
  intro a0 F0
  replace F0 : Fr ⟨17, []⟩ a0 [] := F0
  have H0 := St.nil w
  refine wp_seq ?_
  refine r_lit ?_
  refine s_val wkP F0 rfl rfl rfl rfl (y_assign F0 rfl rfl) ?_; intro a1 F1; clear F0
  refine wpList_nil ?_
  refine c_then ?_
  refine wp_seq ?_
  refine r_lit ?_
  refine s_buildC wkP F1 rfl rfl rfl elemU64 z1U64 rfl rfl rfl rfl (by simp [Value.cells]) (by decide) H0 ?_; intro b2 w2 a2 H2 F2; clear F1
  refine s_call wkP F2 rfl rfl rfl rfl (y_call F2 rfl rfl ent14) (marks [5, 3, 9] (by decide) (by decide) _ _ (.inr (.inr ⟨_, _, _, rfl, Nat.le_refl _, (H2.blk 0 rfl).row⟩))) ?_; intro r1 w3 a3 hR3 F3; clear F2
  have H3 : St w w3 [HP.own 28 2 r1 ((marksL [5, 3, 9]).length) (rows Mrk.cells (marksL [5, 3, 9])), HP.blk b2 ([.int .u64 (5), .int .u64 (3), .int .u64 (9)]) 24] := H2.call hR3
  refine s_call wkP F3 rfl rfl rfl rfl (y_call F3 rfl rfl ent9) (commit (marksL [5, 3, 9]) (marksL_wf (by decide) (by decide)) (by decide) 3 (by decide) (by decide) _ _ (H3.sl 0 rfl)) ?_; intro vvr1 w4 a4 hR4 F4; clear F3
  obtain ⟨cr1, rfl, hcr1, hEr1⟩ := hR4
  have H4 : St w w4 [HP.own 28 2 r1 ((marksL [5, 3, 9]).length) (rows Mrk.cells (marksL [5, 3, 9])), HP.blk b2 ([.int .u64 (5), .int .u64 (3), .int .u64 (9)]) 24] := H3.call hEr1
  obtain rfl := com_539_3 hcr1
  refine s_val wkP F4 rfl rfl rfl rfl (y_eql F4 rfl rfl rfl) ?_; intro a5 F5; clear F4
  refine s_val wkP F5 rfl rfl rfl rfl (y_move F5 rfl rfl) ?_; intro a6 F6; clear F5
  refine g_onP F6 rfl rfl rfl rfl ?_
  refine s_buildC wkP F6 rfl rfl rfl elemU64 z1U64 rfl rfl rfl rfl (by simp [Value.cells]) (by decide) H4 ?_; intro b7 w7 a7 H7 F7; clear F6
  refine g_onP F7 rfl rfl rfl rfl ?_
  refine s_call wkP F7 rfl rfl rfl rfl (y_call F7 rfl rfl ent14) (marks [5, 3, 9] (by decide) (by decide) _ _ (.inr (.inr ⟨_, _, _, rfl, Nat.le_refl _, (H7.blk 0 rfl).row⟩))) ?_; intro r2 w8 a8 hR8 F8; clear F7
  have H8 : St w w8 [HP.own 28 2 r2 ((marksL [5, 3, 9]).length) (rows Mrk.cells (marksL [5, 3, 9])), HP.blk b7 ([.int .u64 (5), .int .u64 (3), .int .u64 (9)]) 24, HP.own 28 2 r1 ((marksL [5, 3, 9]).length) (rows Mrk.cells (marksL [5, 3, 9])), HP.blk b2 ([.int .u64 (5), .int .u64 (3), .int .u64 (9)]) 24] := H7.call hR8
  refine g_onP F8 rfl rfl rfl rfl ?_
  refine s_call wkP F8 rfl rfl rfl rfl (y_call F8 rfl rfl ent9) (commit (marksL [5, 3, 9]) (marksL_wf (by decide) (by decide)) (by decide) 5 (by decide) (by decide) _ _ (H8.sl 0 rfl)) ?_; intro vvr2 w9 a9 hR9 F9; clear F8
  obtain ⟨cr2, rfl, hcr2, hEr2⟩ := hR9
  have H9 : St w w9 [HP.own 28 2 r2 ((marksL [5, 3, 9]).length) (rows Mrk.cells (marksL [5, 3, 9])), HP.blk b7 ([.int .u64 (5), .int .u64 (3), .int .u64 (9)]) 24, HP.own 28 2 r1 ((marksL [5, 3, 9]).length) (rows Mrk.cells (marksL [5, 3, 9])), HP.blk b2 ([.int .u64 (5), .int .u64 (3), .int .u64 (9)]) 24] := H8.call hEr2
  obtain rfl := com_539_5 hcr2
  refine g_onP F9 rfl rfl rfl rfl ?_
  refine s_val wkP F9 rfl rfl rfl rfl (y_eql F9 rfl rfl rfl) ?_; intro a10 F10; clear F9
  refine s_val wkP F10 rfl rfl rfl rfl (y_pickT F10 rfl rfl rfl) ?_; intro a11 F11; clear F10
  refine s_val wkP F11 rfl rfl rfl rfl (y_move F11 rfl rfl) ?_; intro a12 F12; clear F11
  refine g_onP F12 rfl rfl rfl rfl ?_
  refine s_buildC wkP F12 rfl rfl rfl elemU64 z1U64 rfl rfl rfl rfl (by simp [Value.cells]) (by decide) H9 ?_; intro b13 w13 a13 H13 F13; clear F12
  refine g_onP F13 rfl rfl rfl rfl ?_
  refine s_call wkP F13 rfl rfl rfl rfl (y_call F13 rfl rfl ent14) (marks [5, 3] (by decide) (by decide) _ _ (.inr (.inr ⟨_, _, _, rfl, Nat.le_refl _, (H13.blk 0 rfl).row⟩))) ?_; intro r3 w14 a14 hR14 F14; clear F13
  have H14 : St w w14 [HP.own 28 2 r3 ((marksL [5, 3]).length) (rows Mrk.cells (marksL [5, 3])), HP.blk b13 ([.int .u64 (5), .int .u64 (3)]) 24, HP.own 28 2 r2 ((marksL [5, 3, 9]).length) (rows Mrk.cells (marksL [5, 3, 9])), HP.blk b7 ([.int .u64 (5), .int .u64 (3), .int .u64 (9)]) 24, HP.own 28 2 r1 ((marksL [5, 3, 9]).length) (rows Mrk.cells (marksL [5, 3, 9])), HP.blk b2 ([.int .u64 (5), .int .u64 (3), .int .u64 (9)]) 24] := H13.call hR14
  refine g_onP F14 rfl rfl rfl rfl ?_
  refine s_call wkP F14 rfl rfl rfl rfl (y_call F14 rfl rfl ent9) (commit (marksL [5, 3]) (marksL_wf (by decide) (by decide)) (by decide) 5 (by decide) (by decide) _ _ (H14.sl 0 rfl)) ?_; intro vvr3 w15 a15 hR15 F15; clear F14
  obtain ⟨cr3, rfl, hcr3, hEr3⟩ := hR15
  have H15 : St w w15 [HP.own 28 2 r3 ((marksL [5, 3]).length) (rows Mrk.cells (marksL [5, 3])), HP.blk b13 ([.int .u64 (5), .int .u64 (3)]) 24, HP.own 28 2 r2 ((marksL [5, 3, 9]).length) (rows Mrk.cells (marksL [5, 3, 9])), HP.blk b7 ([.int .u64 (5), .int .u64 (3), .int .u64 (9)]) 24, HP.own 28 2 r1 ((marksL [5, 3, 9]).length) (rows Mrk.cells (marksL [5, 3, 9])), HP.blk b2 ([.int .u64 (5), .int .u64 (3), .int .u64 (9)]) 24] := H14.call hEr3
  obtain rfl := com_53_5 hcr3
  refine g_onP F15 rfl rfl rfl rfl ?_
  refine s_val wkP F15 rfl rfl rfl rfl (y_eql F15 rfl rfl rfl) ?_; intro a16 F16; clear F15
  refine s_val wkP F16 rfl rfl rfl rfl (y_pickT F16 rfl rfl rfl) ?_; intro a17 F17; clear F16
  refine s_val wkP F17 rfl rfl rfl rfl (y_assign F17 rfl rfl) ?_; intro a18 F18; clear F17
  refine wpList_nil ?_
  refine c_then ?_
  refine wp_ret ?_
  refine x_ret1 F18 rfl rfl ?_
  exact ⟨rfl, H15.drop0⟩
theorem ent8 : ∀ args w, (callFunc 8 args).run Try.prog w = .ok (.enter 8 args) w := enters Try.func8 (by kernel_rfl) rfl
end Go.Proofs.Ytchcoenpnmgnhaa
