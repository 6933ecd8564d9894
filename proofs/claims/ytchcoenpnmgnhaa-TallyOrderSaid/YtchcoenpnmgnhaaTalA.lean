/- slices.Clone and the search among marks. -/
import Derived.Test.YtchcoenpnmgnhaaMark
set_option linter.unusedSimpArgs false
set_option linter.unusedVariables false
namespace Go.Proofs.Ytchcoenpnmgnhaa
open Go.ChangeShapes Go.WideShapes Go.ChangeAt Go.RowKit Go.Tri
theorem bne_self (n : Int) : (!decide (n = n)) = false := by simp
set_option maxRecDepth 100000 in
set_option maxHeartbeats 2000000 in
theorem isNaNi (n : Int) (w : World) :
    Calls Try.prog 28 [.int .i64 n].toArray w (fun e w' => e = .returned (.bool false) ∧ St w w' []) := by
  refine x_enter Try.func28 rfl rfl rfl ?_
  intro a0 F0
  replace F0 : Fr ⟨6, []⟩ a0 [(0, .int .i64 n)] := F0
  have H0 := St.nil w
  refine wp_seq ?_
  refine r_lit ?_
  refine s_val wkP F0 rfl rfl rfl rfl (y_assign F0 rfl rfl) ?_; intro a1 F1; clear F0
  refine wpList_nil ?_
  refine c_then ?_
  refine wp_seq ?_
  refine r_lit ?_
  refine s_val wkP F1 rfl rfl rfl rfl (y_move F1 rfl rfl) ?_; intro a2 F2; clear F1
  refine s_val wkP F2 rfl rfl rfl rfl (y_move F2 rfl rfl) ?_; intro a3 F3; clear F2
  refine s_val wkP F3 rfl rfl rfl rfl (y_neq F3 rfl rfl rfl) ?_; intro a4 F4; clear F3
  refine s_val wkP F4 rfl rfl rfl rfl (y_assign F4 rfl rfl) ?_; intro a5 F5; clear F4
  refine wpList_nil ?_
  refine c_then ?_
  refine wp_ret ?_
  refine x_ret1 F5 rfl rfl ?_
  exact ⟨ret_bool (bne_self n), H0⟩
theorem ent28 : ∀ args w, (callFunc 28 args).run Try.prog w = .ok (.enter 28 args) w := enters Try.func28 (by kernel_rfl) rfl
def cmp3 (x y : Int) : Int := if x < y then -1 else if y < x then 1 else 0
set_option maxRecDepth 100000 in
set_option maxHeartbeats 2000000 in
theorem compareI (x y : Int) (w : World) :
    Calls Try.prog 23 [.int .i64 x, .int .i64 y].toArray w (fun e w' => e = .returned (.int .i64 (cmp3 x y)) ∧ St w w' []) := by
  refine x_enter Try.func23 rfl rfl rfl ?_
  intro a0 F0
  replace F0 : Fr ⟨20, []⟩ a0 [(0, .int .i64 x), (1, .int .i64 y)] := F0
  have H0 := St.nil w
  refine wp_seq ?_
  refine r_lit ?_
  refine s_val wkP F0 rfl rfl rfl rfl (y_assign F0 rfl rfl) ?_; intro a1 F1; clear F0
  refine wpList_nil ?_
  refine c_then ?_
  refine wp_seq ?_
  refine r_lit ?_
  refine s_val wkP F1 rfl rfl rfl rfl (y_move F1 rfl rfl) ?_; intro a2 F2; clear F1
  refine s_callV wkP F2 rfl rfl rfl rfl (y_call F2 rfl rfl ent28) (isNaNi _ _) ?_; intro w3 a3 hR3 F3; clear F2
  have H3 : St w w3 [] := H0.call hR3
  refine s_val wkP F3 rfl rfl rfl rfl (y_assign F3 rfl rfl) ?_; intro a4 F4; clear F3
  refine wpList_nil ?_
  refine c_then ?_
  refine wp_seq ?_
  refine r_lit ?_
  refine s_val wkP F4 rfl rfl rfl rfl (y_move F4 rfl rfl) ?_; intro a5 F5; clear F4
  refine s_callV wkP F5 rfl rfl rfl rfl (y_call F5 rfl rfl ent28) (isNaNi _ _) ?_; intro w6 a6 hR6 F6; clear F5
  have H6 : St w w6 [] := H3.call hR6
  refine s_val wkP F6 rfl rfl rfl rfl (y_assign F6 rfl rfl) ?_; intro a7 F7; clear F6
  refine wpList_nil ?_
  refine c_then ?_
  refine wp_seq ?_
  refine wp_seq ?_
  refine r_lit ?_
  refine s_val wkP F7 rfl rfl rfl rfl (y_move F7 rfl rfl) ?_; intro a8 F8; clear F7
  refine wpList_nil ?_
  refine c_then ?_
  refine x_condF F8 rfl ?_
  refine wp_skip ?_
  refine c_then ?_
  refine wp_seq ?_
  refine wp_seq ?_
  refine r_lit ?_
  refine s_val wkP F8 rfl rfl rfl rfl (y_move F8 rfl rfl) ?_; intro a10 F10; clear F8
  refine wpList_nil ?_
  refine c_then ?_
  refine x_condF F10 rfl ?_
  refine wp_skip ?_
  refine c_then ?_
  refine wp_seq ?_
  refine wp_seq ?_
  refine r_lit ?_
  refine s_val wkP F10 rfl rfl rfl rfl (y_move F10 rfl rfl) ?_; intro a12 F12; clear F10
  refine s_val wkP F12 rfl rfl rfl rfl (y_move F12 rfl rfl) ?_; intro a13 F13; clear F12
  refine s_val wkP F13 rfl rfl rfl rfl (y_lss F13 rfl rfl rfl) ?_; intro a14 F14; clear F13
  refine wpList_nil ?_
  refine c_then ?_
  refine x_condP F14 rfl (fun hc15 => ?_) (fun hc15 => ?_)
  · skip
    refine wp_seq ?_
    refine r_lit ?_
    refine s_val wkP F14 rfl rfl rfl rfl (y_assign F14 rfl rfl) ?_; intro a16 F16; clear F14
    refine wpList_nil ?_
    refine c_then ?_
    refine wp_ret ?_
    refine c_thenR ?_
    refine x_ret1 F16 rfl rfl ?_
    exact ⟨ret_int (by unfold cmp3; simp only [*, if_true, if_false]), H6⟩
  · skip
    refine wp_skip ?_
    refine c_then ?_
    refine wp_seq ?_
    refine wp_seq ?_
    refine r_lit ?_
    refine s_val wkP F14 rfl rfl rfl rfl (y_move F14 rfl rfl) ?_; intro a17 F17; clear F14
    refine s_val wkP F17 rfl rfl rfl rfl (y_move F17 rfl rfl) ?_; intro a18 F18; clear F17
    refine s_val wkP F18 rfl rfl rfl rfl (y_gtr F18 rfl rfl rfl) ?_; intro a19 F19; clear F18
    refine wpList_nil ?_
    refine c_then ?_
    refine x_condP F19 rfl (fun hc20 => ?_) (fun hc20 => ?_)
    · skip
      refine wp_seq ?_
      refine r_lit ?_
      refine s_val wkP F19 rfl rfl rfl rfl (y_assign F19 rfl rfl) ?_; intro a21 F21; clear F19
      refine wpList_nil ?_
      refine c_then ?_
      refine wp_ret ?_
      refine c_thenR ?_
      refine x_ret1 F21 rfl rfl ?_
      exact ⟨ret_int (by unfold cmp3; simp only [*, if_true, if_false]), H6⟩
    · skip
      refine wp_skip ?_
      refine c_then ?_
      refine wp_seq ?_
      refine r_lit ?_
      refine s_val wkP F19 rfl rfl rfl rfl (y_assign F19 rfl rfl) ?_; intro a22 F22; clear F19
      refine wpList_nil ?_
      refine c_then ?_
      refine wp_ret ?_
      refine x_ret1 F22 rfl rfl ?_
      exact ⟨ret_int (by unfold cmp3; simp only [*, if_true, if_false]), H6⟩
theorem ent23 : ∀ args w, (callFunc 23 args).run Try.prog w = .ok (.enter 23 args) w := enters Try.func23 (by kernel_rfl) rfl
def cmpN (x y : Mrk) : Int := cmp3 x.node y.node
set_option maxRecDepth 100000 in
set_option maxHeartbeats 2000000 in
theorem byNode (x y : Mrk) (w : World) :
    Calls Try.prog 22 [.agg x.cells.toArray, .agg y.cells.toArray].toArray w (fun e w' => e = .returned (.int .i64 (cmpN x y)) ∧ St w w' []) := by
  refine x_enter Try.func22 rfl rfl rfl ?_
  intro a0 F0
  replace F0 : Fr ⟨10, []⟩ a0 [(0, .agg x.cells.toArray), (1, .agg y.cells.toArray)] := F0
  have H0 := St.nil w
  refine wp_seq ?_
  refine r_lit ?_
  refine s_boxA wkP F0 rfl rfl rfl rfl rfl H0 ?_; intro b1 w1 a1 H1 F1; clear F0
  refine s_boxA wkP F1 rfl rfl rfl rfl rfl H1 ?_; intro b2 w2 a2 H2 F2; clear F1
  refine s_val wkP F2 rfl rfl rfl rfl (y_assign F2 rfl rfl) ?_; intro a3 F3; clear F2
  refine wpList_nil ?_
  refine c_then ?_
  refine wp_seq ?_
  refine r_lit ?_
  refine s_val wkP F3 rfl rfl rfl rfl (y_fieldAddr F3 mfld0 rfl rfl) ?_; intro a4 F4; clear F3
  refine s_val wkP F4 rfl rfl rfl rfl (y_load1 F4 plInt rfl rfl (((H2.blk 1 rfl).cell _).trans rfl)) ?_; intro a5 F5; clear F4
  refine s_val wkP F5 rfl rfl rfl rfl (y_fieldAddr F5 mfld0 rfl rfl) ?_; intro a6 F6; clear F5
  refine s_val wkP F6 rfl rfl rfl rfl (y_load1 F6 plInt rfl rfl (((H2.blk 0 rfl).cell _).trans rfl)) ?_; intro a7 F7; clear F6
  refine s_callV wkP F7 rfl rfl rfl rfl (y_call F7 rfl rfl ent23) (compareI _ _ _) ?_; intro w8 a8 hR8 F8; clear F7
  have H8 : St w w8 [HP.blk b2 (y.cells) 28, HP.blk b1 (x.cells) 28] := H2.call hR8
  refine s_val wkP F8 rfl rfl rfl rfl (y_assign F8 rfl rfl) ?_; intro a9 F9; clear F8
  refine wpList_nil ?_
  refine c_then ?_
  refine wp_ret ?_
  refine x_ret1 F9 rfl rfl ?_
  exact ⟨rfl, H8.drop0⟩
theorem ent22 : ∀ args w, (callFunc 22 args).run Try.prog w = .ok (.enter 22 args) w := enters Try.func22 (by kernel_rfl) rfl
set_option maxRecDepth 100000 in
set_option maxHeartbeats 2000000 in
theorem cloneM_nil (w : World) :
    Calls Try.prog 20 [.slice none 0 0].toArray w (fun e w' => ∃ r, e = .returned r ∧ St w w' [HP.own 28 2 r 0 []]) := by
  refine x_enter Try.func20 rfl rfl rfl ?_
  intro a0 F0
  replace F0 : Fr ⟨8, []⟩ a0 [(0, .slice none 0 0)] := F0
  have H0 := St.nil w
  refine wp_seq ?_
  refine r_lit ?_
  refine s_val wkP F0 rfl rfl rfl rfl (y_assign F0 rfl rfl) ?_; intro a1 F1; clear F0
  refine wpList_nil ?_
  refine c_then ?_
  refine wp_seq ?_
  refine wp_seq ?_
  refine r_lit ?_
  refine s_val wkP F1 rfl rfl rfl rfl (y_move F1 rfl rfl) ?_; intro a2 F2; clear F1
  refine s_val wkP F2 rfl rfl rfl rfl (y_binAgg F2 rfl rfl rfl (run_eqNil1 Try.underlying22 _)) ?_; intro a3 F3; clear F2
  refine wpList_nil ?_
  refine c_then ?_
  refine x_condT F3 rfl ?_
  refine wp_seq ?_
  refine r_lit ?_
  refine s_val wkP F3 rfl rfl rfl rfl (y_assign F3 rfl rfl) ?_; intro a5 F5; clear F3
  refine wpList_nil ?_
  refine c_then ?_
  refine wp_ret ?_
  refine c_thenR ?_
  refine x_ret1 F5 rfl rfl ?_
  exact ⟨_, rfl, H0.ownNil 28 2⟩
set_option maxRecDepth 100000 in
set_option maxHeartbeats 2000000 in
theorem cloneM_some (ad : Addr) (cap n : Nat) (cs : List Value) (w : World) (hs : Sl w (.slice (some ad) n cap) n cs) (hl : cs.length = n * 2) (hf : Flat cs) (hm : n ≤ maxLen) (hb : n * 16 ≤ 140737488355328) :
    Calls Try.prog 20 [.slice (some ad) n cap].toArray w (fun e w' => ∃ r, e = .returned r ∧ St w w' [HP.own 28 2 r n cs]) := by
  refine x_enter Try.func20 rfl rfl rfl ?_
  intro a0 F0
  replace F0 : Fr ⟨8, []⟩ a0 [(0, .slice (some ad) n cap)] := F0
  have H0 := St.nil w
  refine wp_seq ?_
  refine r_lit ?_
  refine s_val wkP F0 rfl rfl rfl rfl (y_assign F0 rfl rfl) ?_; intro a1 F1; clear F0
  refine wpList_nil ?_
  refine c_then ?_
  refine wp_seq ?_
  refine wp_seq ?_
  refine r_lit ?_
  refine s_val wkP F1 rfl rfl rfl rfl (y_move F1 rfl rfl) ?_; intro a2 F2; clear F1
  refine s_val wkP F2 rfl rfl rfl rfl (y_binAgg F2 rfl rfl rfl (run_eqNil0 Try.underlying22 _ _ _ _)) ?_; intro a3 F3; clear F2
  refine wpList_nil ?_
  refine c_then ?_
  refine x_condF F3 rfl ?_
  refine wp_skip ?_
  refine c_then ?_
  refine wp_seq ?_
  refine r_lit ?_
  refine s_build0 wkP F3 rfl rfl rfl elemMark rfl H0 ?_; intro s5 w5 a5 H5 F5; clear F3
  refine s_val wkP F5 rfl rfl rfl rfl (y_move F5 rfl rfl) ?_; intro a6 F6; clear F5
  refine s_append wkP F6 rfl rfl rfl rfl H5 0 rfl rfl elemMark rfl (hs.st H5) (hl) (hf) (by omega) (by omega) ?_; intro s7 w7 a7 h7 F7; clear F6
  have H7 : St w w7 [HP.own 28 2 s7 (0 + n) ([] ++ cs)] := h7
  clear h7
  refine s_val wkP F7 rfl rfl rfl rfl (y_assign F7 rfl rfl) ?_; intro a8 F8; clear F7
  refine wpList_nil ?_
  refine c_then ?_
  refine wp_ret ?_
  refine x_ret1 F8 rfl rfl ?_
  refine ⟨_, rfl, ?_⟩
  have h := H7
  rw [Nat.zero_add, List.nil_append] at h
  exact h
theorem cloneM (s : Value) (n : Nat) (cs : List Value) (w : World) (hs : Sl w s n cs) (hl : cs.length = n * 2) (hf : Flat cs) (hm : n ≤ maxLen) (hb : n * 16 ≤ 140737488355328) :
    Calls Try.prog 20 [s].toArray w (fun e w' => ∃ r, e = .returned r ∧ St w w' [HP.own 28 2 r n cs]) := by
  rcases hs with ⟨rfl, rfl, rfl⟩ | ⟨ad, cap, rfl, rfl, rfl⟩ | ⟨b, off, cap, rfl, hc, hr⟩
  · exact cloneM_nil w
  · exact cloneM_some ad cap 0 [] w (.inr (.inl ⟨ad, cap, rfl, rfl, rfl⟩)) hl hf hm hb
  · exact cloneM_some ⟨b, off, none⟩ cap n cs w (.inr (.inr ⟨b, off, cap, rfl, hc, hr⟩)) hl hf hm hb
theorem ent20 : ∀ args w, (callFunc 20 args).run Try.prog w = .ok (.enter 20 args) w := enters Try.func20 (by kernel_rfl) rfl
set_option maxRecDepth 100000 in
set_option maxHeartbeats 2000000 in
theorem searchM_core (xs : List Mrk) (hw : ∀ x ∈ xs, x.wf) (hn : xs.length ≤ 4611686018427387903) (p : Option Addr) (cp : Nat) (v : Mrk) (hv : v.wf) (w : World) (hp : 0 < xs.length → ∃ b off, p = some ⟨b, off, none⟩ ∧ Row w b off (rows Mrk.cells xs)) :
    Calls Try.prog 21 [.slice p xs.length cp, .agg v.cells.toArray, .func (.func 22) #[] #[]].toArray w (fun e w' => e = .returned (.tuple [.int .i64 ((findC cmpN xs v : Nat) : Int), .bool (foundC cmpN xs v)].toArray) ∧ St w w' []) := by
  refine x_enter Try.func21 rfl rfl rfl ?_
  intro a0 F0
  replace F0 : Fr ⟨49, []⟩ a0 [(0, .slice p xs.length cp), (1, .agg v.cells.toArray), (2, .func (.func 22) #[] #[])] := F0
  have H0 := St.nil w
  refine wp_seq ?_
  refine r_lit ?_
  refine s_boxA wkP F0 rfl rfl rfl rfl rfl H0 ?_; intro b1 w1 a1 H1 F1; clear F0
  refine s_val wkP F1 rfl rfl rfl rfl (y_assign F1 rfl rfl) ?_; intro a2 F2; clear F1
  refine s_val wkP F2 rfl rfl rfl rfl (y_assign F2 rfl rfl) ?_; intro a3 F3; clear F2
  refine wpList_nil ?_
  refine c_then ?_
  refine wp_seq ?_
  refine r_lit ?_
  refine s_val wkP F3 rfl rfl rfl rfl (y_move F3 rfl rfl) ?_; intro a4 F4; clear F3
  refine s_val wkP F4 rfl rfl rfl rfl (y_lenS F4 rfl Try.underlying22 rfl) ?_; intro a5 F5; clear F4
  refine s_val wkP F5 rfl rfl rfl rfl (y_assign F5 rfl rfl) ?_; intro a6 F6; clear F5
  refine wpList_nil ?_
  refine c_then ?_
  refine wp_seq ?_
  refine r_lit ?_
  refine s_val wkP F6 rfl rfl rfl rfl (y_move F6 rfl rfl) ?_; intro a7 F7; clear F6
  refine s_val wkP F7 rfl rfl rfl rfl (y_assign F7 rfl rfl) ?_; intro a8 F8; clear F7
  refine s_val wkP F8 rfl rfl rfl rfl (y_assign F8 rfl rfl) ?_; intro a9 F9; clear F8
  refine wpList_nil ?_
  refine c_then ?_
  refine wp_seq ?_
  refine wp_block ?_
  refine x_loop (G := Nat × Nat) (fun g a w' => match g with | (i, j) => Fr ⟨49, []⟩ a [(0, .slice p xs.length cp), (2, .func (.func 22) #[] #[]), (4, .pointer (some ⟨b1, 0, none⟩)), (6, .int .i64 (0)), (7, .bool false), (8, .int .i64 (((xs.length : Nat) : Int))), (9, .int .i64 (((i : Nat) : Int))), (10, .int .i64 (((j : Nat) : Int)))] ∧ St w w' [HP.blk b1 (v.cells) 28] ∧ (i ≤ j ∧ j ≤ xs.length) ∧ (bsL (ltAt cmpN xs v) i j = findC cmpN xs v)) (fun g => match g with | (i, j) => j - i) (0, xs.length) ⟨F9.cut _ ⟨rfl, rfl, rfl, rfl, rfl, rfl, rfl, rfl, trivial⟩, H1, ⟨Nat.zero_le _, Nat.le_refl _⟩, rfl⟩ ?_
  clear F9
  rintro ⟨i, j⟩ a10 w10 ⟨F10, H10, hij, hb⟩
  refine wp_seq ?_
  refine wp_seq ?_
  refine r_lit ?_
  refine s_val wkP F10 rfl rfl rfl rfl (y_move F10 rfl rfl) ?_; intro a11 F11; clear F10
  refine s_val wkP F11 rfl rfl rfl rfl (y_move F11 rfl rfl) ?_; intro a12 F12; clear F11
  refine s_val wkP F12 rfl rfl rfl rfl (y_lss F12 rfl rfl rfl) ?_; intro a13 F13; clear F12
  refine wpList_nil ?_
  refine c_then ?_
  refine x_condP F13 rfl (fun hlt => ?_) (fun hlt => ?_)
  · skip
    refine wp_skip ?_
    refine c_then ?_
    refine wp_block ?_
    refine wp_seq ?_
    refine r_lit ?_
    refine s_val wkP F13 rfl rfl rfl rfl (y_move F13 rfl rfl) ?_; intro a15 F15; clear F13
    refine s_val wkP F15 rfl rfl rfl rfl (y_move F15 rfl rfl) ?_; intro a16 F16; clear F15
    refine s_val wkP F16 rfl rfl rfl rfl (y_add F16 rfl rfl rfl (r := (((i : Nat) : Int)) + (((j : Nat) : Int))) (wrap_i64 (by omega) (by omega) (by omega))) ?_; intro a17 F17; clear F16
    refine s_val wkP F17 rfl rfl rfl rfl (y_conv F17 Try.underlying3 Try.underlying51 rfl rfl (r := (((i : Nat) : Int)) + (((j : Nat) : Int))) (wrap_u64 (by omega) (by omega) (by omega))) ?_; intro a18 F18; clear F17
    refine s_val wkP F18 rfl rfl rfl rfl (y_shr F18 rfl rfl rfl (by decide) (r := (((i + j) / 2 : Nat) : Int)) (shr_one _ (by omega) (by omega))) ?_; intro a19 F19; clear F18
    refine s_val wkP F19 rfl rfl rfl rfl (y_conv F19 Try.underlying51 Try.underlying3 rfl rfl (r := (((i + j) / 2 : Nat) : Int)) (wrap_i64 (by omega) (by omega) (by omega))) ?_; intro a20 F20; clear F19
    refine s_val wkP F20 rfl rfl rfl rfl (y_assign F20 rfl rfl) ?_; intro a21 F21; clear F20
    refine wpList_nil ?_
    refine c_then ?_
    refine wp_seq ?_
    have hh : (i + j) / 2 < xs.length := by omega
    refine q_region (fun u => St w u [HP.blk b1 (v.cells) 28]) (by kernel_rfl) (by kernel_rfl) H10.drew ?_
    refine q_val F21 rfl rfl rfl (fun u hu => y_move F21 rfl rfl) ?_; intro a22 F22; clear F21
    refine q_val F22 rfl rfl rfl (fun u hu => y_move F22 rfl rfl) ?_; intro a23 F23; clear F22
    refine q_val F23 rfl rfl rfl (fun u hu => y_move F23 rfl rfl) ?_; intro a24 F24; clear F23
    obtain ⟨bb25, of25, hpe25, hrow25⟩ := hp (by omega)
    obtain ⟨x, mx⟩ : ∃ x, (xs)[(i + j) / 2]? = some x := ⟨_, List.getElem?_eq_getElem (by omega)⟩
    have hx := hw x (List.mem_of_getElem? mx)
    refine q_val F24 rfl rfl rfl (fun u hu => y_indexP F24 elemMark rfl rfl rfl hpe25 (by omega)) ?_; intro a27 F27; clear F24
    refine q_val F27 rfl rfl rfl (fun u hu => y_loadA F27 aggMark rfl rfl (Row.elem Mrk.len (hrow25.st hu) hw mx) (Mrk.len_cells hx)) ?_; intro a28 F28; clear F27
    refine q_val F28 rfl rfl rfl (fun u hu => y_loadA F28 aggMark rfl rfl ((hu.blk 0 rfl).row) (Mrk.len_cells hv)) ?_; intro a29 F29; clear F28
    refine q_call F29 rfl rfl rfl (fun u hu => y_callV0 F29 rfl rfl rfl ent22) (fun u hu => (byNode x v _).mono fun e u2 he => ⟨he.1, hu.call0 he.2⟩) ?_; intro a30 F30; clear F29
    refine q_val F30 rfl rfl rfl (fun u hu => y_lss F30 rfl rfl rfl) ?_; intro a31 F31; clear F30
    refine q_nil ?_; intro w32 H32
    refine c_then ?_
    refine x_condP F31 rfl (fun hc => ?_) (fun hc => ?_)
    · skip
      refine r_lit ?_
      refine s_val wkP F31 rfl rfl rfl rfl (y_move F31 rfl rfl) ?_; intro a34 F34; clear F31
      refine s_val wkP F34 rfl rfl rfl rfl (y_add F34 rfl rfl rfl (r := ((((i + j) / 2 : Nat) : Int)) + (1)) (wrap_i64 (by omega) (by omega) (by omega))) ?_; intro a35 F35; clear F34
      refine s_val wkP F35 rfl rfl rfl rfl (y_assign F35 rfl rfl) ?_; intro a36 F36; clear F35
      refine wpList_nil ?_
      refine c_blkN ?_
      refine c_then ?_
      exact ⟨((i + j) / 2 + 1, j), ⟨F36.cut _ ⟨rfl, rfl, rfl, rfl, rfl, rfl, rfl, rfl, trivial⟩, H32, by omega, (bsL_step1 (by omega) rfl (by rw [ltAt_some cmpN mx]; simpa using hc)).symm.trans hb⟩, by first | omega | (dsimp only; omega)⟩
    · skip
      refine r_lit ?_
      refine s_val wkP F31 rfl rfl rfl rfl (y_move F31 rfl rfl) ?_; intro a37 F37; clear F31
      refine s_val wkP F37 rfl rfl rfl rfl (y_assign F37 rfl rfl) ?_; intro a38 F38; clear F37
      refine wpList_nil ?_
      refine c_blkN ?_
      refine c_then ?_
      exact ⟨(i, (i + j) / 2), ⟨F38.cut _ ⟨rfl, rfl, rfl, rfl, rfl, rfl, rfl, rfl, trivial⟩, H32, by omega, (bsL_step0 (by omega) rfl (by rw [ltAt_some cmpN mx]; simpa using hc)).symm.trans hb⟩, by first | omega | (dsimp only; omega)⟩
  · skip
    refine wp_exit ?_
    refine c_thenX ?_
    refine c_thenX ?_
    refine c_hit ?_
    refine c_then ?_
    refine wp_seq ?_
    have hfi : findC cmpN xs v = i := by rw [← hb, bsL_end (by omega)]
    refine q_region (fun u => St w u [HP.blk b1 (v.cells) 28]) (by kernel_rfl) (by kernel_rfl) H10.drew ?_
    refine q_val F13 rfl rfl rfl (fun u hu => y_move F13 rfl rfl) ?_; intro a39 F39; clear F13
    refine q_val F39 rfl rfl rfl (fun u hu => y_move F39 rfl rfl) ?_; intro a40 F40; clear F39
    refine q_val F40 rfl rfl rfl (fun u hu => y_move F40 rfl rfl) ?_; intro a41 F41; clear F40
    refine q_val F41 rfl rfl rfl (fun u hu => y_lss F41 rfl rfl rfl) ?_; intro a42 F42; clear F41
    refine q_val F42 rfl rfl rfl (fun u hu => y_move F42 rfl rfl) ?_; intro a43 F43; clear F42
    refine g_split (k := 39) F43 rfl (fun hin F44 => ?_) (fun hin F44 => ?_)
    · clear F43
      refine qg_on F44 rfl rfl rfl rfl ?_
      refine q_val F44 rfl rfl rfl (fun u hu => y_move F44 rfl rfl) ?_; intro a45 F45; clear F44
      refine qg_on F45 rfl rfl rfl rfl ?_
      refine q_val F45 rfl rfl rfl (fun u hu => y_move F45 rfl rfl) ?_; intro a46 F46; clear F45
      refine qg_on F46 rfl rfl rfl rfl ?_
      refine q_val F46 rfl rfl rfl (fun u hu => y_move F46 rfl rfl) ?_; intro a47 F47; clear F46
      refine qg_on F47 rfl rfl rfl rfl ?_
      obtain ⟨bb48, of48, hpe48, hrow48⟩ := hp (by omega)
      obtain ⟨x, mx⟩ : ∃ x, (xs)[i]? = some x := ⟨_, List.getElem?_eq_getElem (by omega)⟩
      have hx := hw x (List.mem_of_getElem? mx)
      refine q_val F47 rfl rfl rfl (fun u hu => y_indexP F47 elemMark rfl rfl rfl hpe48 (by omega)) ?_; intro a50 F50; clear F47
      refine qg_on F50 rfl rfl rfl rfl ?_
      refine q_val F50 rfl rfl rfl (fun u hu => y_loadA F50 aggMark rfl rfl (Row.elem Mrk.len (hrow48.st hu) hw mx) (Mrk.len_cells hx)) ?_; intro a51 F51; clear F50
      refine qg_on F51 rfl rfl rfl rfl ?_
      refine q_val F51 rfl rfl rfl (fun u hu => y_loadA F51 aggMark rfl rfl ((hu.blk 0 rfl).row) (Mrk.len_cells hv)) ?_; intro a52 F52; clear F51
      refine qg_on F52 rfl rfl rfl rfl ?_
      refine q_call F52 rfl rfl rfl (fun u hu => y_callV0 F52 rfl rfl rfl ent22) (fun u hu => (byNode x v _).mono fun e u2 he => ⟨he.1, hu.call0 he.2⟩) ?_; intro a53 F53; clear F52
      refine qg_on F53 rfl rfl rfl rfl ?_
      refine q_val F53 rfl rfl rfl (fun u hu => y_eql F53 rfl rfl rfl) ?_; intro a54 F54; clear F53
      refine q_val F54 rfl rfl rfl (fun u hu => y_pickT F54 rfl rfl rfl) ?_; intro a55 F55; clear F54
      refine q_val F55 rfl rfl rfl (fun u hu => y_assign F55 rfl rfl) ?_; intro a56 F56; clear F55
      refine q_val F56 rfl rfl rfl (fun u hu => y_assign F56 rfl rfl) ?_; intro a57 F57; clear F56
      refine q_nil ?_; intro w58 H58
      refine c_then ?_
      refine wp_ret ?_
      refine x_ret2 F57 rfl rfl rfl ?_
      refine ⟨?_, H58.drop0⟩
      rw [foundC_some cmpN hfi mx, hfi]
    · clear F43
      refine qg_off F44 rfl rfl rfl rfl rfl rfl rfl ?_; intro a59 F59; clear F44
      refine qg_off F59 rfl rfl rfl rfl rfl rfl rfl ?_; intro a60 F60; clear F59
      refine qg_off F60 rfl rfl rfl rfl rfl rfl rfl ?_; intro a61 F61; clear F60
      refine qg_off F61 rfl rfl rfl rfl rfl rfl rfl ?_; intro a62 F62; clear F61
      refine qg_off F62 rfl rfl rfl rfl rfl rfl rfl ?_; intro a63 F63; clear F62
      refine qg_off F63 rfl rfl rfl rfl rfl rfl rfl ?_; intro a64 F64; clear F63
      refine qg_off F64 rfl rfl rfl rfl rfl rfl rfl ?_; intro a65 F65; clear F64
      refine qg_off F65 rfl rfl rfl rfl rfl rfl rfl ?_; intro a66 F66; clear F65
      refine q_val F66 rfl rfl rfl (fun u hu => y_pickF F66 rfl rfl rfl) ?_; intro a67 F67; clear F66
      refine q_val F67 rfl rfl rfl (fun u hu => y_assign F67 rfl rfl) ?_; intro a68 F68; clear F67
      refine q_val F68 rfl rfl rfl (fun u hu => y_assign F68 rfl rfl) ?_; intro a69 F69; clear F68
      refine q_nil ?_; intro w70 H70
      refine c_then ?_
      refine wp_ret ?_
      refine x_ret2 F69 rfl rfl rfl ?_
      refine ⟨?_, H70.drop0⟩
      rw [foundC_none cmpN hfi (by omega), hfi]
theorem searchM (xs : List Mrk) (hw : ∀ x ∈ xs, x.wf) (hn : xs.length ≤ 4611686018427387903) (s : Value) (v : Mrk) (hv : v.wf) (w : World) (hs : Sl w s xs.length (rows Mrk.cells xs)) :
    Calls Try.prog 21 [s, .agg v.cells.toArray, .func (.func 22) #[] #[]].toArray w fun e w' => e = .returned (.tuple [.int .i64 ((findC cmpN xs v : Nat) : Int), .bool (foundC cmpN xs v)].toArray) ∧ St w w' [] := by
  obtain ⟨p, cp, rfl, hp⟩ := hs.form
  exact searchM_core xs hw hn p cp v hv w hp
theorem ent21 : ∀ args w, (callFunc 21 args).run Try.prog w = .ok (.enter 21 args) w := enters Try.func21 (by kernel_rfl) rfl
end Go.Proofs.Ytchcoenpnmgnhaa
