/- pdqsort: breakPatterns. -/
import Derived.Test.YtchcoenpnmgnhaaTalP
set_option linter.unusedSimpArgs false
set_option linter.unusedVariables false
namespace Go.Proofs.Ytchcoenpnmgnhaa
open Go.ChangeShapes Go.WideShapes Go.ChangeAt Go.RowKit Go.Tri
theorem z1X : Zero1 Try.prog 69 (.int .u64 0) := ⟨by kernel_rfl, rfl⟩
theorem plX : Plain Try.prog 69 := by unfold Plain; kernel_rfl
set_option maxRecDepth 100000 in
set_option maxHeartbeats 2000000 in
theorem xorshift {w0 w : World} {ls : List HP} {Bx : Nat} {x : Int} (H : St w0 w (HP.blk Bx [.int .u64 (x)] 69 :: ls)) :
    Calls Try.prog 49 [.pointer (some ⟨Bx, 0, none⟩)].toArray w (fun e w' => ∃ v, e = .returned v ∧ ∃ q y : Int, v = .int .u64 q ∧ St w0 w' (HP.blk Bx [.int .u64 (y)] 69 :: ls)) := by
  refine x_enter Try.func49 rfl rfl rfl ?_
  intro a0 F0
  replace F0 : Fr ⟨33, []⟩ a0 [(0, .pointer (some ⟨Bx, 0, none⟩))] := F0
  have H0 : St w0 w ([HP.blk Bx [.int .u64 (x)] 69] ++ ls) := H
  refine wp_seq ?_
  refine r_lit ?_
  refine s_val wkP F0 rfl rfl rfl rfl (y_assign F0 rfl rfl) ?_; intro a1 F1; clear F0
  refine wpList_nil ?_
  refine c_then ?_
  refine wp_seq ?_
  refine mix_region [9] [(0, 0), (0, 1), (1, 2), (0, 3), (0, 4), (1, 5), (0, 6), (0, 7), (0, 8), (2, 9)] (fun u => ∃ ls, St w0 u ls) (by kernel_rfl) (by kernel_rfl) ⟨_, H0.drew⟩ ?_
  have H2 := H0.drew
  generalize w.drew = w2 at H2 ⊢
  refine m_pure F1 rfl rfl rfl rfl (fun u hu => y_move F1 rfl rfl) ?_; intro a3 F3; clear F1
  refine m_pure F3 rfl rfl rfl rfl (fun u hu => y_nilCheck F3 rfl rfl) ?_; intro a4 F4; clear F3
  refine m_read F4 rfl rfl rfl rfl (y_load1 F4 plX rfl rfl (((H2.blk 0 rfl).cell _).trans rfl)) ?_; intro a5 F5; clear F4
  refine m_pure F5 rfl rfl rfl rfl (fun u hu => y_move F5 rfl rfl) ?_; intro a6 F6; clear F5
  refine m_pure F6 rfl rfl rfl rfl (fun u hu => y_nilCheck F6 rfl rfl) ?_; intro a7 F7; clear F6
  refine m_read F7 rfl rfl rfl rfl (y_load1 F7 plX rfl rfl (((H2.blk 0 rfl).cell _).trans rfl)) ?_; intro a8 F8; clear F7
  refine m_pure F8 rfl rfl rfl rfl (fun u hu => y_shl F8 rfl rfl rfl (by decide) (r := shlU (x) (13)) rfl) ?_; intro a9 F9; clear F8
  refine m_pure F9 rfl rfl rfl rfl (fun u hu => y_xorU F9 rfl rfl rfl) ?_; intro a10 F10; clear F9
  refine m_pure F10 rfl rfl rfl rfl (fun u hu => y_nilCheck F10 rfl rfl) ?_; intro a11 F11; clear F10
  refine m_heavy rfl rfl ?_
  refine s_store1 wkP F11 rfl rfl z1X rfl rfl rfl rfl rfl H2 0 rfl (by simp) ?_; intro w13 h13
  obtain ⟨x13, ex13⟩ : ∃ q, q = xorU (x) (shlU (x) (13)) := ⟨_, rfl⟩
  have H13 : St w0 w13 ([HP.blk Bx [.int .u64 (x13)] 69] ++ ls) := by rw [ex13]; exact h13
  clear h13
  refine wpList_nil ?_; refine c_then ⟨⟨_, H13⟩, ?_⟩
  refine m_nil ?_
  refine c_then ?_
  refine wp_seq ?_
  refine mix_region [9] [(0, 0), (0, 1), (1, 2), (0, 3), (0, 4), (1, 5), (0, 6), (0, 7), (0, 8), (2, 9)] (fun u => ∃ ls, St w0 u ls) (by kernel_rfl) (by kernel_rfl) ⟨_, H13.drew⟩ ?_
  have H14 := H13.drew
  generalize w13.drew = w14 at H14 ⊢
  refine m_pure F11 rfl rfl rfl rfl (fun u hu => y_move F11 rfl rfl) ?_; intro a15 F15; clear F11
  refine m_pure F15 rfl rfl rfl rfl (fun u hu => y_nilCheck F15 rfl rfl) ?_; intro a16 F16; clear F15
  refine m_read F16 rfl rfl rfl rfl (y_load1 F16 plX rfl rfl (((H14.blk 0 rfl).cell _).trans rfl)) ?_; intro a17 F17; clear F16
  refine m_pure F17 rfl rfl rfl rfl (fun u hu => y_move F17 rfl rfl) ?_; intro a18 F18; clear F17
  refine m_pure F18 rfl rfl rfl rfl (fun u hu => y_nilCheck F18 rfl rfl) ?_; intro a19 F19; clear F18
  refine m_read F19 rfl rfl rfl rfl (y_load1 F19 plX rfl rfl (((H14.blk 0 rfl).cell _).trans rfl)) ?_; intro a20 F20; clear F19
  refine m_pure F20 rfl rfl rfl rfl (fun u hu => y_shr F20 rfl rfl rfl (by decide) (r := shrU (x13) (7)) rfl) ?_; intro a21 F21; clear F20
  refine m_pure F21 rfl rfl rfl rfl (fun u hu => y_xorU F21 rfl rfl rfl) ?_; intro a22 F22; clear F21
  refine m_pure F22 rfl rfl rfl rfl (fun u hu => y_nilCheck F22 rfl rfl) ?_; intro a23 F23; clear F22
  refine m_heavy rfl rfl ?_
  refine s_store1 wkP F23 rfl rfl z1X rfl rfl rfl rfl rfl H14 0 rfl (by simp) ?_; intro w25 h25
  obtain ⟨x25, ex25⟩ : ∃ q, q = xorU (x13) (shrU (x13) (7)) := ⟨_, rfl⟩
  have H25 : St w0 w25 ([HP.blk Bx [.int .u64 (x25)] 69] ++ ls) := by rw [ex25]; exact h25
  clear h25
  refine wpList_nil ?_; refine c_then ⟨⟨_, H25⟩, ?_⟩
  refine m_nil ?_
  refine c_then ?_
  refine wp_seq ?_
  refine mix_region [9] [(0, 0), (0, 1), (1, 2), (0, 3), (0, 4), (1, 5), (0, 6), (0, 7), (0, 8), (2, 9)] (fun u => ∃ ls, St w0 u ls) (by kernel_rfl) (by kernel_rfl) ⟨_, H25.drew⟩ ?_
  have H26 := H25.drew
  generalize w25.drew = w26 at H26 ⊢
  refine m_pure F23 rfl rfl rfl rfl (fun u hu => y_move F23 rfl rfl) ?_; intro a27 F27; clear F23
  refine m_pure F27 rfl rfl rfl rfl (fun u hu => y_nilCheck F27 rfl rfl) ?_; intro a28 F28; clear F27
  refine m_read F28 rfl rfl rfl rfl (y_load1 F28 plX rfl rfl (((H26.blk 0 rfl).cell _).trans rfl)) ?_; intro a29 F29; clear F28
  refine m_pure F29 rfl rfl rfl rfl (fun u hu => y_move F29 rfl rfl) ?_; intro a30 F30; clear F29
  refine m_pure F30 rfl rfl rfl rfl (fun u hu => y_nilCheck F30 rfl rfl) ?_; intro a31 F31; clear F30
  refine m_read F31 rfl rfl rfl rfl (y_load1 F31 plX rfl rfl (((H26.blk 0 rfl).cell _).trans rfl)) ?_; intro a32 F32; clear F31
  refine m_pure F32 rfl rfl rfl rfl (fun u hu => y_shl F32 rfl rfl rfl (by decide) (r := shlU (x25) (17)) rfl) ?_; intro a33 F33; clear F32
  refine m_pure F33 rfl rfl rfl rfl (fun u hu => y_xorU F33 rfl rfl rfl) ?_; intro a34 F34; clear F33
  refine m_pure F34 rfl rfl rfl rfl (fun u hu => y_nilCheck F34 rfl rfl) ?_; intro a35 F35; clear F34
  refine m_heavy rfl rfl ?_
  refine s_store1 wkP F35 rfl rfl z1X rfl rfl rfl rfl rfl H26 0 rfl (by simp) ?_; intro w37 h37
  obtain ⟨x37, ex37⟩ : ∃ q, q = xorU (x25) (shlU (x25) (17)) := ⟨_, rfl⟩
  have H37 : St w0 w37 ([HP.blk Bx [.int .u64 (x37)] 69] ++ ls) := by rw [ex37]; exact h37
  clear h37
  refine wpList_nil ?_; refine c_then ⟨⟨_, H37⟩, ?_⟩
  refine m_nil ?_
  refine c_then ?_
  refine wp_seq ?_
  refine r_lit ?_
  refine s_val wkP F35 rfl rfl rfl rfl (y_move F35 rfl rfl) ?_; intro a38 F38; clear F35
  refine s_val wkP F38 rfl rfl rfl rfl (y_nilCheck F38 rfl rfl) ?_; intro a39 F39; clear F38
  refine s_val wkP F39 rfl rfl rfl rfl (y_load1 F39 plX rfl rfl (((H37.blk 0 rfl).cell _).trans rfl)) ?_; intro a40 F40; clear F39
  refine s_val wkP F40 rfl rfl rfl rfl (y_assign F40 rfl rfl) ?_; intro a41 F41; clear F40
  refine wpList_nil ?_
  refine c_then ?_
  refine wp_ret ?_
  refine x_ret1 F41 rfl rfl ?_
  exact ⟨_, rfl, _, _, rfl, H37⟩
theorem ent49 : ∀ args w, (callFunc 49 args).run Try.prog w = .ok (.enter 49 args) w := enters Try.func49 (by kernel_rfl) rfl
set_option maxRecDepth 100000 in
set_option maxHeartbeats 2000000 in
theorem nextPow (x : Nat) (hx0 : 0 < x) (hx1 : x ≤ 1000000) (w : World) :
    Calls Try.prog 48 [.int .i64 ((x : Nat) : Int)].toArray w (fun e w' => ∃ v, e = .returned v ∧ ∃ k : Nat, v = .int .u64 ((2 ^ k : Nat) : Int) ∧ 2 ^ k ≤ 2 * x ∧ St w w' []) := by
  refine x_enter Try.func48 rfl rfl rfl ?_
  intro a0 F0
  replace F0 : Fr ⟨7, []⟩ a0 [(0, .int .i64 ((x : Nat) : Int))] := F0
  have H0 := St.nil w
  refine wp_seq ?_
  refine r_lit ?_
  refine s_val wkP F0 rfl rfl rfl rfl (y_assign F0 rfl rfl) ?_; intro a1 F1; clear F0
  refine wpList_nil ?_
  refine c_then ?_
  refine wp_seq ?_
  refine r_lit ?_
  refine s_val wkP F1 rfl rfl rfl rfl (y_move F1 rfl rfl) ?_; intro a2 F2; clear F1
  refine s_val wkP F2 rfl rfl rfl rfl (y_conv F2 Try.underlying3 Try.underlying51 rfl rfl (r := ((x : Nat) : Int)) (wrap_u64 (by omega) (by omega) (by omega))) ?_; intro a3 F3; clear F2
  refine s_call wkP F3 rfl rfl rfl rfl (y_call F3 rfl rfl ent33) (bitsLen x (by omega) _) ?_; intro v0 w4 a4 hR4 F4; clear F3
  obtain ⟨k0, rfl, hk1, hk2, hE⟩ := hR4
  have H4 : St w w4 [] := H0.call hE
  refine s_val wkP F4 rfl rfl rfl rfl (y_shl F4 rfl rfl rfl (by omega) (r := ((2 ^ k0 : Nat) : Int)) (shl_one (hk2 hx0) hx1)) ?_; intro a5 F5; clear F4
  refine s_val wkP F5 rfl rfl rfl rfl (y_assign F5 rfl rfl) ?_; intro a6 F6; clear F5
  refine wpList_nil ?_
  refine c_then ?_
  refine wp_ret ?_
  refine x_ret1 F6 rfl rfl ?_
  exact ⟨_, rfl, k0, rfl, hk2 hx0, H4⟩
theorem ent48 : ∀ args w, (callFunc 48 args).run Try.prog w = .ok (.enter 48 args) w := enters Try.func48 (by kernel_rfl) rfl
set_option maxRecDepth 100000 in
set_option maxHeartbeats 2000000 in
theorem breakPatterns {w0 w : World} {ls : List HP} {p : Option Addr} {n cap : Nat} (xs : List Int) (hn : xs.length = n) (hn1 : n ≤ 1000000) (a b : Nat) (hab : a ≤ b) (hbn : b ≤ n) (H : St w0 w (HP.own 24 1 (.slice p n cap) (n) (rows (inC .u64) xs) :: ls)) :
    Calls Try.prog 37 [.slice p n cap, .int .i64 (a : Int), .int .i64 (b : Int)].toArray w (fun e w' => ∃ v, e = .returned v ∧ ∃ ys, v = .tuple #[] ∧ Seg a b xs ys ∧ St w0 w' (HP.own 24 1 (.slice p n cap) (n) (rows (inC .u64) ys) :: ls)) := by
  have hp := (H.ownP 0 rfl).2.2
  refine x_enter Try.func37 rfl rfl rfl ?_
  intro a0 F0
  replace F0 : Fr ⟨65, []⟩ a0 [(0, .slice p n cap), (1, .int .i64 (a : Int)), (2, .int .i64 (b : Int))] := F0
  have H0 : St w0 w ([HP.own 24 1 (.slice p n cap) (n) (rows (inC .u64) xs)] ++ ls) := H
  refine wp_seq ?_
  refine r_lit ?_
  refine s_val wkP F0 rfl rfl rfl rfl (y_move F0 rfl rfl) ?_; intro a1 F1; clear F0
  refine s_val wkP F1 rfl rfl rfl rfl (y_move F1 rfl rfl) ?_; intro a2 F2; clear F1
  refine s_val wkP F2 rfl rfl rfl rfl (y_sub F2 rfl rfl rfl (r := ((b - a : Nat) : Int)) (wrap_i64 (by omega) (by omega) (by omega))) ?_; intro a3 F3; clear F2
  refine s_val wkP F3 rfl rfl rfl rfl (y_assign F3 rfl rfl) ?_; intro a4 F4; clear F3
  refine wpList_nil ?_
  refine c_then ?_
  refine wp_seq ?_
  refine r_lit ?_
  refine s_val wkP F4 rfl rfl rfl rfl (y_move F4 rfl rfl) ?_; intro a5 F5; clear F4
  refine s_val wkP F5 rfl rfl rfl rfl (y_geq F5 rfl rfl rfl) ?_; intro a6 F6; clear F5
  refine wpList_nil ?_
  refine c_then ?_
  refine x_condP F6 rfl (fun h8 => ?_) (fun h8 => ?_)
  · skip
    refine wp_seq ?_
    refine r_lit ?_
    refine s_val wkP F6 rfl rfl rfl rfl (y_move F6 rfl rfl) ?_; intro a8 F8; clear F6
    refine s_val wkP F8 rfl rfl rfl rfl (y_conv F8 Try.underlying3 Try.underlying69 rfl rfl (r := ((b - a : Nat) : Int)) (wrap_u64 (by omega) (by omega) (by omega))) ?_; intro a9 F9; clear F8
    refine s_alloc1 wkP F9 rfl rfl rfl z1X rfl H0 ?_; intro Bx w10 a10 h10 F10; clear F9
    have H10 : St w0 w10 ([HP.blk Bx [.int .u64 (0)] 69, HP.own 24 1 (.slice p n cap) (n) (rows (inC .u64) xs)] ++ ls) := h10
    refine s_store1 wkP F10 rfl rfl z1X rfl rfl rfl rfl rfl H10 0 rfl (by simp) ?_; intro w12 h12
    have H12 : St w0 w12 ([HP.blk Bx [.int .u64 (((b - a : Nat) : Int))] 69, HP.own 24 1 (.slice p n cap) (n) (rows (inC .u64) xs)] ++ ls) := h12
    refine wpList_nil ?_
    refine c_then ?_
    refine wp_seq ?_
    refine r_lit ?_
    refine s_val wkP F10 rfl rfl rfl rfl (y_move F10 rfl rfl) ?_; intro a13 F13; clear F10
    refine s_call wkP F13 rfl rfl rfl rfl (y_call F13 rfl rfl ent48) (nextPow (b - a) (by omega) (by omega) _) ?_; intro v0 w14 a14 hR14 F14; clear F13
    obtain ⟨k0, rfl, hk2, hE⟩ := hR14
    have H14 : St w0 w14 ([HP.blk Bx [.int .u64 (((b - a : Nat) : Int))] 69, HP.own 24 1 (.slice p n cap) (n) (rows (inC .u64) xs)] ++ ls) := H12.call hE
    have hT : 0 < 2 ^ k0 := Nat.pow_pos (by decide)
    generalize 2 ^ k0 = T at *
    refine s_val wkP F14 rfl rfl rfl rfl (y_assign F14 rfl rfl) ?_; intro a15 F15; clear F14
    refine wpList_nil ?_
    refine c_then ?_
    refine wp_seq ?_
    refine r_lit ?_
    refine s_val wkP F15 rfl rfl rfl rfl (y_move F15 rfl rfl) ?_; intro a16 F16; clear F15
    refine s_val wkP F16 rfl rfl rfl rfl (y_move F16 rfl rfl) ?_; intro a17 F17; clear F16
    refine s_val wkP F17 rfl rfl rfl rfl (y_quo F17 rfl rfl rfl (by omega) (r := (((b - a) / 4 : Nat) : Int)) (wrap_i64 (by rw [Int.tdiv_eq_ediv_of_nonneg (by omega)]; try omega) (by omega) (by omega))) ?_; intro a18 F18; clear F17
    refine s_val wkP F18 rfl rfl rfl rfl (y_mul F18 rfl rfl rfl (r := ((((b - a) / 4) * 2 : Nat) : Int)) (wrap_i64 (by omega) (by omega) (by omega))) ?_; intro a19 F19; clear F18
    refine s_val wkP F19 rfl rfl rfl rfl (y_add F19 rfl rfl rfl (r := ((a + (((b - a) / 4) * 2) : Nat) : Int)) (wrap_i64 (by omega) (by omega) (by omega))) ?_; intro a20 F20; clear F19
    refine s_val wkP F20 rfl rfl rfl rfl (y_sub F20 rfl rfl rfl (r := ((a + (b - a) / 4 * 2 - 1 : Nat) : Int)) (wrap_i64 (by omega) (by omega) (by omega))) ?_; intro a21 F21; clear F20
    refine s_val wkP F21 rfl rfl rfl rfl (y_assign F21 rfl rfl) ?_; intro a22 F22; clear F21
    refine wpList_nil ?_
    refine c_then ?_
    refine wp_block ?_
    refine x_loop (G := Nat × Int × List Int) (fun gg aa ww => match gg with | (idx, xx, ys) => Fr ⟨65, []⟩ aa [(0, .slice p n cap), (1, .int .i64 (((a : Nat) : Int))), (6, .int .i64 (((b - a : Nat) : Int))), (7, .pointer (some ⟨Bx, 0, none⟩)), (8, .int .u64 (((T : Nat) : Int))), (9, .int .i64 (((idx : Nat) : Int)))] ∧ St w0 ww ([HP.blk Bx [.int .u64 (xx)] 69, HP.own 24 1 (.slice p n cap) (n) (rows (inC .u64) ys)] ++ ls) ∧ (a + 1 ≤ idx ∧ idx ≤ a + (b - a) / 4 * 2 + 2) ∧ (Seg a b xs ys) ∧ (ys.length = n)) (fun gg => match gg with | (idx, xx, ys) => a + (b - a) / 4 * 2 + 2 - idx) (a + (b - a) / 4 * 2 - 1, ((b - a : Nat) : Int), xs) ⟨F22.cut _ ⟨rfl, rfl, rfl, rfl, rfl, rfl, trivial⟩, H14, by omega, Seg.refl _ _ _, hn⟩ ?_
    clear F22
    rintro ⟨idx, xx, ys⟩ a23 w23 ⟨F23, H23, hid, hsg, hyl⟩
    refine wp_seq ?_
    refine wp_seq ?_
    refine r_lit ?_
    refine s_val wkP F23 rfl rfl rfl rfl (y_move F23 rfl rfl) ?_; intro a24 F24; clear F23
    refine s_val wkP F24 rfl rfl rfl rfl (y_move F24 rfl rfl) ?_; intro a25 F25; clear F24
    refine s_val wkP F25 rfl rfl rfl rfl (y_move F25 rfl rfl) ?_; intro a26 F26; clear F25
    refine s_val wkP F26 rfl rfl rfl rfl (y_quo F26 rfl rfl rfl (by omega) (r := (((b - a) / 4 : Nat) : Int)) (wrap_i64 (by rw [Int.tdiv_eq_ediv_of_nonneg (by omega)]; try omega) (by omega) (by omega))) ?_; intro a27 F27; clear F26
    refine s_val wkP F27 rfl rfl rfl rfl (y_mul F27 rfl rfl rfl (r := ((((b - a) / 4) * 2 : Nat) : Int)) (wrap_i64 (by omega) (by omega) (by omega))) ?_; intro a28 F28; clear F27
    refine s_val wkP F28 rfl rfl rfl rfl (y_add F28 rfl rfl rfl (r := ((a + (((b - a) / 4) * 2) : Nat) : Int)) (wrap_i64 (by omega) (by omega) (by omega))) ?_; intro a29 F29; clear F28
    refine s_val wkP F29 rfl rfl rfl rfl (y_add F29 rfl rfl rfl (r := (((a + (((b - a) / 4) * 2)) + 1 : Nat) : Int)) (wrap_i64 (by omega) (by omega) (by omega))) ?_; intro a30 F30; clear F29
    refine s_val wkP F30 rfl rfl rfl rfl (y_leq F30 rfl rfl rfl) ?_; intro a31 F31; clear F30
    refine wpList_nil ?_
    refine c_then ?_
    refine x_condP F31 rfl (fun hle => ?_) (fun hle => ?_)
    · skip
      refine wp_skip ?_
      refine c_then ?_
      refine wp_seq ?_
      refine wp_block ?_
      refine wp_seq ?_
      refine r_lit ?_
      refine s_call wkP F31 rfl rfl rfl rfl (y_call F31 rfl rfl ent49) (xorshift (ls := HP.own 24 1 (.slice p n cap) (n) (rows (inC .u64) ys) :: ls) H23) ?_; intro v33 w33 a33 hR33 F33; clear F31
      obtain ⟨q, y2, rfl, H33⟩ := hR33
      replace H33 : St w0 w33 ([HP.blk Bx [.int .u64 (y2)] 69, HP.own 24 1 (.slice p n cap) (n) (rows (inC .u64) ys)] ++ ls) := H33
      refine s_val wkP F33 rfl rfl rfl rfl (y_move F33 rfl rfl) ?_; intro a34 F34; clear F33
      refine s_val wkP F34 rfl rfl rfl rfl (y_sub F34 rfl rfl rfl (r := ((T - 1 : Nat) : Int)) (wrap_u64 (by omega) (by omega) (by omega))) ?_; intro a35 F35; clear F34
      refine s_andLowU (m := T - 1) wkP F35 rfl rfl rfl rfl rfl rfl (by omega) ?_; intro r a36 hr F36; clear F35
      refine s_val wkP F36 rfl rfl rfl rfl (y_conv F36 Try.underlying51 Try.underlying3 rfl rfl (r := ((r : Nat) : Int)) (wrap_i64 (by omega) (by omega) (by omega))) ?_; intro a37 F37; clear F36
      refine s_val wkP F37 rfl rfl rfl rfl (y_assign F37 rfl rfl) ?_; intro a38 F38; clear F37
      refine wpList_nil ?_
      refine c_then ?_
      refine x_seqM (fun aa ww => ∃ o2 : Nat, Fr ⟨65, []⟩ aa [(0, .slice p n cap), (1, .int .i64 (((a : Nat) : Int))), (6, .int .i64 (((b - a : Nat) : Int))), (7, .pointer (some ⟨Bx, 0, none⟩)), (8, .int .u64 (((T : Nat) : Int))), (9, .int .i64 (((idx : Nat) : Int))), (26, .int .i64 (((idx : Nat) : Int))), (27, .int .i64 (((a : Nat) : Int))), (28, .int .i64 (((b - a : Nat) : Int))), (29, .int .i64 ((((b - a) / 4 : Nat) : Int))), (30, .int .i64 (((((b - a) / 4) * 2 : Nat) : Int))), (31, .int .i64 (((a + (((b - a) / 4) * 2) : Nat) : Int))), (32, .int .i64 ((((a + (((b - a) / 4) * 2)) + 1 : Nat) : Int))), (33, .bool (decide ((((idx : Nat) : Int)) ≤ ((((a + (((b - a) / 4) * 2)) + 1 : Nat) : Int))))), (36, .int .u64 (q)), (37, .int .u64 (((T : Nat) : Int))), (38, .int .u64 (((T - 1 : Nat) : Int))), (39, .int .u64 (((r : Nat) : Int))), (40, .int .i64 (((r : Nat) : Int))), (10, .int .i64 (((o2 : Nat) : Int)))] ∧ St w0 ww ([HP.blk Bx [.int .u64 (y2)] 69, HP.own 24 1 (.slice p n cap) (n) (rows (inC .u64) ys)] ++ ls) ∧ (o2 < b - a)) ?_ ?_
      · skip
        refine wp_seq ?_
        refine r_lit ?_
        refine s_val wkP F38 rfl rfl rfl rfl (y_move F38 rfl rfl) ?_; intro a40 F40; clear F38
        refine s_val wkP F40 rfl rfl rfl rfl (y_move F40 rfl rfl) ?_; intro a41 F41; clear F40
        refine s_val wkP F41 rfl rfl rfl rfl (y_geq F41 rfl rfl rfl) ?_; intro a42 F42; clear F41
        refine wpList_nil ?_
        refine c_then ?_
        refine x_condP F42 rfl (fun hge => ?_) (fun hge => ?_)
        · skip
          refine r_lit ?_
          refine s_val wkP F42 rfl rfl rfl rfl (y_move F42 rfl rfl) ?_; intro a44 F44; clear F42
          refine s_val wkP F44 rfl rfl rfl rfl (y_move F44 rfl rfl) ?_; intro a45 F45; clear F44
          refine s_val wkP F45 rfl rfl rfl rfl (y_sub F45 rfl rfl rfl (r := ((r - (b - a) : Nat) : Int)) (wrap_i64 (by omega) (by omega) (by omega))) ?_; intro a46 F46; clear F45
          refine s_val wkP F46 rfl rfl rfl rfl (y_assign F46 rfl rfl) ?_; intro a47 F47; clear F46
          refine wpList_nil ?_
          refine c_then ?_
          exact ⟨r - (b - a), F47.cut _ ⟨rfl, rfl, rfl, rfl, rfl, rfl, rfl, rfl, rfl, rfl, rfl, rfl, rfl, rfl, rfl, rfl, rfl, rfl, rfl, rfl, trivial⟩, H33, by omega⟩
        · skip
          refine wp_skip ?_
          refine c_then ?_
          exact ⟨r, F42.cut _ ⟨rfl, rfl, rfl, rfl, rfl, rfl, rfl, rfl, rfl, rfl, rfl, rfl, rfl, rfl, rfl, rfl, rfl, rfl, rfl, rfl, trivial⟩, H33, by omega⟩
      · skip
        clear F38
        rintro a39 w39 ⟨o2, F39, H39, ho2⟩
        refine mix_region [17, 19] [(0, 0), (0, 1), (0, 2), (0, 3), (0, 4), (0, 5), (0, 6), (0, 7), (0, 8), (0, 9), (0, 10), (1, 11), (0, 12), (0, 13), (0, 14), (1, 15), (0, 16), (2, 17), (0, 18), (2, 19)] (fun u => ∃ ls, St w0 u ls) (by kernel_rfl) (by kernel_rfl) ⟨_, H39.drew⟩ ?_
        have H48 := H39.drew
        generalize w39.drew = w48 at H48 ⊢
        refine m_pure F39 rfl rfl rfl rfl (fun u hu => y_move F39 rfl rfl) ?_; intro a49 F49; clear F39
        refine m_pure F49 rfl rfl rfl rfl (fun u hu => y_move F49 rfl rfl) ?_; intro a50 F50; clear F49
        refine m_pure F50 rfl rfl rfl rfl (fun u hu => y_move F50 rfl rfl) ?_; intro a51 F51; clear F50
        refine m_pure F51 rfl rfl rfl rfl (fun u hu => y_move F51 rfl rfl) ?_; intro a52 F52; clear F51
        refine m_pure F52 rfl rfl rfl rfl (fun u hu => y_move F52 rfl rfl) ?_; intro a53 F53; clear F52
        refine m_pure F53 rfl rfl rfl rfl (fun u hu => y_add F53 rfl rfl rfl (r := ((a + o2 : Nat) : Int)) (wrap_i64 (by omega) (by omega) (by omega))) ?_; intro a54 F54; clear F53
        refine m_pure F54 rfl rfl rfl rfl (fun u hu => y_move F54 rfl rfl) ?_; intro a55 F55; clear F54
        refine m_pure F55 rfl rfl rfl rfl (fun u hu => y_move F55 rfl rfl) ?_; intro a56 F56; clear F55
        refine m_pure F56 rfl rfl rfl rfl (fun u hu => y_move F56 rfl rfl) ?_; intro a57 F57; clear F56
        refine m_pure F57 rfl rfl rfl rfl (fun u hu => y_add F57 rfl rfl rfl (r := ((a + o2 : Nat) : Int)) (wrap_i64 (by omega) (by omega) (by omega))) ?_; intro a58 F58; clear F57
        obtain ⟨bb59, hpe59⟩ := hp (by omega)
        obtain ⟨y, my⟩ : ∃ x, (ys)[a + o2]? = some x := ⟨_, List.getElem?_eq_getElem (by first | omega | (simp only [List.length_set]; omega))⟩
        refine m_pure F58 rfl rfl rfl rfl (fun u hu => y_indexP F58 elemU64 rfl rfl rfl hpe59 (by omega)) ?_; intro a61 F61; clear F58
        refine m_read F61 rfl rfl rfl rfl (y_load1 F61 plU64 rfl rfl (Row.elem (inC_len .u64) (H48.ownRowP 1 rfl hpe59) (fun _ _ => trivial) my 0 _ rfl)) ?_; intro a62 F62; clear F61
        refine m_pure F62 rfl rfl rfl rfl (fun u hu => y_move F62 rfl rfl) ?_; intro a63 F63; clear F62
        refine m_pure F63 rfl rfl rfl rfl (fun u hu => y_move F63 rfl rfl) ?_; intro a64 F64; clear F63
        obtain ⟨x, mx⟩ : ∃ x, (ys)[idx]? = some x := ⟨_, List.getElem?_eq_getElem (by first | omega | (simp only [List.length_set]; omega))⟩
        refine m_pure F64 rfl rfl rfl rfl (fun u hu => y_indexP F64 elemU64 rfl rfl rfl hpe59 (by omega)) ?_; intro a66 F66; clear F64
        refine m_read F66 rfl rfl rfl rfl (y_load1 F66 plU64 rfl rfl (Row.elem (inC_len .u64) (H48.ownRowP 1 rfl hpe59) (fun _ _ => trivial) mx 0 _ rfl)) ?_; intro a67 F67; clear F66
        refine m_pure F67 rfl rfl rfl rfl (fun u hu => y_indexP F67 elemU64 rfl rfl rfl hpe59 (by omega)) ?_; intro a68 F68; clear F67
        refine m_heavy rfl rfl ?_
        refine s_setElem wkP F68 rfl rfl z1U64 rfl hpe59 rfl rfl y rfl rfl rfl H48 1 rfl (fun _ => rfl) (by first | omega | (simp only [List.length_set]; omega)) (by omega) ?_; intro w69 h69
        have H69 : St w0 w69 ([HP.blk Bx [.int .u64 (y2)] 69, HP.own 24 1 (.slice p n cap) (n) (rows (inC .u64) (ys.set (idx) y))] ++ ls) := h69
        clear h69
        refine wpList_nil ?_; refine c_then ⟨⟨_, H69⟩, ?_⟩
        obtain ⟨x70, mx70⟩ : ∃ x, ((ys.set (idx) y))[a + o2]? = some x := ⟨_, List.getElem?_eq_getElem (by first | omega | (simp only [List.length_set]; omega))⟩
        refine m_pure F68 rfl rfl rfl rfl (fun u hu => y_indexP F68 elemU64 rfl rfl rfl hpe59 (by omega)) ?_; intro a71 F71; clear F68
        refine m_heavy rfl rfl ?_
        refine s_setElem wkP F71 rfl rfl z1U64 rfl hpe59 rfl rfl x rfl rfl rfl H69 1 rfl (fun _ => rfl) (by first | omega | (simp only [List.length_set]; omega)) (by omega) ?_; intro w72 h72
        have H72 : St w0 w72 ([HP.blk Bx [.int .u64 (y2)] 69, HP.own 24 1 (.slice p n cap) (n) (rows (inC .u64) ((ys.set (idx) y).set (a + o2) x))] ++ ls) := h72
        clear h72
        refine wpList_nil ?_; refine c_then ⟨⟨_, H72⟩, ?_⟩
        refine m_nil ?_
        refine c_blkN ?_
        refine c_then ?_
        refine r_lit ?_
        refine s_val wkP F71 rfl rfl rfl rfl (y_move F71 rfl rfl) ?_; intro a73 F73; clear F71
        refine s_val wkP F73 rfl rfl rfl rfl (y_add F73 rfl rfl rfl (r := ((idx + 1 : Nat) : Int)) (wrap_i64 (by omega) (by omega) (by omega))) ?_; intro a74 F74; clear F73
        refine s_val wkP F74 rfl rfl rfl rfl (y_assign F74 rfl rfl) ?_; intro a75 F75; clear F74
        refine wpList_nil ?_
        refine c_then ?_
        exact ⟨(idx + 1, y2, ((ys.set (idx) y).set (a + o2) x)), ⟨F75.cut _ ⟨rfl, rfl, rfl, rfl, rfl, rfl, trivial⟩, H72, by omega, hsg.swap mx my (by omega) (by omega) (by omega) (by omega), by simp only [List.length_set]; exact hyl⟩, by first | omega | (dsimp only; omega)⟩
    · skip
      refine wp_exit ?_
      refine c_thenX ?_
      refine c_thenX ?_
      refine c_hit ?_
      refine x_end0 F31 rfl ?_
      exact ⟨_, rfl, _, rfl, hsg, St.pickT (A := [HP.blk Bx [.int .u64 (xx)] 69, HP.own 24 1 (.slice p n cap) (n) (rows (inC .u64) ys)]) (B := [HP.own 24 1 (.slice p n cap) (n) (rows (inC .u64) ys)]) [1] H23 (by decide) rfl⟩
  · skip
    refine wp_skip ?_
    refine x_end0 F6 rfl ?_
    exact ⟨_, rfl, _, rfl, Seg.refl _ _ _, H0⟩
theorem ent37 : ∀ args w, (callFunc 37 args).run Try.prog w = .ok (.enter 37 args) w := enters Try.func37 (by kernel_rfl) rfl
end Go.Proofs.Ytchcoenpnmgnhaa
