/- bits.Len. -/
import Derived.Test.YtchcoenpnmgnhaaTalE
import Derived.Test.YtchcoenpnmgnhaaB
set_option linter.unusedSimpArgs false
set_option linter.unusedVariables false
namespace Go.Proofs.Ytchcoenpnmgnhaa
open Go.ChangeShapes Go.WideShapes Go.ChangeAt Go.RowKit Go.Tri
theorem tab_ok (bs : ByteArray) (h : bs.data.toList.zipIdx.all (fun p => p.2 == 0 || decide (2 ^ p.1.toNat ≤ 2 * p.2)) = true) : ∀ j (hj : j < bs.size), 0 < j → 2 ^ (bs[j]'hj).toNat ≤ 2 * j := by
  intro j hj h0
  rw [List.all_eq_true] at h
  have := h ((bs[j]'hj), j) (List.mem_zipIdx_iff_getElem?.2 (by
    rw [List.getElem?_eq_getElem (by simpa using hj)]; rfl))
  simp at this
  omega
set_option maxRecDepth 100000 in
set_option maxHeartbeats 2000000 in
theorem len64 (x : Nat) (hx : x < 4294967296) (w : World) :
    Calls Try.prog 45 [.int .u64 ((x : Nat) : Int)].toArray w (fun e w' => ∃ v, e = .returned v ∧ ∃ k : Nat, v = .int .i64 ((k : Nat) : Int) ∧ k ≤ 1000 ∧ (0 < x → 2 ^ k ≤ 2 * x) ∧ St w w' []) := by
  refine x_enter Try.func45 rfl rfl rfl ?_
  intro a0 F0
  replace F0 : Fr ⟨25, []⟩ a0 [(0, .int .u64 ((x : Nat) : Int))] := F0
  have H0 := St.nil w
  refine wp_seq ?_
  refine r_lit ?_
  refine s_val wkP F0 rfl rfl rfl rfl (y_assign F0 rfl rfl) ?_; intro a1 F1; clear F0
  refine wpList_nil ?_
  refine c_then ?_
  refine wp_seq ?_
  refine wp_seq ?_
  refine r_lit ?_
  refine s_val wkP F1 rfl rfl rfl rfl (y_move F1 rfl rfl) ?_; intro a2 F2; clear F1
  refine s_val wkP F2 rfl rfl rfl rfl (y_geq F2 rfl rfl rfl) ?_; intro a3 F3; clear F2
  refine wpList_nil ?_
  refine c_then ?_
  refine x_condP F3 rfl (fun hc4 => ?_) (fun hc4 => ?_)
  · skip
    omega
  · skip
    refine wp_skip ?_
    refine c_then ?_
    refine wp_seq ?_
    refine wp_seq ?_
    refine r_lit ?_
    refine s_val wkP F3 rfl rfl rfl rfl (y_move F3 rfl rfl) ?_; intro a5 F5; clear F3
    refine s_val wkP F5 rfl rfl rfl rfl (y_geq F5 rfl rfl rfl) ?_; intro a6 F6; clear F5
    refine wpList_nil ?_
    refine c_then ?_
    refine x_condP F6 rfl (fun hc7 => ?_) (fun hc7 => ?_)
    · skip
      refine wp_seq ?_
      refine r_lit ?_
      refine s_val wkP F6 rfl rfl rfl rfl (y_move F6 rfl rfl) ?_; intro a8 F8; clear F6
      refine s_val wkP F8 rfl rfl rfl rfl (y_shr F8 rfl rfl rfl (by decide) (r := (((x : Nat) : Int)) / 65536) (shr_k _ 16 rfl (by decide) (by decide : (2 : Int) ^ 16 = 65536) (by omega) (by omega))) ?_; intro a9 F9; clear F8
      refine s_val wkP F9 rfl rfl rfl rfl (y_assign F9 rfl rfl) ?_; intro a10 F10; clear F9
      refine wpList_nil ?_
      refine c_then ?_
      refine r_lit ?_
      refine s_val wkP F10 rfl rfl rfl rfl (y_move F10 rfl rfl) ?_; intro a11 F11; clear F10
      refine s_val wkP F11 rfl rfl rfl rfl (y_add F11 rfl rfl rfl (r := (0) + (16)) (wrap_i64 (by omega) (by omega) (by omega))) ?_; intro a12 F12; clear F11
      refine s_val wkP F12 rfl rfl rfl rfl (y_assign F12 rfl rfl) ?_; intro a13 F13; clear F12
      refine wpList_nil ?_
      refine c_then ?_
      refine wp_seq ?_
      refine wp_seq ?_
      refine r_lit ?_
      refine s_val wkP F13 rfl rfl rfl rfl (y_move F13 rfl rfl) ?_; intro a14 F14; clear F13
      refine s_val wkP F14 rfl rfl rfl rfl (y_geq F14 rfl rfl rfl) ?_; intro a15 F15; clear F14
      refine wpList_nil ?_
      refine c_then ?_
      refine x_condP F15 rfl (fun hc16 => ?_) (fun hc16 => ?_)
      · skip
        refine wp_seq ?_
        refine r_lit ?_
        refine s_val wkP F15 rfl rfl rfl rfl (y_move F15 rfl rfl) ?_; intro a17 F17; clear F15
        refine s_val wkP F17 rfl rfl rfl rfl (y_shr F17 rfl rfl rfl (by decide) (r := ((((x : Nat) : Int)) / 65536) / 256) (shr_k _ 8 rfl (by decide) (by decide : (2 : Int) ^ 8 = 256) (by omega) (by omega))) ?_; intro a18 F18; clear F17
        refine s_val wkP F18 rfl rfl rfl rfl (y_assign F18 rfl rfl) ?_; intro a19 F19; clear F18
        refine wpList_nil ?_
        refine c_then ?_
        refine r_lit ?_
        refine s_val wkP F19 rfl rfl rfl rfl (y_move F19 rfl rfl) ?_; intro a20 F20; clear F19
        refine s_val wkP F20 rfl rfl rfl rfl (y_add F20 rfl rfl rfl (r := ((0) + (16)) + (8)) (wrap_i64 (by omega) (by omega) (by omega))) ?_; intro a21 F21; clear F20
        refine s_val wkP F21 rfl rfl rfl rfl (y_assign F21 rfl rfl) ?_; intro a22 F22; clear F21
        refine wpList_nil ?_
        refine c_then ?_
        refine wp_seq ?_
        refine r_lit ?_
        refine s_val wkP F22 rfl rfl rfl rfl (y_move F22 rfl rfl) ?_; intro a23 F23; clear F22
        refine s_val wkP F23 rfl rfl rfl rfl (y_move F23 rfl rfl) ?_; intro a24 F24; clear F23
        refine s_val wkP F24 rfl rfl rfl rfl (y_conv F24 Try.underlying24 Try.underlying5 rfl rfl (r := ((((x : Nat) : Int)) / 65536) / 256) (wrap_u8 (by omega) (by omega) (by omega))) ?_; intro a25 F25; clear F24
        refine s_indexStr wkP F25 rfl rfl rfl Try.underlying9 rfl rfl (by kernel_rfl) rfl (by omega) (by omega) (fun j b => 0 < j → 2 ^ b ≤ 2 * j) (tab_ok _ (by kernel_rfl)) ?_; intro bt a26 hbt hq F26; clear F25
        refine s_val wkP F26 rfl rfl rfl rfl (y_conv F26 Try.underlying5 Try.underlying3 rfl rfl (r := ((bt : Nat) : Int)) (wrap_i64 (by omega) (by omega) (by omega))) ?_; intro a27 F27; clear F26
        refine s_val wkP F27 rfl rfl rfl rfl (y_add F27 rfl rfl rfl (r := (((0) + (16)) + (8)) + (((bt : Nat) : Int))) (wrap_i64 (by omega) (by omega) (by omega))) ?_; intro a28 F28; clear F27
        refine s_val wkP F28 rfl rfl rfl rfl (y_assign F28 rfl rfl) ?_; intro a29 F29; clear F28
        refine wpList_nil ?_
        refine c_then ?_
        refine wp_ret ?_
        refine x_ret1 F29 rfl rfl ?_
        refine ⟨_, rfl, 24 + bt, ?_, by omega, ?_, H0⟩
        · exact congrArg _ (by omega)
        · intro h0
          rw [Nat.pow_add, show 2 ^ 24 = 16777216 from rfl]
          have := hq (by omega)
          omega
      · skip
        refine wp_skip ?_
        refine c_then ?_
        refine wp_seq ?_
        refine r_lit ?_
        refine s_val wkP F15 rfl rfl rfl rfl (y_move F15 rfl rfl) ?_; intro a30 F30; clear F15
        refine s_val wkP F30 rfl rfl rfl rfl (y_move F30 rfl rfl) ?_; intro a31 F31; clear F30
        refine s_val wkP F31 rfl rfl rfl rfl (y_conv F31 Try.underlying24 Try.underlying5 rfl rfl (r := (((x : Nat) : Int)) / 65536) (wrap_u8 (by omega) (by omega) (by omega))) ?_; intro a32 F32; clear F31
        refine s_indexStr wkP F32 rfl rfl rfl Try.underlying9 rfl rfl (by kernel_rfl) rfl (by omega) (by omega) (fun j b => 0 < j → 2 ^ b ≤ 2 * j) (tab_ok _ (by kernel_rfl)) ?_; intro bt a33 hbt hq F33; clear F32
        refine s_val wkP F33 rfl rfl rfl rfl (y_conv F33 Try.underlying5 Try.underlying3 rfl rfl (r := ((bt : Nat) : Int)) (wrap_i64 (by omega) (by omega) (by omega))) ?_; intro a34 F34; clear F33
        refine s_val wkP F34 rfl rfl rfl rfl (y_add F34 rfl rfl rfl (r := ((0) + (16)) + (((bt : Nat) : Int))) (wrap_i64 (by omega) (by omega) (by omega))) ?_; intro a35 F35; clear F34
        refine s_val wkP F35 rfl rfl rfl rfl (y_assign F35 rfl rfl) ?_; intro a36 F36; clear F35
        refine wpList_nil ?_
        refine c_then ?_
        refine wp_ret ?_
        refine x_ret1 F36 rfl rfl ?_
        refine ⟨_, rfl, 16 + bt, ?_, by omega, ?_, H0⟩
        · exact congrArg _ (by omega)
        · intro h0
          rw [Nat.pow_add, show 2 ^ 16 = 65536 from rfl]
          have := hq (by omega)
          omega
    · skip
      refine wp_skip ?_
      refine c_then ?_
      refine wp_seq ?_
      refine wp_seq ?_
      refine r_lit ?_
      refine s_val wkP F6 rfl rfl rfl rfl (y_move F6 rfl rfl) ?_; intro a37 F37; clear F6
      refine s_val wkP F37 rfl rfl rfl rfl (y_geq F37 rfl rfl rfl) ?_; intro a38 F38; clear F37
      refine wpList_nil ?_
      refine c_then ?_
      refine x_condP F38 rfl (fun hc39 => ?_) (fun hc39 => ?_)
      · skip
        refine wp_seq ?_
        refine r_lit ?_
        refine s_val wkP F38 rfl rfl rfl rfl (y_move F38 rfl rfl) ?_; intro a40 F40; clear F38
        refine s_val wkP F40 rfl rfl rfl rfl (y_shr F40 rfl rfl rfl (by decide) (r := (((x : Nat) : Int)) / 256) (shr_k _ 8 rfl (by decide) (by decide : (2 : Int) ^ 8 = 256) (by omega) (by omega))) ?_; intro a41 F41; clear F40
        refine s_val wkP F41 rfl rfl rfl rfl (y_assign F41 rfl rfl) ?_; intro a42 F42; clear F41
        refine wpList_nil ?_
        refine c_then ?_
        refine r_lit ?_
        refine s_val wkP F42 rfl rfl rfl rfl (y_move F42 rfl rfl) ?_; intro a43 F43; clear F42
        refine s_val wkP F43 rfl rfl rfl rfl (y_add F43 rfl rfl rfl (r := (0) + (8)) (wrap_i64 (by omega) (by omega) (by omega))) ?_; intro a44 F44; clear F43
        refine s_val wkP F44 rfl rfl rfl rfl (y_assign F44 rfl rfl) ?_; intro a45 F45; clear F44
        refine wpList_nil ?_
        refine c_then ?_
        refine wp_seq ?_
        refine r_lit ?_
        refine s_val wkP F45 rfl rfl rfl rfl (y_move F45 rfl rfl) ?_; intro a46 F46; clear F45
        refine s_val wkP F46 rfl rfl rfl rfl (y_move F46 rfl rfl) ?_; intro a47 F47; clear F46
        refine s_val wkP F47 rfl rfl rfl rfl (y_conv F47 Try.underlying24 Try.underlying5 rfl rfl (r := (((x : Nat) : Int)) / 256) (wrap_u8 (by omega) (by omega) (by omega))) ?_; intro a48 F48; clear F47
        refine s_indexStr wkP F48 rfl rfl rfl Try.underlying9 rfl rfl (by kernel_rfl) rfl (by omega) (by omega) (fun j b => 0 < j → 2 ^ b ≤ 2 * j) (tab_ok _ (by kernel_rfl)) ?_; intro bt a49 hbt hq F49; clear F48
        refine s_val wkP F49 rfl rfl rfl rfl (y_conv F49 Try.underlying5 Try.underlying3 rfl rfl (r := ((bt : Nat) : Int)) (wrap_i64 (by omega) (by omega) (by omega))) ?_; intro a50 F50; clear F49
        refine s_val wkP F50 rfl rfl rfl rfl (y_add F50 rfl rfl rfl (r := ((0) + (8)) + (((bt : Nat) : Int))) (wrap_i64 (by omega) (by omega) (by omega))) ?_; intro a51 F51; clear F50
        refine s_val wkP F51 rfl rfl rfl rfl (y_assign F51 rfl rfl) ?_; intro a52 F52; clear F51
        refine wpList_nil ?_
        refine c_then ?_
        refine wp_ret ?_
        refine x_ret1 F52 rfl rfl ?_
        refine ⟨_, rfl, 8 + bt, ?_, by omega, ?_, H0⟩
        · exact congrArg _ (by omega)
        · intro h0
          rw [Nat.pow_add, show 2 ^ 8 = 256 from rfl]
          have := hq (by omega)
          omega
      · skip
        refine wp_skip ?_
        refine c_then ?_
        refine wp_seq ?_
        refine r_lit ?_
        refine s_val wkP F38 rfl rfl rfl rfl (y_move F38 rfl rfl) ?_; intro a53 F53; clear F38
        refine s_val wkP F53 rfl rfl rfl rfl (y_move F53 rfl rfl) ?_; intro a54 F54; clear F53
        refine s_val wkP F54 rfl rfl rfl rfl (y_conv F54 Try.underlying24 Try.underlying5 rfl rfl (r := ((x : Nat) : Int)) (wrap_u8 (by omega) (by omega) (by omega))) ?_; intro a55 F55; clear F54
        refine s_indexStr wkP F55 rfl rfl rfl Try.underlying9 rfl rfl (by kernel_rfl) rfl (by omega) (by omega) (fun j b => 0 < j → 2 ^ b ≤ 2 * j) (tab_ok _ (by kernel_rfl)) ?_; intro bt a56 hbt hq F56; clear F55
        refine s_val wkP F56 rfl rfl rfl rfl (y_conv F56 Try.underlying5 Try.underlying3 rfl rfl (r := ((bt : Nat) : Int)) (wrap_i64 (by omega) (by omega) (by omega))) ?_; intro a57 F57; clear F56
        refine s_val wkP F57 rfl rfl rfl rfl (y_add F57 rfl rfl rfl (r := (0) + (((bt : Nat) : Int))) (wrap_i64 (by omega) (by omega) (by omega))) ?_; intro a58 F58; clear F57
        refine s_val wkP F58 rfl rfl rfl rfl (y_assign F58 rfl rfl) ?_; intro a59 F59; clear F58
        refine wpList_nil ?_
        refine c_then ?_
        refine wp_ret ?_
        refine x_ret1 F59 rfl rfl ?_
        refine ⟨_, rfl, 0 + bt, ?_, by omega, ?_, H0⟩
        · exact congrArg _ (by omega)
        · intro h0
          rw [Nat.pow_add, show 2 ^ 0 = 1 from rfl]
          have := hq (by omega)
          omega
theorem ent45 : ∀ args w, (callFunc 45 args).run Try.prog w = .ok (.enter 45 args) w := enters Try.func45 (by kernel_rfl) rfl
set_option maxRecDepth 100000 in
set_option maxHeartbeats 2000000 in
theorem bitsLen (x : Nat) (hx : x < 4294967296) (w : World) :
    Calls Try.prog 33 [.int .u64 ((x : Nat) : Int)].toArray w (fun e w' => ∃ v, e = .returned v ∧ ∃ k : Nat, v = .int .i64 ((k : Nat) : Int) ∧ k ≤ 1000 ∧ (0 < x → 2 ^ k ≤ 2 * x) ∧ St w w' []) := by
  refine x_enter Try.func33 rfl rfl rfl ?_
  intro a0 F0
  replace F0 : Fr ⟨8, []⟩ a0 [(0, .int .u64 ((x : Nat) : Int))] := F0
  have H0 := St.nil w
  refine wp_seq ?_
  refine r_lit ?_
  refine s_val wkP F0 rfl rfl rfl rfl (y_assign F0 rfl rfl) ?_; intro a1 F1; clear F0
  refine wpList_nil ?_
  refine c_then ?_
  refine wp_seq ?_
  refine x_condF F1 rfl ?_
  refine wp_skip ?_
  refine c_then ?_
  refine wp_seq ?_
  refine r_lit ?_
  refine s_val wkP F1 rfl rfl rfl rfl (y_move F1 rfl rfl) ?_; intro a3 F3; clear F1
  refine s_call wkP F3 rfl rfl rfl rfl (y_call F3 rfl rfl ent45) (len64 x hx _) ?_; intro v0 w4 a4 hR4 F4; clear F3
  obtain ⟨k0, rfl, hk1, hk2, hE⟩ := hR4
  have H4 : St w w4 [] := H0.call hE
  refine s_val wkP F4 rfl rfl rfl rfl (y_assign F4 rfl rfl) ?_; intro a5 F5; clear F4
  refine wpList_nil ?_
  refine c_then ?_
  refine wp_ret ?_
  refine x_ret1 F5 rfl rfl ?_
  exact ⟨_, rfl, k0, rfl, hk1, hk2, H4⟩
theorem ent33 : ∀ args w, (callFunc 33 args).run Try.prog w = .ok (.enter 33 args) w := enters Try.func33 (by kernel_rfl) rfl
end Go.Proofs.Ytchcoenpnmgnhaa
