/- Names. -/
import Derived.Test.YtodggokkklfopaaDoorPathP
set_option linter.unusedSimpArgs false
set_option linter.unusedVariables false
namespace Go.Proofs.YtodggokkklfopaaDoor
open Go.ChangeShapes Go.WideShapes Go.ChangeAt Go.RowKit Go.Tri
set_option maxRecDepth 100000 in
set_option maxHeartbeats 2000000 in
theorem name (l : List UInt8) (hl : l.length ≤ 4611686018427387903) (w : World) :
    Calls Tryd.prog 10 [.string (txb l)].toArray w (fun e w' => e = .returned (.bool (nameB l)) ∧ St w w' []) := by
  refine x_enter Tryd.func10 rfl rfl rfl ?_
  intro a0 F0
  replace F0 : Fr ⟨33, []⟩ a0 [(0, .string (txb l))] := F0
  have H0 := St.nil w
  refine wp_seq ?_
  refine r_lit ?_
  refine s_val wkP F0 rfl rfl rfl rfl (y_assign F0 rfl rfl) ?_; intro a1 F1; clear F0
  refine wpList_nil ?_
  refine c_then ?_
  refine wp_seq ?_
  refine wp_seq ?_
  refine r_lit ?_
  refine s_val wkP F1 rfl rfl rfl rfl (y_move F1 rfl rfl) ?_; intro a2 F2; clear F1
  refine s_val wkP F2 rfl rfl rfl rfl (y_lenT (l := l) F2 rfl Tryd.underlying9 rfl) ?_; intro a3 F3; clear F2
  refine s_val wkP F3 rfl rfl rfl rfl (y_move F3 rfl rfl) ?_; intro a4 F4; clear F3
  refine wpList_nil ?_
  refine c_then ?_
  refine wp_block ?_
  refine x_loop (G := Nat) (fun k aa ww => Fr ⟨33, []⟩ aa [(0, .string (txb (l))), (5, .int .i64 ((((l).length : Nat) : Int))), (6, .int .i64 (((k : Nat) : Int)))] ∧ St w ww [] ∧ (k ≤ l.length) ∧ ((l.take k).all okc = true)) (fun k => l.length - k) 0 ⟨F4.cut _ ⟨rfl, rfl, rfl, trivial⟩, H0, Nat.zero_le _, rfl⟩ ?_
  clear F4
  rintro k a5 w5 ⟨F5, H5, hk, hall⟩
  refine wp_seq ?_
  refine r_lit ?_
  refine s_val wkP F5 rfl rfl rfl rfl (y_lss F5 rfl rfl rfl) ?_; intro a6 F6; clear F5
  refine wpList_nil ?_
  refine c_then ?_
  refine wp_seq ?_
  refine x_condP F6 rfl (fun hlt => ?_) (fun hlt => ?_)
  · skip
    refine wp_skip ?_
    refine c_then ?_
    refine wp_seq ?_
    refine wp_block ?_
    refine wp_seq ?_
    refine r_lit ?_
    refine s_val wkP F6 rfl rfl rfl rfl (y_move F6 rfl rfl) ?_; intro a8 F8; clear F6
    refine s_val wkP F8 rfl rfl rfl rfl (y_assign F8 rfl rfl) ?_; intro a9 F9; clear F8
    refine wpList_nil ?_
    refine c_then ?_
    refine wp_seq ?_
    refine r_lit ?_
    refine s_val wkP F9 rfl rfl rfl rfl (y_move F9 rfl rfl) ?_; intro a10 F10; clear F9
    refine s_val wkP F10 rfl rfl rfl rfl (y_move F10 rfl rfl) ?_; intro a11 F11; clear F10
    obtain ⟨c, mc⟩ : ∃ x, (l)[k]? = some x := ⟨_, List.getElem?_eq_getElem (by omega)⟩
    have hc := c.toNat_lt
    refine s_val wkP F11 rfl rfl rfl rfl (y_indexT (l := l) (i := k) F11 rfl Tryd.underlying9 rfl rfl mc) ?_; intro a13 F13; clear F11
    refine s_val wkP F13 rfl rfl rfl rfl (y_lss F13 rfl rfl rfl) ?_; intro a14 F14; clear F13
    refine s_val wkP F14 rfl rfl rfl rfl (y_move F14 rfl rfl) ?_; intro a15 F15; clear F14
    refine g_split (k := 13) F15 rfl (fun hb1 F16 => ?_) (fun hb1 F16 => ?_)
    · clear F15
      refine g_off wkP F16 rfl rfl rfl rfl rfl rfl rfl ?_; intro a17 F17; clear F16
      refine g_off wkP F17 rfl rfl rfl rfl rfl rfl rfl ?_; intro a18 F18; clear F17
      refine g_off wkP F18 rfl rfl rfl rfl rfl rfl rfl ?_; intro a19 F19; clear F18
      refine g_off wkP F19 rfl rfl rfl rfl rfl rfl rfl ?_; intro a20 F20; clear F19
      refine s_val wkP F20 rfl rfl rfl rfl (y_pickT F20 rfl rfl rfl) ?_; intro a21 F21; clear F20
      refine s_val wkP F21 rfl rfl rfl rfl (y_move F21 rfl rfl) ?_; intro a22 F22; clear F21
      refine g_off wkP F22 rfl rfl rfl rfl rfl rfl rfl ?_; intro a23 F23; clear F22
      refine g_off wkP F23 rfl rfl rfl rfl rfl rfl rfl ?_; intro a24 F24; clear F23
      refine g_off wkP F24 rfl rfl rfl rfl rfl rfl rfl ?_; intro a25 F25; clear F24
      refine g_off wkP F25 rfl rfl rfl rfl rfl rfl rfl ?_; intro a26 F26; clear F25
      refine s_val wkP F26 rfl rfl rfl rfl (y_pickT F26 rfl rfl rfl) ?_; intro a27 F27; clear F26
      refine wpList_nil ?_
      refine c_then ?_
      refine x_condT F27 rfl ?_
      refine wp_seq ?_
      refine r_lit ?_
      refine s_val wkP F27 rfl rfl rfl rfl (y_assign F27 rfl rfl) ?_; intro a29 F29; clear F27
      refine wpList_nil ?_
      refine c_then ?_
      refine wp_ret ?_
      refine c_blkR ?_
      refine c_thenR ?_
      refine c_thenR ?_
      refine c_blkR ?_
      refine c_thenR ?_
      refine x_ret1 F29 rfl rfl ?_
      exact ⟨ret_bool (name_bad mc (by first | exact okc_lo hb1 | exact okc_hi hb2 | exact okc_sl hb3)).symm, H5⟩
    · clear F15
      refine g_onP F16 rfl rfl rfl rfl ?_
      refine s_val wkP F16 rfl rfl rfl rfl (y_move F16 rfl rfl) ?_; intro a30 F30; clear F16
      refine g_onP F30 rfl rfl rfl rfl ?_
      refine s_val wkP F30 rfl rfl rfl rfl (y_move F30 rfl rfl) ?_; intro a31 F31; clear F30
      refine g_onP F31 rfl rfl rfl rfl ?_
      refine s_val wkP F31 rfl rfl rfl rfl (y_indexT (l := l) (i := k) F31 rfl Tryd.underlying9 rfl rfl mc) ?_; intro a32 F32; clear F31
      refine g_onP F32 rfl rfl rfl rfl ?_
      refine s_val wkP F32 rfl rfl rfl rfl (y_gtr F32 rfl rfl rfl) ?_; intro a33 F33; clear F32
      refine s_val wkP F33 rfl rfl rfl rfl (y_pickF F33 rfl rfl rfl) ?_; intro a34 F34; clear F33
      refine s_val wkP F34 rfl rfl rfl rfl (y_move F34 rfl rfl) ?_; intro a35 F35; clear F34
      refine g_split (k := 19) F35 rfl (fun hb2 F36 => ?_) (fun hb2 F36 => ?_)
      · clear F35
        refine g_off wkP F36 rfl rfl rfl rfl rfl rfl rfl ?_; intro a37 F37; clear F36
        refine g_off wkP F37 rfl rfl rfl rfl rfl rfl rfl ?_; intro a38 F38; clear F37
        refine g_off wkP F38 rfl rfl rfl rfl rfl rfl rfl ?_; intro a39 F39; clear F38
        refine g_off wkP F39 rfl rfl rfl rfl rfl rfl rfl ?_; intro a40 F40; clear F39
        refine s_val wkP F40 rfl rfl rfl rfl (y_pickT F40 rfl rfl rfl) ?_; intro a41 F41; clear F40
        refine wpList_nil ?_
        refine c_then ?_
        refine x_condT F41 rfl ?_
        refine wp_seq ?_
        refine r_lit ?_
        refine s_val wkP F41 rfl rfl rfl rfl (y_assign F41 rfl rfl) ?_; intro a43 F43; clear F41
        refine wpList_nil ?_
        refine c_then ?_
        refine wp_ret ?_
        refine c_blkR ?_
        refine c_thenR ?_
        refine c_thenR ?_
        refine c_blkR ?_
        refine c_thenR ?_
        refine x_ret1 F43 rfl rfl ?_
        exact ⟨ret_bool (name_bad mc (by first | exact okc_lo hb1 | exact okc_hi hb2 | exact okc_sl hb3)).symm, H5⟩
      · clear F35
        refine g_onP F36 rfl rfl rfl rfl ?_
        refine s_val wkP F36 rfl rfl rfl rfl (y_move F36 rfl rfl) ?_; intro a44 F44; clear F36
        refine g_onP F44 rfl rfl rfl rfl ?_
        refine s_val wkP F44 rfl rfl rfl rfl (y_move F44 rfl rfl) ?_; intro a45 F45; clear F44
        refine g_onP F45 rfl rfl rfl rfl ?_
        refine s_val wkP F45 rfl rfl rfl rfl (y_indexT (l := l) (i := k) F45 rfl Tryd.underlying9 rfl rfl mc) ?_; intro a46 F46; clear F45
        refine g_onP F46 rfl rfl rfl rfl ?_
        refine s_val wkP F46 rfl rfl rfl rfl (y_eql F46 rfl rfl rfl) ?_; intro a47 F47; clear F46
        refine s_val wkP F47 rfl rfl rfl rfl (y_pickF F47 rfl rfl rfl) ?_; intro a48 F48; clear F47
        refine wpList_nil ?_
        refine c_then ?_
        refine x_condP F48 rfl (fun hb3 => ?_) (fun hb3 => ?_)
        · skip
          refine wp_seq ?_
          refine r_lit ?_
          refine s_val wkP F48 rfl rfl rfl rfl (y_assign F48 rfl rfl) ?_; intro a50 F50; clear F48
          refine wpList_nil ?_
          refine c_then ?_
          refine wp_ret ?_
          refine c_blkR ?_
          refine c_thenR ?_
          refine c_thenR ?_
          refine c_blkR ?_
          refine c_thenR ?_
          refine x_ret1 F50 rfl rfl ?_
          exact ⟨ret_bool (name_bad mc (by first | exact okc_lo hb1 | exact okc_hi hb2 | exact okc_sl hb3)).symm, H5⟩
        · skip
          refine wp_skip ?_
          refine c_blkN ?_
          refine c_then ?_
          refine r_lit ?_
          refine s_val wkP F48 rfl rfl rfl rfl (y_add F48 rfl rfl rfl (r := (((k : Nat) : Int)) + (1)) (wrap_i64 (by omega) (by omega) (by omega))) ?_; intro a51 F51; clear F48
          refine s_val wkP F51 rfl rfl rfl rfl (y_move F51 rfl rfl) ?_; intro a52 F52; clear F51
          refine wpList_nil ?_
          refine c_then ?_
          exact ⟨k + 1, ⟨F52.cut _ ⟨rfl, rfl, rfl, trivial⟩, H5, by omega, all_succ mc hall (okc_true hb1 hb2 hb3)⟩, by first | omega | (dsimp only; omega)⟩
  · skip
    refine wp_exit ?_
    refine c_thenX ?_
    refine c_thenX ?_
    refine c_hit ?_
    refine c_then ?_
    refine wp_seq ?_
    refine r_lit ?_
    refine s_val wkP F6 rfl rfl rfl rfl (y_move F6 rfl rfl) ?_; intro a53 F53; clear F6
    refine s_val wkP F53 rfl rfl rfl rfl (y_neT (l := l) (m := []) F53 rfl rfl rfl) ?_; intro a54 F54; clear F53
    refine s_val wkP F54 rfl rfl rfl rfl (y_move F54 rfl rfl) ?_; intro a55 F55; clear F54
    refine g_splitN (k := 28) F55 rfl (fun hne F56 => ?_) (fun hne F56 => ?_)
    · clear F55
      refine g_onP F56 rfl rfl rfl rfl ?_
      refine s_val wkP F56 rfl rfl rfl rfl (y_move F56 rfl rfl) ?_; intro a57 F57; clear F56
      refine g_onP F57 rfl rfl rfl rfl ?_
      refine s_val wkP F57 rfl rfl rfl rfl (y_lenT (l := l) F57 rfl Tryd.underlying9 rfl) ?_; intro a58 F58; clear F57
      refine g_onP F58 rfl rfl rfl rfl ?_
      refine s_val wkP F58 rfl rfl rfl rfl (y_leq F58 rfl rfl rfl) ?_; intro a59 F59; clear F58
      refine s_val wkP F59 rfl rfl rfl rfl (y_pickT F59 rfl rfl rfl) ?_; intro a60 F60; clear F59
      refine s_val wkP F60 rfl rfl rfl rfl (y_assign F60 rfl rfl) ?_; intro a61 F61; clear F60
      refine wpList_nil ?_
      refine c_then ?_
      refine wp_ret ?_
      refine x_ret1 F61 rfl rfl ?_
      refine ⟨ret_bool ?_, H5⟩
      obtain rfl : k = l.length := by omega
      rw [List.take_length] at hall
      have h1 : 1 ≤ l.length := by cases l with | nil => exact absurd rfl hne | cons _ _ => simp
      simp [nameB, hall, h1]
      omega
    · clear F55
      refine g_off wkP F56 rfl rfl rfl rfl rfl rfl rfl ?_; intro a62 F62; clear F56
      refine g_off wkP F62 rfl rfl rfl rfl rfl rfl rfl ?_; intro a63 F63; clear F62
      refine g_off wkP F63 rfl rfl rfl rfl rfl rfl rfl ?_; intro a64 F64; clear F63
      refine s_val wkP F64 rfl rfl rfl rfl (y_pickF F64 rfl rfl rfl) ?_; intro a65 F65; clear F64
      refine s_val wkP F65 rfl rfl rfl rfl (y_assign F65 rfl rfl) ?_; intro a66 F66; clear F65
      refine wpList_nil ?_
      refine c_then ?_
      refine wp_ret ?_
      refine x_ret1 F66 rfl rfl ?_
      refine ⟨ret_bool ?_, H5⟩
      subst hne
      rfl
theorem ent10 : ∀ args w, (callFunc 10 args).run Tryd.prog w = .ok (.enter 10 args) w := enters Tryd.func10 (by kernel_rfl) rfl
set_option maxRecDepth 100000 in
set_option maxHeartbeats 2000000 in
theorem rname (l : List UInt8) (hl : l.length ≤ 4611686018427387903) (w : World) :
    Calls Tryd.prog 11 [.string (txb l)].toArray w (fun e w' => e = .returned (.bool (nameB l)) ∧ St w w' []) := by
  refine x_enter Tryd.func11 rfl rfl rfl ?_
  intro a0 F0
  replace F0 : Fr ⟨34, []⟩ a0 [(0, .string (txb l))] := F0
  have H0 := St.nil w
  refine wp_seq ?_
  refine r_lit ?_
  refine s_val wkP F0 rfl rfl rfl rfl (y_assign F0 rfl rfl) ?_; intro a1 F1; clear F0
  refine wpList_nil ?_
  refine c_then ?_
  refine wp_seq ?_
  refine wp_seq ?_
  refine r_lit ?_
  refine s_val wkP F1 rfl rfl rfl rfl (y_move F1 rfl rfl) ?_; intro a2 F2; clear F1
  refine s_val wkP F2 rfl rfl rfl rfl (y_lenT (l := l) F2 rfl Tryd.underlying9 rfl) ?_; intro a3 F3; clear F2
  refine s_val wkP F3 rfl rfl rfl rfl (y_lss F3 rfl rfl rfl) ?_; intro a4 F4; clear F3
  refine s_val wkP F4 rfl rfl rfl rfl (y_move F4 rfl rfl) ?_; intro a5 F5; clear F4
  refine g_split (k := 7) F5 rfl (fun h1 F6 => ?_) (fun h1 F6 => ?_)
  · clear F5
    refine g_off wkP F6 rfl rfl rfl rfl rfl rfl rfl ?_; intro a7 F7; clear F6
    refine g_off wkP F7 rfl rfl rfl rfl rfl rfl rfl ?_; intro a8 F8; clear F7
    refine g_off wkP F8 rfl rfl rfl rfl rfl rfl rfl ?_; intro a9 F9; clear F8
    refine s_val wkP F9 rfl rfl rfl rfl (y_pickT F9 rfl rfl rfl) ?_; intro a10 F10; clear F9
    refine wpList_nil ?_
    refine c_then ?_
    refine x_condT F10 rfl ?_
    refine wp_seq ?_
    refine r_lit ?_
    refine s_val wkP F10 rfl rfl rfl rfl (y_assign F10 rfl rfl) ?_; intro a12 F12; clear F10
    refine wpList_nil ?_
    refine c_then ?_
    refine wp_ret ?_
    refine c_thenR ?_
    refine x_ret1 F12 rfl rfl ?_
    refine ⟨ret_bool ?_, H0⟩
    simp [nameB]
    intros
    omega
  · clear F5
    refine g_onP F6 rfl rfl rfl rfl ?_
    refine s_val wkP F6 rfl rfl rfl rfl (y_move F6 rfl rfl) ?_; intro a13 F13; clear F6
    refine g_onP F13 rfl rfl rfl rfl ?_
    refine s_val wkP F13 rfl rfl rfl rfl (y_lenT (l := l) F13 rfl Tryd.underlying9 rfl) ?_; intro a14 F14; clear F13
    refine g_onP F14 rfl rfl rfl rfl ?_
    refine s_val wkP F14 rfl rfl rfl rfl (y_gtr F14 rfl rfl rfl) ?_; intro a15 F15; clear F14
    refine s_val wkP F15 rfl rfl rfl rfl (y_pickF F15 rfl rfl rfl) ?_; intro a16 F16; clear F15
    refine wpList_nil ?_
    refine c_then ?_
    refine x_condP F16 rfl (fun h8 => ?_) (fun h8 => ?_)
    · skip
      refine wp_seq ?_
      refine r_lit ?_
      refine s_val wkP F16 rfl rfl rfl rfl (y_assign F16 rfl rfl) ?_; intro a18 F18; clear F16
      refine wpList_nil ?_
      refine c_then ?_
      refine wp_ret ?_
      refine c_thenR ?_
      refine x_ret1 F18 rfl rfl ?_
      refine ⟨ret_bool ?_, H0⟩
      simp [nameB]
      intros
      omega
    · skip
      refine wp_skip ?_
      refine c_then ?_
      refine wp_seq ?_
      refine wp_seq ?_
      refine r_lit ?_
      refine s_val wkP F16 rfl rfl rfl rfl (y_assign F16 rfl rfl) ?_; intro a19 F19; clear F16
      refine wpList_nil ?_
      refine c_then ?_
      refine wp_block ?_
      refine x_loop (G := Nat) (fun k aa ww => Fr ⟨34, []⟩ aa [(0, .string (txb (l))), (3, .int .i64 (((k : Nat) : Int)))] ∧ St w ww [] ∧ (k ≤ l.length) ∧ ((l.take k).all okc = true)) (fun k => l.length - k) 0 ⟨F19.cut _ ⟨rfl, rfl, trivial⟩, H0, Nat.zero_le _, rfl⟩ ?_
      clear F19
      rintro k a20 w20 ⟨F20, H20, hk, hall⟩
      refine wp_seq ?_
      refine wp_seq ?_
      refine r_lit ?_
      refine s_val wkP F20 rfl rfl rfl rfl (y_move F20 rfl rfl) ?_; intro a21 F21; clear F20
      refine s_val wkP F21 rfl rfl rfl rfl (y_move F21 rfl rfl) ?_; intro a22 F22; clear F21
      refine s_val wkP F22 rfl rfl rfl rfl (y_lenT (l := l) F22 rfl Tryd.underlying9 rfl) ?_; intro a23 F23; clear F22
      refine s_val wkP F23 rfl rfl rfl rfl (y_lss F23 rfl rfl rfl) ?_; intro a24 F24; clear F23
      refine wpList_nil ?_
      refine c_then ?_
      refine x_condP F24 rfl (fun hlt => ?_) (fun hlt => ?_)
      · skip
        refine wp_skip ?_
        refine c_then ?_
        refine wp_seq ?_
        refine wp_block ?_
        refine wp_seq ?_
        refine r_lit ?_
        refine s_val wkP F24 rfl rfl rfl rfl (y_move F24 rfl rfl) ?_; intro a26 F26; clear F24
        refine s_val wkP F26 rfl rfl rfl rfl (y_move F26 rfl rfl) ?_; intro a27 F27; clear F26
        obtain ⟨c, mc⟩ : ∃ x, (l)[k]? = some x := ⟨_, List.getElem?_eq_getElem (by omega)⟩
        have hc := c.toNat_lt
        refine s_val wkP F27 rfl rfl rfl rfl (y_indexT (l := l) (i := k) F27 rfl Tryd.underlying9 rfl rfl mc) ?_; intro a29 F29; clear F27
        refine s_val wkP F29 rfl rfl rfl rfl (y_lss F29 rfl rfl rfl) ?_; intro a30 F30; clear F29
        refine s_val wkP F30 rfl rfl rfl rfl (y_move F30 rfl rfl) ?_; intro a31 F31; clear F30
        refine g_split (k := 22) F31 rfl (fun hb1 F32 => ?_) (fun hb1 F32 => ?_)
        · clear F31
          refine g_off wkP F32 rfl rfl rfl rfl rfl rfl rfl ?_; intro a33 F33; clear F32
          refine g_off wkP F33 rfl rfl rfl rfl rfl rfl rfl ?_; intro a34 F34; clear F33
          refine g_off wkP F34 rfl rfl rfl rfl rfl rfl rfl ?_; intro a35 F35; clear F34
          refine g_off wkP F35 rfl rfl rfl rfl rfl rfl rfl ?_; intro a36 F36; clear F35
          refine s_val wkP F36 rfl rfl rfl rfl (y_pickT F36 rfl rfl rfl) ?_; intro a37 F37; clear F36
          refine s_val wkP F37 rfl rfl rfl rfl (y_move F37 rfl rfl) ?_; intro a38 F38; clear F37
          refine g_off wkP F38 rfl rfl rfl rfl rfl rfl rfl ?_; intro a39 F39; clear F38
          refine g_off wkP F39 rfl rfl rfl rfl rfl rfl rfl ?_; intro a40 F40; clear F39
          refine g_off wkP F40 rfl rfl rfl rfl rfl rfl rfl ?_; intro a41 F41; clear F40
          refine g_off wkP F41 rfl rfl rfl rfl rfl rfl rfl ?_; intro a42 F42; clear F41
          refine s_val wkP F42 rfl rfl rfl rfl (y_pickT F42 rfl rfl rfl) ?_; intro a43 F43; clear F42
          refine wpList_nil ?_
          refine c_then ?_
          refine x_condT F43 rfl ?_
          refine wp_seq ?_
          refine r_lit ?_
          refine s_val wkP F43 rfl rfl rfl rfl (y_assign F43 rfl rfl) ?_; intro a45 F45; clear F43
          refine wpList_nil ?_
          refine c_then ?_
          refine wp_ret ?_
          refine c_blkR ?_
          refine c_thenR ?_
          refine c_thenR ?_
          refine c_blkR ?_
          refine c_thenR ?_
          refine x_ret1 F45 rfl rfl ?_
          exact ⟨ret_bool (name_bad mc (by first | exact okc_lo hb1 | exact okc_hi hb2 | exact okc_sl hb3)).symm, H20⟩
        · clear F31
          refine g_onP F32 rfl rfl rfl rfl ?_
          refine s_val wkP F32 rfl rfl rfl rfl (y_move F32 rfl rfl) ?_; intro a46 F46; clear F32
          refine g_onP F46 rfl rfl rfl rfl ?_
          refine s_val wkP F46 rfl rfl rfl rfl (y_move F46 rfl rfl) ?_; intro a47 F47; clear F46
          refine g_onP F47 rfl rfl rfl rfl ?_
          refine s_val wkP F47 rfl rfl rfl rfl (y_indexT (l := l) (i := k) F47 rfl Tryd.underlying9 rfl rfl mc) ?_; intro a48 F48; clear F47
          refine g_onP F48 rfl rfl rfl rfl ?_
          refine s_val wkP F48 rfl rfl rfl rfl (y_gtr F48 rfl rfl rfl) ?_; intro a49 F49; clear F48
          refine s_val wkP F49 rfl rfl rfl rfl (y_pickF F49 rfl rfl rfl) ?_; intro a50 F50; clear F49
          refine s_val wkP F50 rfl rfl rfl rfl (y_move F50 rfl rfl) ?_; intro a51 F51; clear F50
          refine g_split (k := 28) F51 rfl (fun hb2 F52 => ?_) (fun hb2 F52 => ?_)
          · clear F51
            refine g_off wkP F52 rfl rfl rfl rfl rfl rfl rfl ?_; intro a53 F53; clear F52
            refine g_off wkP F53 rfl rfl rfl rfl rfl rfl rfl ?_; intro a54 F54; clear F53
            refine g_off wkP F54 rfl rfl rfl rfl rfl rfl rfl ?_; intro a55 F55; clear F54
            refine g_off wkP F55 rfl rfl rfl rfl rfl rfl rfl ?_; intro a56 F56; clear F55
            refine s_val wkP F56 rfl rfl rfl rfl (y_pickT F56 rfl rfl rfl) ?_; intro a57 F57; clear F56
            refine wpList_nil ?_
            refine c_then ?_
            refine x_condT F57 rfl ?_
            refine wp_seq ?_
            refine r_lit ?_
            refine s_val wkP F57 rfl rfl rfl rfl (y_assign F57 rfl rfl) ?_; intro a59 F59; clear F57
            refine wpList_nil ?_
            refine c_then ?_
            refine wp_ret ?_
            refine c_blkR ?_
            refine c_thenR ?_
            refine c_thenR ?_
            refine c_blkR ?_
            refine c_thenR ?_
            refine x_ret1 F59 rfl rfl ?_
            exact ⟨ret_bool (name_bad mc (by first | exact okc_lo hb1 | exact okc_hi hb2 | exact okc_sl hb3)).symm, H20⟩
          · clear F51
            refine g_onP F52 rfl rfl rfl rfl ?_
            refine s_val wkP F52 rfl rfl rfl rfl (y_move F52 rfl rfl) ?_; intro a60 F60; clear F52
            refine g_onP F60 rfl rfl rfl rfl ?_
            refine s_val wkP F60 rfl rfl rfl rfl (y_move F60 rfl rfl) ?_; intro a61 F61; clear F60
            refine g_onP F61 rfl rfl rfl rfl ?_
            refine s_val wkP F61 rfl rfl rfl rfl (y_indexT (l := l) (i := k) F61 rfl Tryd.underlying9 rfl rfl mc) ?_; intro a62 F62; clear F61
            refine g_onP F62 rfl rfl rfl rfl ?_
            refine s_val wkP F62 rfl rfl rfl rfl (y_eql F62 rfl rfl rfl) ?_; intro a63 F63; clear F62
            refine s_val wkP F63 rfl rfl rfl rfl (y_pickF F63 rfl rfl rfl) ?_; intro a64 F64; clear F63
            refine wpList_nil ?_
            refine c_then ?_
            refine x_condP F64 rfl (fun hb3 => ?_) (fun hb3 => ?_)
            · skip
              refine wp_seq ?_
              refine r_lit ?_
              refine s_val wkP F64 rfl rfl rfl rfl (y_assign F64 rfl rfl) ?_; intro a66 F66; clear F64
              refine wpList_nil ?_
              refine c_then ?_
              refine wp_ret ?_
              refine c_blkR ?_
              refine c_thenR ?_
              refine c_thenR ?_
              refine c_blkR ?_
              refine c_thenR ?_
              refine x_ret1 F66 rfl rfl ?_
              exact ⟨ret_bool (name_bad mc (by first | exact okc_lo hb1 | exact okc_hi hb2 | exact okc_sl hb3)).symm, H20⟩
            · skip
              refine wp_skip ?_
              refine c_blkN ?_
              refine c_then ?_
              refine r_lit ?_
              refine s_val wkP F64 rfl rfl rfl rfl (y_move F64 rfl rfl) ?_; intro a67 F67; clear F64
              refine s_val wkP F67 rfl rfl rfl rfl (y_add F67 rfl rfl rfl (r := (((k : Nat) : Int)) + (1)) (wrap_i64 (by omega) (by omega) (by omega))) ?_; intro a68 F68; clear F67
              refine s_val wkP F68 rfl rfl rfl rfl (y_assign F68 rfl rfl) ?_; intro a69 F69; clear F68
              refine wpList_nil ?_
              refine c_then ?_
              exact ⟨k + 1, ⟨F69.cut _ ⟨rfl, rfl, trivial⟩, H20, by omega, all_succ mc hall (okc_true hb1 hb2 hb3)⟩, by first | omega | (dsimp only; omega)⟩
      · skip
        refine wp_exit ?_
        refine c_thenX ?_
        refine c_thenX ?_
        refine c_hit ?_
        refine c_then ?_
        refine wp_seq ?_
        refine r_lit ?_
        refine s_val wkP F24 rfl rfl rfl rfl (y_assign F24 rfl rfl) ?_; intro a70 F70; clear F24
        refine wpList_nil ?_
        refine c_then ?_
        refine wp_ret ?_
        refine x_ret1 F70 rfl rfl ?_
        obtain rfl : k = l.length := by omega
        rw [List.take_length] at hall
        exact ⟨ret_bool (name_good hall (by omega) (by omega)).symm, H20⟩
theorem ent11 : ∀ args w, (callFunc 11 args).run Tryd.prog w = .ok (.enter 11 args) w := enters Tryd.func11 (by kernel_rfl) rfl
end Go.Proofs.YtodggokkklfopaaDoor
