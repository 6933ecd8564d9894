/- PathJoins. -/
import Derived.Test.YtodggokkklfopaaDoorPatG
set_option linter.unusedSimpArgs false
set_option linter.unusedVariables false
namespace Go.Proofs.YtodggokkklfopaaDoor
open Go.ChangeShapes Go.WideShapes Go.ChangeAt Go.RowKit Go.Tri
set_option maxRecDepth 100000 in
set_option maxHeartbeats 2000000 in
theorem lawJoins (l m : List UInt8) (w : World) :
    Calls Tryd.prog 6 [.string (txb l), .string (txb m)].toArray w (fun e w' => e = .returned (.bool true) ∧ Below w.heap.size w w') := by
  refine x_enter Tryd.func6 rfl rfl rfl ?_
  intro a0 F0
  replace F0 : Fr ⟨89, []⟩ a0 [(0, .string (txb l)), (1, .string (txb m))] := F0
  have H0 := St.nil w
  refine wp_seq ?_
  refine r_lit ?_
  refine s_val wkP F0 rfl rfl rfl rfl (y_assign F0 rfl rfl) ?_; intro a1 F1; clear F0
  refine wpList_nil ?_
  refine c_then ?_
  refine wp_seq ?_
  refine wp_seq ?_
  refine r_lit ?_
  refine s_callV wkP F1 rfl rfl rfl rfl (y_call F1 rfl rfl ent7) (speaks _) ?_; intro w2 a2 hR2 F2; clear F1
  have H2 : St w w2 [] := H0.call hR2
  refine s_val wkP F2 rfl rfl rfl rfl (y_not F2 rfl rfl) ?_; intro a3 F3; clear F2
  refine wpList_nil ?_
  refine c_then ?_
  refine x_condF F3 rfl ?_
  refine wp_skip ?_
  refine c_then ?_
  refine wp_seq ?_
  refine wp_seq ?_
  refine r_lit ?_
  refine s_val wkP F3 rfl rfl rfl rfl (y_move F3 rfl rfl) ?_; intro a5 F5; clear F3
  refine s_val wkP F5 rfl rfl rfl rfl (y_lenT (l := l) F5 rfl Tryd.underlying9 rfl) ?_; intro a6 F6; clear F5
  refine s_val wkP F6 rfl rfl rfl rfl (y_gtr F6 rfl rfl rfl) ?_; intro a7 F7; clear F6
  refine s_val wkP F7 rfl rfl rfl rfl (y_move F7 rfl rfl) ?_; intro a8 F8; clear F7
  refine g_split (k := 11) F8 rfl (fun hl F9 => ?_) (fun hl F9 => ?_)
  · clear F8
    refine g_off wkP F9 rfl rfl rfl rfl rfl rfl rfl ?_; intro a10 F10; clear F9
    refine g_off wkP F10 rfl rfl rfl rfl rfl rfl rfl ?_; intro a11 F11; clear F10
    refine g_off wkP F11 rfl rfl rfl rfl rfl rfl rfl ?_; intro a12 F12; clear F11
    refine s_val wkP F12 rfl rfl rfl rfl (y_pickT F12 rfl rfl rfl) ?_; intro a13 F13; clear F12
    refine s_val wkP F13 rfl rfl rfl rfl (y_move F13 rfl rfl) ?_; intro a14 F14; clear F13
    refine g_off wkP F14 rfl rfl rfl rfl rfl rfl rfl ?_; intro a15 F15; clear F14
    refine g_off wkP F15 rfl rfl rfl rfl rfl rfl rfl ?_; intro a16 F16; clear F15
    refine g_off wkP F16 rfl rfl rfl rfl rfl rfl rfl ?_; intro a17 F17; clear F16
    refine s_val wkP F17 rfl rfl rfl rfl (y_pickT F17 rfl rfl rfl) ?_; intro a18 F18; clear F17
    refine wpList_nil ?_
    refine c_then ?_
    refine x_condT F18 rfl ?_
    refine wp_seq ?_
    refine r_lit ?_
    refine s_val wkP F18 rfl rfl rfl rfl (y_assign F18 rfl rfl) ?_; intro a20 F20; clear F18
    refine wpList_nil ?_
    refine c_then ?_
    refine wp_ret ?_
    refine c_thenR ?_
    refine x_ret1 F20 rfl rfl ?_
    exact ⟨rfl, H2.below⟩
  · clear F8
    refine g_onP F9 rfl rfl rfl rfl ?_
    refine s_val wkP F9 rfl rfl rfl rfl (y_move F9 rfl rfl) ?_; intro a21 F21; clear F9
    refine g_onP F21 rfl rfl rfl rfl ?_
    refine s_val wkP F21 rfl rfl rfl rfl (y_lenT (l := m) F21 rfl Tryd.underlying9 rfl) ?_; intro a22 F22; clear F21
    refine g_onP F22 rfl rfl rfl rfl ?_
    refine s_val wkP F22 rfl rfl rfl rfl (y_gtr F22 rfl rfl rfl) ?_; intro a23 F23; clear F22
    refine s_val wkP F23 rfl rfl rfl rfl (y_pickF F23 rfl rfl rfl) ?_; intro a24 F24; clear F23
    refine s_val wkP F24 rfl rfl rfl rfl (y_move F24 rfl rfl) ?_; intro a25 F25; clear F24
    refine g_split (k := 16) F25 rfl (fun hm F26 => ?_) (fun hm F26 => ?_)
    · clear F25
      refine g_off wkP F26 rfl rfl rfl rfl rfl rfl rfl ?_; intro a27 F27; clear F26
      refine g_off wkP F27 rfl rfl rfl rfl rfl rfl rfl ?_; intro a28 F28; clear F27
      refine g_off wkP F28 rfl rfl rfl rfl rfl rfl rfl ?_; intro a29 F29; clear F28
      refine s_val wkP F29 rfl rfl rfl rfl (y_pickT F29 rfl rfl rfl) ?_; intro a30 F30; clear F29
      refine wpList_nil ?_
      refine c_then ?_
      refine x_condT F30 rfl ?_
      refine wp_seq ?_
      refine r_lit ?_
      refine s_val wkP F30 rfl rfl rfl rfl (y_assign F30 rfl rfl) ?_; intro a32 F32; clear F30
      refine wpList_nil ?_
      refine c_then ?_
      refine wp_ret ?_
      refine c_thenR ?_
      refine x_ret1 F32 rfl rfl ?_
      exact ⟨rfl, H2.below⟩
    · clear F25
      refine g_onP F26 rfl rfl rfl rfl ?_
      refine s_val wkP F26 rfl rfl rfl rfl (y_move F26 rfl rfl) ?_; intro a33 F33; clear F26
      refine g_onP F33 rfl rfl rfl rfl ?_
      refine s_callV wkP F33 rfl rfl rfl rfl (y_call F33 rfl rfl ent12) (check l (by first | omega | decide | (simp; omega)) _) ?_; intro w34 a34 hR34 F34; clear F33
      have H34 : St w w34 [] := H2.call hR34
      refine g_onP F34 rfl rfl rfl rfl ?_
      refine s_val wkP F34 rfl rfl rfl rfl (y_neq F34 rfl rfl rfl) ?_; intro a35 F35; clear F34
      refine s_val wkP F35 rfl rfl rfl rfl (y_pickF F35 rfl rfl rfl) ?_; intro a36 F36; clear F35
      refine wpList_nil ?_
      refine c_then ?_
      refine x_condN F36 rfl (fun hok0 => ?_) (fun hok0 => ?_)
      · skip
        refine wp_seq ?_
        refine r_lit ?_
        refine s_val wkP F36 rfl rfl rfl rfl (y_assign F36 rfl rfl) ?_; intro a38 F38; clear F36
        refine wpList_nil ?_
        refine c_then ?_
        refine wp_ret ?_
        refine c_thenR ?_
        refine x_ret1 F38 rfl rfl ?_
        exact ⟨rfl, H34.below⟩
      · skip
        refine wp_skip ?_
        refine c_then ?_
        refine wp_seq ?_
        have hok : okP l = true := by cases e : okP l with | true => rfl | false => simp [e] at hok0
        refine r_lit ?_
        refine s_val wkP F36 rfl rfl rfl rfl (y_move F36 rfl rfl) ?_; intro a39 F39; clear F36
        refine s_val wkP F39 rfl rfl rfl rfl (y_addT (l := l) (m := [47]) F39 rfl rfl rfl (by first | omega | (simp; omega))) ?_; intro a40 F40; clear F39
        refine s_val wkP F40 rfl rfl rfl rfl (y_move F40 rfl rfl) ?_; intro a41 F41; clear F40
        refine s_val wkP F41 rfl rfl rfl rfl (y_addT (l := (l ++ [47])) (m := m) F41 rfl rfl rfl (by first | omega | (simp; omega))) ?_; intro a42 F42; clear F41
        refine s_val wkP F42 rfl rfl rfl rfl (y_assign F42 rfl rfl) ?_; intro a43 F43; clear F42
        refine wpList_nil ?_
        refine c_then ?_
        refine wp_seq ?_
        refine wp_seq ?_
        refine r_lit ?_
        refine s_val wkP F43 rfl rfl rfl rfl (y_move F43 rfl rfl) ?_; intro a44 F44; clear F43
        refine s_val wkP F44 rfl rfl rfl rfl (y_eqT (l := l) (m := [47]) F44 rfl rfl rfl) ?_; intro a45 F45; clear F44
        refine wpList_nil ?_
        refine c_then ?_
        refine x_condP F45 rfl (fun hroot => ?_) (fun hroot => ?_)
        · skip
          have hJ : JQ l m ([47] ++ m) := ⟨hok, .inl ⟨hroot, rfl⟩⟩
          refine r_lit ?_
          refine s_val wkP F45 rfl rfl rfl rfl (y_move F45 rfl rfl) ?_; intro a47 F47; clear F45
          refine s_val wkP F47 rfl rfl rfl rfl (y_addT (l := [47]) (m := m) F47 rfl rfl rfl (by first | omega | (simp; omega))) ?_; intro a48 F48; clear F47
          refine s_val wkP F48 rfl rfl rfl rfl (y_assign F48 rfl rfl) ?_; intro a49 F49; clear F48
          refine wpList_nil ?_
          refine c_then ?_
          refine wp_seq ?_
          refine wp_seq ?_
          refine r_lit ?_
          refine s_val wkP F49 rfl rfl rfl rfl (y_move F49 rfl rfl) ?_; intro a50 F50; clear F49
          refine s_callV wkP F50 rfl rfl rfl rfl (y_call F50 rfl rfl ent10) (name m (by first | omega | decide | (simp; omega)) _) ?_; intro w51 a51 hR51 F51; clear F50
          have H51 : St w w51 [] := H34.call hR51
          refine s_val wkP F51 rfl rfl rfl rfl (y_not F51 rfl rfl) ?_; intro a52 F52; clear F51
          refine wpList_nil ?_
          refine c_then ?_
          refine x_cond F52 rfl (fun hnm => ?_) (fun hnm => ?_)
          · skip
            replace hnm : nameB m = false := by simpa using hnm
            refine wp_seq ?_
            refine wp_seq ?_
            refine r_lit ?_
            refine s_val wkP F52 rfl rfl rfl rfl (y_move F52 rfl rfl) ?_; intro a54 F54; clear F52
            refine s_val wkP F54 rfl rfl rfl rfl (y_eqT (l := m) (m := []) F54 rfl rfl rfl) ?_; intro a55 F55; clear F54
            refine wpList_nil ?_
            refine c_then ?_
            refine x_condP F55 rfl (fun hemp => ?_) (fun hemp => ?_)
            · skip
              refine wp_seq ?_
              refine r_lit ?_
              refine s_val wkP F55 rfl rfl rfl rfl (y_move F55 rfl rfl) ?_; intro a57 F57; clear F55
              refine s_callV wkP F57 rfl rfl rfl rfl (y_call F57 rfl rfl ent12) (check ([47] ++ m) (by first | omega | decide | (simp; omega)) _) ?_; intro w58 a58 hR58 F58; clear F57
              have H58 : St w w58 [] := H51.call hR58
              refine s_val wkP F58 rfl rfl rfl rfl (y_eql F58 rfl rfl rfl) ?_; intro a59 F59; clear F58
              refine s_val wkP F59 rfl rfl rfl rfl (y_move F59 rfl rfl) ?_; intro a60 F60; clear F59
              refine s_val wkP F60 rfl rfl rfl rfl (y_eqT (l := l) (m := [47]) F60 rfl rfl rfl) ?_; intro a61 F61; clear F60
              refine s_val wkP F61 rfl rfl rfl rfl (y_eqlBool (p := (decide (((if okP ([47] ++ m) = true then 0 else 90)) = (0)))) (q := (decide (l = [47]))) F61 rfl Tryd.underlying4 rfl rfl) ?_; intro a62 F62; clear F61
              refine s_val wkP F62 rfl rfl rfl rfl (y_assign F62 rfl rfl) ?_; intro a63 F63; clear F62
              refine wpList_nil ?_
              refine c_then ?_
              refine wp_ret ?_
              refine c_thenR ?_
              refine c_thenR ?_
              refine x_ret1 F63 rfl rfl ?_
              subst hemp
              exact ⟨ret_bool (by rw [hJ.empty]; by_cases e : l = [47] <;> simp [e]), H58.below⟩
            · skip
              refine wp_skip ?_
              refine c_then ?_
              refine wp_seq ?_
              refine r_lit ?_
              refine s_val wkP F55 rfl rfl rfl rfl (y_move F55 rfl rfl) ?_; intro a64 F64; clear F55
              refine s_callV wkP F64 rfl rfl rfl rfl (y_call F64 rfl rfl ent12) (check ([47] ++ m) (by first | omega | decide | (simp; omega)) _) ?_; intro w65 a65 hR65 F65; clear F64
              have H65 : St w w65 [] := H51.call hR65
              refine s_val wkP F65 rfl rfl rfl rfl (y_neq F65 rfl rfl rfl) ?_; intro a66 F66; clear F65
              refine s_val wkP F66 rfl rfl rfl rfl (y_move F66 rfl rfl) ?_; intro a67 F67; clear F66
              refine g_splitN (k := 43) F67 rfl (fun hg43 F68 => ?_) (fun hg43 F68 => ?_)
              · clear F67
                refine g_off wkP F68 rfl rfl rfl rfl rfl rfl rfl ?_; intro a69 F69; clear F68
                refine g_off wkP F69 rfl rfl rfl rfl rfl rfl rfl ?_; intro a70 F70; clear F69
                refine g_off wkP F70 rfl rfl rfl rfl rfl rfl rfl ?_; intro a71 F71; clear F70
                refine g_off wkP F71 rfl rfl rfl rfl rfl rfl rfl ?_; intro a72 F72; clear F71
                refine g_off wkP F72 rfl rfl rfl rfl rfl rfl rfl ?_; intro a73 F73; clear F72
                refine g_off wkP F73 rfl rfl rfl rfl rfl rfl rfl ?_; intro a74 F74; clear F73
                refine g_off wkP F74 rfl rfl rfl rfl rfl rfl rfl ?_; intro a75 F75; clear F74
                refine g_off wkP F75 rfl rfl rfl rfl rfl rfl rfl ?_; intro a76 F76; clear F75
                refine s_val wkP F76 rfl rfl rfl rfl (y_pickT F76 rfl rfl rfl) ?_; intro a77 F77; clear F76
                refine s_val wkP F77 rfl rfl rfl rfl (y_assign F77 rfl rfl) ?_; intro a78 F78; clear F77
                refine wpList_nil ?_
                refine c_then ?_
                refine wp_ret ?_
                refine c_thenR ?_
                refine x_ret1 F78 rfl rfl ?_
                exact ⟨rfl, H65.below⟩
              · clear F67
                refine g_onP F68 rfl rfl rfl rfl ?_
                refine s_val wkP F68 rfl rfl rfl rfl (y_move F68 rfl rfl) ?_; intro a79 F79; clear F68
                refine g_onP F79 rfl rfl rfl rfl ?_
                refine s_call wkP F79 rfl rfl rfl rfl (y_call F79 rfl rfl ent14) (psplit ([47] ++ m) (by first | omega | decide | (simp; omega)) _) ?_; intro r80 w81 a81 hR81 F81; clear F79
                have H81 : St w w81 [HP.own 9 1 r80 ((pns ([47] ++ m)).length) (rows txC (pns ([47] ++ m)))] := H65.call hR81
                have hplr80 := pns_len ([47] ++ m)
                refine g_onP F81 rfl rfl rfl rfl ?_
                obtain ⟨p82, cap82, rfl, hcap82, hp82⟩ := H81.ownForm 0 rfl
                refine s_val wkP F81 rfl rfl rfl rfl (y_lenS F81 rfl Tryd.underlying23 rfl) ?_; intro a83 F83; clear F81
                refine g_onP F83 rfl rfl rfl rfl ?_
                refine s_val wkP F83 rfl rfl rfl rfl (y_move F83 rfl rfl) ?_; intro a84 F84; clear F83
                refine g_onP F84 rfl rfl rfl rfl ?_
                refine s_call wkP F84 rfl rfl rfl rfl (y_call F84 rfl rfl ent14) (psplit l (by first | omega | decide | (simp; omega)) _) ?_; intro r85 w86 a86 hR86 F86; clear F84
                have H86 : St w w86 [HP.own 9 1 r85 ((pns l).length) (rows txC (pns l)), HP.own 9 1 (.slice p82 ((pns ([47] ++ m)).length) cap82) ((pns ([47] ++ m)).length) (rows txC (pns ([47] ++ m)))] := H81.call hR86
                have hplr85 := pns_len l
                refine g_onP F86 rfl rfl rfl rfl ?_
                obtain ⟨p87, cap87, rfl, hcap87, hp87⟩ := H86.ownForm 0 rfl
                refine s_val wkP F86 rfl rfl rfl rfl (y_lenS F86 rfl Tryd.underlying23 rfl) ?_; intro a88 F88; clear F86
                refine g_onP F88 rfl rfl rfl rfl ?_
                refine s_val wkP F88 rfl rfl rfl rfl (y_add F88 rfl rfl rfl (r := (((((pns l).length) : Nat) : Int)) + (1)) (wrap_i64 (by omega) (by omega) (by omega))) ?_; intro a89 F89; clear F88
                refine g_onP F89 rfl rfl rfl rfl ?_
                refine s_val wkP F89 rfl rfl rfl rfl (y_gtr F89 rfl rfl rfl) ?_; intro a90 F90; clear F89
                refine s_val wkP F90 rfl rfl rfl rfl (y_pickF F90 rfl rfl rfl) ?_; intro a91 F91; clear F90
                refine s_val wkP F91 rfl rfl rfl rfl (y_assign F91 rfl rfl) ?_; intro a92 F92; clear F91
                refine wpList_nil ?_
                refine c_then ?_
                refine wp_ret ?_
                refine c_thenR ?_
                refine x_ret1 F92 rfl rfl ?_
                have hoq := hg43
                exact ⟨ret_bool (decide_eq_true (by have := hJ.more hemp hnm (by revert hoq; cases okP _ <;> simp); omega)), H86.below⟩
          · skip
            replace hnm : nameB m = true := by simpa using hnm
            refine wp_skip ?_
            refine c_then ?_
            refine wp_seq ?_
            refine wp_seq ?_
            refine r_lit ?_
            refine s_val wkP F52 rfl rfl rfl rfl (y_move F52 rfl rfl) ?_; intro a93 F93; clear F52
            refine s_val wkP F93 rfl rfl rfl rfl (y_lenT (l := ([47] ++ m)) F93 rfl Tryd.underlying9 rfl) ?_; intro a94 F94; clear F93
            refine s_val wkP F94 rfl rfl rfl rfl (y_gtr F94 rfl rfl rfl) ?_; intro a95 F95; clear F94
            refine wpList_nil ?_
            refine c_then ?_
            refine x_condP F95 rfl (fun hlong => ?_) (fun hlong => ?_)
            · skip
              refine wp_seq ?_
              refine r_lit ?_
              refine s_val wkP F95 rfl rfl rfl rfl (y_move F95 rfl rfl) ?_; intro a97 F97; clear F95
              refine s_callV wkP F97 rfl rfl rfl rfl (y_call F97 rfl rfl ent12) (check ([47] ++ m) (by first | omega | decide | (simp; omega)) _) ?_; intro w98 a98 hR98 F98; clear F97
              have H98 : St w w98 [] := H51.call hR98
              refine s_val wkP F98 rfl rfl rfl rfl (y_eql F98 rfl rfl rfl) ?_; intro a99 F99; clear F98
              refine s_val wkP F99 rfl rfl rfl rfl (y_assign F99 rfl rfl) ?_; intro a100 F100; clear F99
              refine wpList_nil ?_
              refine c_then ?_
              refine wp_ret ?_
              refine c_thenR ?_
              refine x_ret1 F100 rfl rfl ?_
              exact ⟨ret_bool (by rw [hJ.long (by omega)]; rfl), H98.below⟩
            · skip
              refine wp_skip ?_
              refine c_then ?_
              refine wp_seq ?_
              refine r_lit ?_
              refine s_val wkP F95 rfl rfl rfl rfl (y_move F95 rfl rfl) ?_; intro a101 F101; clear F95
              refine s_callV wkP F101 rfl rfl rfl rfl (y_call F101 rfl rfl ent12) (check ([47] ++ m) (by first | omega | decide | (simp; omega)) _) ?_; intro w102 a102 hR102 F102; clear F101
              have H102 : St w w102 [] := H51.call hR102
              refine s_val wkP F102 rfl rfl rfl rfl (y_eql F102 rfl rfl rfl) ?_; intro a103 F103; clear F102
              refine s_val wkP F103 rfl rfl rfl rfl (y_move F103 rfl rfl) ?_; intro a104 F104; clear F103
              refine g_split (k := 62) F104 rfl (fun hg62 F105 => ?_) (fun hg62 F105 => ?_)
              · clear F104
                refine g_onP F105 rfl rfl rfl rfl ?_
                refine s_val wkP F105 rfl rfl rfl rfl (y_move F105 rfl rfl) ?_; intro a106 F106; clear F105
                refine g_onP F106 rfl rfl rfl rfl ?_
                refine s_callV wkP F106 rfl rfl rfl rfl (y_call F106 rfl rfl ent15) (parent ([47] ++ m) (by first | omega | decide | (simp; omega)) _) ?_; intro w107 a107 hR107 F107; clear F106
                have H107 : St w w107 [] := H102.call hR107
                refine g_onP F107 rfl rfl rfl rfl ?_
                refine s_val wkP F107 rfl rfl rfl rfl (y_move F107 rfl rfl) ?_; intro a108 F108; clear F107
                refine g_onP F108 rfl rfl rfl rfl ?_
                refine s_val wkP F108 rfl rfl rfl rfl (y_eqT (l := (parP ([47] ++ m))) (m := l) F108 rfl rfl rfl) ?_; intro a109 F109; clear F108
                refine s_val wkP F109 rfl rfl rfl rfl (y_pickT F109 rfl rfl rfl) ?_; intro a110 F110; clear F109
                refine s_val wkP F110 rfl rfl rfl rfl (y_move F110 rfl rfl) ?_; intro a111 F111; clear F110
                refine g_split (k := 68) F111 rfl (fun hg68 F112 => ?_) (fun hg68 F112 => ?_)
                · clear F111
                  refine g_onP F112 rfl rfl rfl rfl ?_
                  refine s_val wkP F112 rfl rfl rfl rfl (y_move F112 rfl rfl) ?_; intro a113 F113; clear F112
                  refine g_onP F113 rfl rfl rfl rfl ?_
                  refine s_callV wkP F113 rfl rfl rfl rfl (y_call F113 rfl rfl ent17) (base ([47] ++ m) (by first | omega | decide | (simp; omega)) _) ?_; intro w114 a114 hR114 F114; clear F113
                  have H114 : St w w114 [] := H107.call hR114
                  refine g_onP F114 rfl rfl rfl rfl ?_
                  refine s_val wkP F114 rfl rfl rfl rfl (y_move F114 rfl rfl) ?_; intro a115 F115; clear F114
                  refine g_onP F115 rfl rfl rfl rfl ?_
                  refine s_val wkP F115 rfl rfl rfl rfl (y_eqT (l := (basP ([47] ++ m))) (m := m) F115 rfl rfl rfl) ?_; intro a116 F116; clear F115
                  refine s_val wkP F116 rfl rfl rfl rfl (y_pickT F116 rfl rfl rfl) ?_; intro a117 F117; clear F116
                  refine s_val wkP F117 rfl rfl rfl rfl (y_move F117 rfl rfl) ?_; intro a118 F118; clear F117
                  refine g_split (k := 74) F118 rfl (fun hg74 F119 => ?_) (fun hg74 F119 => ?_)
                  · clear F118
                    refine g_onP F119 rfl rfl rfl rfl ?_
                    refine s_val wkP F119 rfl rfl rfl rfl (y_move F119 rfl rfl) ?_; intro a120 F120; clear F119
                    refine g_onP F120 rfl rfl rfl rfl ?_
                    refine s_val wkP F120 rfl rfl rfl rfl (y_move F120 rfl rfl) ?_; intro a121 F121; clear F120
                    refine g_onP F121 rfl rfl rfl rfl ?_
                    refine s_callV wkP F121 rfl rfl rfl rfl (y_call F121 rfl rfl ent20) (within l ([47] ++ m) (by first | omega | decide | (simp; omega)) (by first | omega | decide | (simp; omega)) _) ?_; intro w122 a122 hR122 F122; clear F121
                    have H122 : St w w122 [] := H114.call hR122
                    refine s_val wkP F122 rfl rfl rfl rfl (y_pickT F122 rfl rfl rfl) ?_; intro a123 F123; clear F122
                    refine s_val wkP F123 rfl rfl rfl rfl (y_move F123 rfl rfl) ?_; intro a124 F124; clear F123
                    refine g_splitB (k := 79) F124 rfl (fun hg79 F125 => ?_) (fun hg79 F125 => ?_)
                    · clear F124
                      refine g_onP F125 rfl rfl rfl rfl ?_
                      refine s_val wkP F125 rfl rfl rfl rfl (y_move F125 rfl rfl) ?_; intro a126 F126; clear F125
                      refine g_onP F126 rfl rfl rfl rfl ?_
                      refine s_call wkP F126 rfl rfl rfl rfl (y_call F126 rfl rfl ent14) (psplit ([47] ++ m) (by first | omega | decide | (simp; omega)) _) ?_; intro r127 w128 a128 hR128 F128; clear F126
                      have H128 : St w w128 [HP.own 9 1 r127 ((pns ([47] ++ m)).length) (rows txC (pns ([47] ++ m)))] := H122.call hR128
                      have hplr127 := pns_len ([47] ++ m)
                      refine g_onP F128 rfl rfl rfl rfl ?_
                      obtain ⟨p129, cap129, rfl, hcap129, hp129⟩ := H128.ownForm 0 rfl
                      refine s_val wkP F128 rfl rfl rfl rfl (y_lenS F128 rfl Tryd.underlying23 rfl) ?_; intro a130 F130; clear F128
                      refine g_onP F130 rfl rfl rfl rfl ?_
                      refine s_val wkP F130 rfl rfl rfl rfl (y_move F130 rfl rfl) ?_; intro a131 F131; clear F130
                      refine g_onP F131 rfl rfl rfl rfl ?_
                      refine s_call wkP F131 rfl rfl rfl rfl (y_call F131 rfl rfl ent14) (psplit l (by first | omega | decide | (simp; omega)) _) ?_; intro r132 w133 a133 hR133 F133; clear F131
                      have H133 : St w w133 [HP.own 9 1 r132 ((pns l).length) (rows txC (pns l)), HP.own 9 1 (.slice p129 ((pns ([47] ++ m)).length) cap129) ((pns ([47] ++ m)).length) (rows txC (pns ([47] ++ m)))] := H128.call hR133
                      have hplr132 := pns_len l
                      refine g_onP F133 rfl rfl rfl rfl ?_
                      obtain ⟨p134, cap134, rfl, hcap134, hp134⟩ := H133.ownForm 0 rfl
                      refine s_val wkP F133 rfl rfl rfl rfl (y_lenS F133 rfl Tryd.underlying23 rfl) ?_; intro a135 F135; clear F133
                      refine g_onP F135 rfl rfl rfl rfl ?_
                      refine s_val wkP F135 rfl rfl rfl rfl (y_add F135 rfl rfl rfl (r := (((((pns l).length) : Nat) : Int)) + (1)) (wrap_i64 (by omega) (by omega) (by omega))) ?_; intro a136 F136; clear F135
                      refine g_onP F136 rfl rfl rfl rfl ?_
                      refine s_val wkP F136 rfl rfl rfl rfl (y_eql F136 rfl rfl rfl) ?_; intro a137 F137; clear F136
                      refine s_val wkP F137 rfl rfl rfl rfl (y_pickT F137 rfl rfl rfl) ?_; intro a138 F138; clear F137
                      refine s_val wkP F138 rfl rfl rfl rfl (y_assign F138 rfl rfl) ?_; intro a139 F139; clear F138
                      refine wpList_nil ?_
                      refine c_then ?_
                      refine wp_ret ?_
                      refine x_ret1 F139 rfl rfl ?_
                      exact ⟨ret_bool (decide_eq_true (by have := (hJ.par hnm (by omega)).2.2.2; omega)), H133.below⟩
                    · clear F124
                      exact absurd (hJ.par hnm (by omega)).2.2.1 (by rw [hg79]; decide)
                  · clear F118
                    exact absurd (hJ.par hnm (by omega)).2.1 hg74
                · clear F111
                  exact absurd (hJ.par hnm (by omega)).1 hg68
              · clear F104
                exact absurd (if_pos (hJ.mk hnm (by omega)).1) hg62
        · skip
          have hJ : JQ l m ((l ++ [47]) ++ m) := ⟨hok, .inr ⟨hroot, rfl⟩⟩
          refine wp_skip ?_
          refine c_then ?_
          refine wp_seq ?_
          refine wp_seq ?_
          refine r_lit ?_
          refine s_val wkP F45 rfl rfl rfl rfl (y_move F45 rfl rfl) ?_; intro a140 F140; clear F45
          refine s_callV wkP F140 rfl rfl rfl rfl (y_call F140 rfl rfl ent10) (name m (by first | omega | decide | (simp; omega)) _) ?_; intro w141 a141 hR141 F141; clear F140
          have H141 : St w w141 [] := H34.call hR141
          refine s_val wkP F141 rfl rfl rfl rfl (y_not F141 rfl rfl) ?_; intro a142 F142; clear F141
          refine wpList_nil ?_
          refine c_then ?_
          refine x_cond F142 rfl (fun hnm => ?_) (fun hnm => ?_)
          · skip
            replace hnm : nameB m = false := by simpa using hnm
            refine wp_seq ?_
            refine wp_seq ?_
            refine r_lit ?_
            refine s_val wkP F142 rfl rfl rfl rfl (y_move F142 rfl rfl) ?_; intro a144 F144; clear F142
            refine s_val wkP F144 rfl rfl rfl rfl (y_eqT (l := m) (m := []) F144 rfl rfl rfl) ?_; intro a145 F145; clear F144
            refine wpList_nil ?_
            refine c_then ?_
            refine x_condP F145 rfl (fun hemp => ?_) (fun hemp => ?_)
            · skip
              refine wp_seq ?_
              refine r_lit ?_
              refine s_val wkP F145 rfl rfl rfl rfl (y_move F145 rfl rfl) ?_; intro a147 F147; clear F145
              refine s_callV wkP F147 rfl rfl rfl rfl (y_call F147 rfl rfl ent12) (check ((l ++ [47]) ++ m) (by first | omega | decide | (simp; omega)) _) ?_; intro w148 a148 hR148 F148; clear F147
              have H148 : St w w148 [] := H141.call hR148
              refine s_val wkP F148 rfl rfl rfl rfl (y_eql F148 rfl rfl rfl) ?_; intro a149 F149; clear F148
              refine s_val wkP F149 rfl rfl rfl rfl (y_move F149 rfl rfl) ?_; intro a150 F150; clear F149
              refine s_val wkP F150 rfl rfl rfl rfl (y_eqT (l := l) (m := [47]) F150 rfl rfl rfl) ?_; intro a151 F151; clear F150
              refine s_val wkP F151 rfl rfl rfl rfl (y_eqlBool (p := (decide (((if okP ((l ++ [47]) ++ m) = true then 0 else 90)) = (0)))) (q := (decide (l = [47]))) F151 rfl Tryd.underlying4 rfl rfl) ?_; intro a152 F152; clear F151
              refine s_val wkP F152 rfl rfl rfl rfl (y_assign F152 rfl rfl) ?_; intro a153 F153; clear F152
              refine wpList_nil ?_
              refine c_then ?_
              refine wp_ret ?_
              refine c_thenR ?_
              refine c_thenR ?_
              refine x_ret1 F153 rfl rfl ?_
              subst hemp
              exact ⟨ret_bool (by rw [hJ.empty]; by_cases e : l = [47] <;> simp [e]), H148.below⟩
            · skip
              refine wp_skip ?_
              refine c_then ?_
              refine wp_seq ?_
              refine r_lit ?_
              refine s_val wkP F145 rfl rfl rfl rfl (y_move F145 rfl rfl) ?_; intro a154 F154; clear F145
              refine s_callV wkP F154 rfl rfl rfl rfl (y_call F154 rfl rfl ent12) (check ((l ++ [47]) ++ m) (by first | omega | decide | (simp; omega)) _) ?_; intro w155 a155 hR155 F155; clear F154
              have H155 : St w w155 [] := H141.call hR155
              refine s_val wkP F155 rfl rfl rfl rfl (y_neq F155 rfl rfl rfl) ?_; intro a156 F156; clear F155
              refine s_val wkP F156 rfl rfl rfl rfl (y_move F156 rfl rfl) ?_; intro a157 F157; clear F156
              refine g_splitN (k := 43) F157 rfl (fun hg43 F158 => ?_) (fun hg43 F158 => ?_)
              · clear F157
                refine g_off wkP F158 rfl rfl rfl rfl rfl rfl rfl ?_; intro a159 F159; clear F158
                refine g_off wkP F159 rfl rfl rfl rfl rfl rfl rfl ?_; intro a160 F160; clear F159
                refine g_off wkP F160 rfl rfl rfl rfl rfl rfl rfl ?_; intro a161 F161; clear F160
                refine g_off wkP F161 rfl rfl rfl rfl rfl rfl rfl ?_; intro a162 F162; clear F161
                refine g_off wkP F162 rfl rfl rfl rfl rfl rfl rfl ?_; intro a163 F163; clear F162
                refine g_off wkP F163 rfl rfl rfl rfl rfl rfl rfl ?_; intro a164 F164; clear F163
                refine g_off wkP F164 rfl rfl rfl rfl rfl rfl rfl ?_; intro a165 F165; clear F164
                refine g_off wkP F165 rfl rfl rfl rfl rfl rfl rfl ?_; intro a166 F166; clear F165
                refine s_val wkP F166 rfl rfl rfl rfl (y_pickT F166 rfl rfl rfl) ?_; intro a167 F167; clear F166
                refine s_val wkP F167 rfl rfl rfl rfl (y_assign F167 rfl rfl) ?_; intro a168 F168; clear F167
                refine wpList_nil ?_
                refine c_then ?_
                refine wp_ret ?_
                refine c_thenR ?_
                refine x_ret1 F168 rfl rfl ?_
                exact ⟨rfl, H155.below⟩
              · clear F157
                refine g_onP F158 rfl rfl rfl rfl ?_
                refine s_val wkP F158 rfl rfl rfl rfl (y_move F158 rfl rfl) ?_; intro a169 F169; clear F158
                refine g_onP F169 rfl rfl rfl rfl ?_
                refine s_call wkP F169 rfl rfl rfl rfl (y_call F169 rfl rfl ent14) (psplit ((l ++ [47]) ++ m) (by first | omega | decide | (simp; omega)) _) ?_; intro r170 w171 a171 hR171 F171; clear F169
                have H171 : St w w171 [HP.own 9 1 r170 ((pns ((l ++ [47]) ++ m)).length) (rows txC (pns ((l ++ [47]) ++ m)))] := H155.call hR171
                have hplr170 := pns_len ((l ++ [47]) ++ m)
                refine g_onP F171 rfl rfl rfl rfl ?_
                obtain ⟨p172, cap172, rfl, hcap172, hp172⟩ := H171.ownForm 0 rfl
                refine s_val wkP F171 rfl rfl rfl rfl (y_lenS F171 rfl Tryd.underlying23 rfl) ?_; intro a173 F173; clear F171
                refine g_onP F173 rfl rfl rfl rfl ?_
                refine s_val wkP F173 rfl rfl rfl rfl (y_move F173 rfl rfl) ?_; intro a174 F174; clear F173
                refine g_onP F174 rfl rfl rfl rfl ?_
                refine s_call wkP F174 rfl rfl rfl rfl (y_call F174 rfl rfl ent14) (psplit l (by first | omega | decide | (simp; omega)) _) ?_; intro r175 w176 a176 hR176 F176; clear F174
                have H176 : St w w176 [HP.own 9 1 r175 ((pns l).length) (rows txC (pns l)), HP.own 9 1 (.slice p172 ((pns ((l ++ [47]) ++ m)).length) cap172) ((pns ((l ++ [47]) ++ m)).length) (rows txC (pns ((l ++ [47]) ++ m)))] := H171.call hR176
                have hplr175 := pns_len l
                refine g_onP F176 rfl rfl rfl rfl ?_
                obtain ⟨p177, cap177, rfl, hcap177, hp177⟩ := H176.ownForm 0 rfl
                refine s_val wkP F176 rfl rfl rfl rfl (y_lenS F176 rfl Tryd.underlying23 rfl) ?_; intro a178 F178; clear F176
                refine g_onP F178 rfl rfl rfl rfl ?_
                refine s_val wkP F178 rfl rfl rfl rfl (y_add F178 rfl rfl rfl (r := (((((pns l).length) : Nat) : Int)) + (1)) (wrap_i64 (by omega) (by omega) (by omega))) ?_; intro a179 F179; clear F178
                refine g_onP F179 rfl rfl rfl rfl ?_
                refine s_val wkP F179 rfl rfl rfl rfl (y_gtr F179 rfl rfl rfl) ?_; intro a180 F180; clear F179
                refine s_val wkP F180 rfl rfl rfl rfl (y_pickF F180 rfl rfl rfl) ?_; intro a181 F181; clear F180
                refine s_val wkP F181 rfl rfl rfl rfl (y_assign F181 rfl rfl) ?_; intro a182 F182; clear F181
                refine wpList_nil ?_
                refine c_then ?_
                refine wp_ret ?_
                refine c_thenR ?_
                refine x_ret1 F182 rfl rfl ?_
                have hoq := hg43
                exact ⟨ret_bool (decide_eq_true (by have := hJ.more hemp hnm (by revert hoq; cases okP _ <;> simp); omega)), H176.below⟩
          · skip
            replace hnm : nameB m = true := by simpa using hnm
            refine wp_skip ?_
            refine c_then ?_
            refine wp_seq ?_
            refine wp_seq ?_
            refine r_lit ?_
            refine s_val wkP F142 rfl rfl rfl rfl (y_move F142 rfl rfl) ?_; intro a183 F183; clear F142
            refine s_val wkP F183 rfl rfl rfl rfl (y_lenT (l := ((l ++ [47]) ++ m)) F183 rfl Tryd.underlying9 rfl) ?_; intro a184 F184; clear F183
            refine s_val wkP F184 rfl rfl rfl rfl (y_gtr F184 rfl rfl rfl) ?_; intro a185 F185; clear F184
            refine wpList_nil ?_
            refine c_then ?_
            refine x_condP F185 rfl (fun hlong => ?_) (fun hlong => ?_)
            · skip
              refine wp_seq ?_
              refine r_lit ?_
              refine s_val wkP F185 rfl rfl rfl rfl (y_move F185 rfl rfl) ?_; intro a187 F187; clear F185
              refine s_callV wkP F187 rfl rfl rfl rfl (y_call F187 rfl rfl ent12) (check ((l ++ [47]) ++ m) (by first | omega | decide | (simp; omega)) _) ?_; intro w188 a188 hR188 F188; clear F187
              have H188 : St w w188 [] := H141.call hR188
              refine s_val wkP F188 rfl rfl rfl rfl (y_eql F188 rfl rfl rfl) ?_; intro a189 F189; clear F188
              refine s_val wkP F189 rfl rfl rfl rfl (y_assign F189 rfl rfl) ?_; intro a190 F190; clear F189
              refine wpList_nil ?_
              refine c_then ?_
              refine wp_ret ?_
              refine c_thenR ?_
              refine x_ret1 F190 rfl rfl ?_
              exact ⟨ret_bool (by rw [hJ.long (by omega)]; rfl), H188.below⟩
            · skip
              refine wp_skip ?_
              refine c_then ?_
              refine wp_seq ?_
              refine r_lit ?_
              refine s_val wkP F185 rfl rfl rfl rfl (y_move F185 rfl rfl) ?_; intro a191 F191; clear F185
              refine s_callV wkP F191 rfl rfl rfl rfl (y_call F191 rfl rfl ent12) (check ((l ++ [47]) ++ m) (by first | omega | decide | (simp; omega)) _) ?_; intro w192 a192 hR192 F192; clear F191
              have H192 : St w w192 [] := H141.call hR192
              refine s_val wkP F192 rfl rfl rfl rfl (y_eql F192 rfl rfl rfl) ?_; intro a193 F193; clear F192
              refine s_val wkP F193 rfl rfl rfl rfl (y_move F193 rfl rfl) ?_; intro a194 F194; clear F193
              refine g_split (k := 62) F194 rfl (fun hg62 F195 => ?_) (fun hg62 F195 => ?_)
              · clear F194
                refine g_onP F195 rfl rfl rfl rfl ?_
                refine s_val wkP F195 rfl rfl rfl rfl (y_move F195 rfl rfl) ?_; intro a196 F196; clear F195
                refine g_onP F196 rfl rfl rfl rfl ?_
                refine s_callV wkP F196 rfl rfl rfl rfl (y_call F196 rfl rfl ent15) (parent ((l ++ [47]) ++ m) (by first | omega | decide | (simp; omega)) _) ?_; intro w197 a197 hR197 F197; clear F196
                have H197 : St w w197 [] := H192.call hR197
                refine g_onP F197 rfl rfl rfl rfl ?_
                refine s_val wkP F197 rfl rfl rfl rfl (y_move F197 rfl rfl) ?_; intro a198 F198; clear F197
                refine g_onP F198 rfl rfl rfl rfl ?_
                refine s_val wkP F198 rfl rfl rfl rfl (y_eqT (l := (parP ((l ++ [47]) ++ m))) (m := l) F198 rfl rfl rfl) ?_; intro a199 F199; clear F198
                refine s_val wkP F199 rfl rfl rfl rfl (y_pickT F199 rfl rfl rfl) ?_; intro a200 F200; clear F199
                refine s_val wkP F200 rfl rfl rfl rfl (y_move F200 rfl rfl) ?_; intro a201 F201; clear F200
                refine g_split (k := 68) F201 rfl (fun hg68 F202 => ?_) (fun hg68 F202 => ?_)
                · clear F201
                  refine g_onP F202 rfl rfl rfl rfl ?_
                  refine s_val wkP F202 rfl rfl rfl rfl (y_move F202 rfl rfl) ?_; intro a203 F203; clear F202
                  refine g_onP F203 rfl rfl rfl rfl ?_
                  refine s_callV wkP F203 rfl rfl rfl rfl (y_call F203 rfl rfl ent17) (base ((l ++ [47]) ++ m) (by first | omega | decide | (simp; omega)) _) ?_; intro w204 a204 hR204 F204; clear F203
                  have H204 : St w w204 [] := H197.call hR204
                  refine g_onP F204 rfl rfl rfl rfl ?_
                  refine s_val wkP F204 rfl rfl rfl rfl (y_move F204 rfl rfl) ?_; intro a205 F205; clear F204
                  refine g_onP F205 rfl rfl rfl rfl ?_
                  refine s_val wkP F205 rfl rfl rfl rfl (y_eqT (l := (basP ((l ++ [47]) ++ m))) (m := m) F205 rfl rfl rfl) ?_; intro a206 F206; clear F205
                  refine s_val wkP F206 rfl rfl rfl rfl (y_pickT F206 rfl rfl rfl) ?_; intro a207 F207; clear F206
                  refine s_val wkP F207 rfl rfl rfl rfl (y_move F207 rfl rfl) ?_; intro a208 F208; clear F207
                  refine g_split (k := 74) F208 rfl (fun hg74 F209 => ?_) (fun hg74 F209 => ?_)
                  · clear F208
                    refine g_onP F209 rfl rfl rfl rfl ?_
                    refine s_val wkP F209 rfl rfl rfl rfl (y_move F209 rfl rfl) ?_; intro a210 F210; clear F209
                    refine g_onP F210 rfl rfl rfl rfl ?_
                    refine s_val wkP F210 rfl rfl rfl rfl (y_move F210 rfl rfl) ?_; intro a211 F211; clear F210
                    refine g_onP F211 rfl rfl rfl rfl ?_
                    refine s_callV wkP F211 rfl rfl rfl rfl (y_call F211 rfl rfl ent20) (within l ((l ++ [47]) ++ m) (by first | omega | decide | (simp; omega)) (by first | omega | decide | (simp; omega)) _) ?_; intro w212 a212 hR212 F212; clear F211
                    have H212 : St w w212 [] := H204.call hR212
                    refine s_val wkP F212 rfl rfl rfl rfl (y_pickT F212 rfl rfl rfl) ?_; intro a213 F213; clear F212
                    refine s_val wkP F213 rfl rfl rfl rfl (y_move F213 rfl rfl) ?_; intro a214 F214; clear F213
                    refine g_splitB (k := 79) F214 rfl (fun hg79 F215 => ?_) (fun hg79 F215 => ?_)
                    · clear F214
                      refine g_onP F215 rfl rfl rfl rfl ?_
                      refine s_val wkP F215 rfl rfl rfl rfl (y_move F215 rfl rfl) ?_; intro a216 F216; clear F215
                      refine g_onP F216 rfl rfl rfl rfl ?_
                      refine s_call wkP F216 rfl rfl rfl rfl (y_call F216 rfl rfl ent14) (psplit ((l ++ [47]) ++ m) (by first | omega | decide | (simp; omega)) _) ?_; intro r217 w218 a218 hR218 F218; clear F216
                      have H218 : St w w218 [HP.own 9 1 r217 ((pns ((l ++ [47]) ++ m)).length) (rows txC (pns ((l ++ [47]) ++ m)))] := H212.call hR218
                      have hplr217 := pns_len ((l ++ [47]) ++ m)
                      refine g_onP F218 rfl rfl rfl rfl ?_
                      obtain ⟨p219, cap219, rfl, hcap219, hp219⟩ := H218.ownForm 0 rfl
                      refine s_val wkP F218 rfl rfl rfl rfl (y_lenS F218 rfl Tryd.underlying23 rfl) ?_; intro a220 F220; clear F218
                      refine g_onP F220 rfl rfl rfl rfl ?_
                      refine s_val wkP F220 rfl rfl rfl rfl (y_move F220 rfl rfl) ?_; intro a221 F221; clear F220
                      refine g_onP F221 rfl rfl rfl rfl ?_
                      refine s_call wkP F221 rfl rfl rfl rfl (y_call F221 rfl rfl ent14) (psplit l (by first | omega | decide | (simp; omega)) _) ?_; intro r222 w223 a223 hR223 F223; clear F221
                      have H223 : St w w223 [HP.own 9 1 r222 ((pns l).length) (rows txC (pns l)), HP.own 9 1 (.slice p219 ((pns ((l ++ [47]) ++ m)).length) cap219) ((pns ((l ++ [47]) ++ m)).length) (rows txC (pns ((l ++ [47]) ++ m)))] := H218.call hR223
                      have hplr222 := pns_len l
                      refine g_onP F223 rfl rfl rfl rfl ?_
                      obtain ⟨p224, cap224, rfl, hcap224, hp224⟩ := H223.ownForm 0 rfl
                      refine s_val wkP F223 rfl rfl rfl rfl (y_lenS F223 rfl Tryd.underlying23 rfl) ?_; intro a225 F225; clear F223
                      refine g_onP F225 rfl rfl rfl rfl ?_
                      refine s_val wkP F225 rfl rfl rfl rfl (y_add F225 rfl rfl rfl (r := (((((pns l).length) : Nat) : Int)) + (1)) (wrap_i64 (by omega) (by omega) (by omega))) ?_; intro a226 F226; clear F225
                      refine g_onP F226 rfl rfl rfl rfl ?_
                      refine s_val wkP F226 rfl rfl rfl rfl (y_eql F226 rfl rfl rfl) ?_; intro a227 F227; clear F226
                      refine s_val wkP F227 rfl rfl rfl rfl (y_pickT F227 rfl rfl rfl) ?_; intro a228 F228; clear F227
                      refine s_val wkP F228 rfl rfl rfl rfl (y_assign F228 rfl rfl) ?_; intro a229 F229; clear F228
                      refine wpList_nil ?_
                      refine c_then ?_
                      refine wp_ret ?_
                      refine x_ret1 F229 rfl rfl ?_
                      exact ⟨ret_bool (decide_eq_true (by have := (hJ.par hnm (by omega)).2.2.2; omega)), H223.below⟩
                    · clear F214
                      exact absurd (hJ.par hnm (by omega)).2.2.1 (by rw [hg79]; decide)
                  · clear F208
                    exact absurd (hJ.par hnm (by omega)).2.1 hg74
                · clear F201
                  exact absurd (hJ.par hnm (by omega)).1 hg68
              · clear F194
                exact absurd (if_pos (hJ.mk hnm (by omega)).1) hg62

end Go.Proofs.YtodggokkklfopaaDoor
