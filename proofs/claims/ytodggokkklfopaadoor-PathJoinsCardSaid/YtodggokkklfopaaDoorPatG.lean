/- PathWithin. -/
import Derived.Test.YtodggokkklfopaaDoorPatF
set_option linter.unusedSimpArgs false
set_option linter.unusedVariables false
namespace Go.Proofs.YtodggokkklfopaaDoor
open Go.ChangeShapes Go.WideShapes Go.ChangeAt Go.RowKit Go.Tri
set_option maxRecDepth 100000 in
set_option maxHeartbeats 2000000 in
theorem speaks (w : World) :
    Calls Tryd.prog 7 #[] w (fun e w' => e = .returned (.bool true) ∧ St w w' []) := by
  refine x_enter Tryd.func7 rfl rfl rfl ?_
  intro a0 F0
  replace F0 : Fr ⟨21, []⟩ a0 [] := F0
  have H0 := St.nil w
  refine wp_seq ?_
  refine r_lit ?_
  refine s_val wkP F0 rfl rfl rfl rfl (y_assign F0 rfl rfl) ?_; intro a1 F1; clear F0
  refine wpList_nil ?_
  refine c_then ?_
  refine wp_seq ?_
  refine r_lit ?_
  refine s_call wkP F1 rfl rfl rfl rfl (y_call F1 rfl rfl ent14) (psplit [47, 97, 47, 98, 99] (by first | omega | decide | (simp; omega)) _) ?_; intro r2 w3 a3 hR3 F3; clear F1
  have H3 : St w w3 [HP.own 9 1 r2 ((pns [47, 97, 47, 98, 99]).length) (rows txC (pns [47, 97, 47, 98, 99]))] := H0.call hR3
  have hplr2 := pns_len [47, 97, 47, 98, 99]
  refine s_buildC wkP F3 rfl rfl rfl elemStr z1Str rfl rfl rfl rfl (by simp [Value.cells]) (by decide) H3 ?_; intro b4 w4 a4 H4 F4; clear F3
  obtain ⟨p5, cap5, rfl, hcap5, hp5⟩ := H4.ownForm 1 rfl
  refine s_callV wkP F4 rfl rfl rfl rfl (y_call F4 rfl rfl ent13) (rsame (pns [47, 97, 47, 98, 99]) [[97], [98, 99]] (by first | omega | decide | (simp [anc]; omega)) (by first | omega | decide | (simp [anc]; omega)) p5 (some ⟨b4, 0, none⟩) cap5 2 _ (fun h => by obtain ⟨b, e⟩ := hp5 h; exact ⟨b, 0, e, H4.ownRowP 1 rfl e⟩) (fun _ => ⟨_, _, rfl, (H4.blk 0 rfl).row⟩)) ?_; intro w6 a6 hR6 F6; clear F4
  have H6 : St w w6 [HP.blk b4 ([.string (txb ([97])), .string (txb ([98, 99]))]) 9, HP.own 9 1 (.slice p5 ((pns [47, 97, 47, 98, 99]).length) cap5) ((pns [47, 97, 47, 98, 99]).length) (rows txC (pns [47, 97, 47, 98, 99]))] := H4.call hR6
  refine s_val wkP F6 rfl rfl rfl rfl (y_move F6 rfl rfl) ?_; intro a7 F7; clear F6
  refine g_split (k := 4) F7 rfl (fun hg4 F8 => ?_) (fun hg4 F8 => ?_)
  · clear F7
    refine g_onP F8 rfl rfl rfl rfl ?_
    refine s_callV wkP F8 rfl rfl rfl rfl (y_call F8 rfl rfl ent15) (parent [47, 97, 47, 98, 99] (by first | omega | decide | (simp; omega)) _) ?_; intro w9 a9 hR9 F9; clear F8
    have H9 : St w w9 [HP.blk b4 ([.string (txb ([97])), .string (txb ([98, 99]))]) 9, HP.own 9 1 (.slice p5 ((pns [47, 97, 47, 98, 99]).length) cap5) ((pns [47, 97, 47, 98, 99]).length) (rows txC (pns [47, 97, 47, 98, 99]))] := H6.call hR9
    refine g_onP F9 rfl rfl rfl rfl ?_
    refine s_val wkP F9 rfl rfl rfl rfl (y_eqT (l := (parP [47, 97, 47, 98, 99])) (m := [47, 97]) F9 rfl rfl rfl) ?_; intro a10 F10; clear F9
    refine s_val wkP F10 rfl rfl rfl rfl (y_pickT F10 rfl rfl rfl) ?_; intro a11 F11; clear F10
    refine s_val wkP F11 rfl rfl rfl rfl (y_move F11 rfl rfl) ?_; intro a12 F12; clear F11
    refine g_split (k := 8) F12 rfl (fun hg8 F13 => ?_) (fun hg8 F13 => ?_)
    · clear F12
      refine g_onP F13 rfl rfl rfl rfl ?_
      refine s_callV wkP F13 rfl rfl rfl rfl (y_call F13 rfl rfl ent17) (base [47, 97, 47, 98, 99] (by first | omega | decide | (simp; omega)) _) ?_; intro w14 a14 hR14 F14; clear F13
      have H14 : St w w14 [HP.blk b4 ([.string (txb ([97])), .string (txb ([98, 99]))]) 9, HP.own 9 1 (.slice p5 ((pns [47, 97, 47, 98, 99]).length) cap5) ((pns [47, 97, 47, 98, 99]).length) (rows txC (pns [47, 97, 47, 98, 99]))] := H9.call hR14
      refine g_onP F14 rfl rfl rfl rfl ?_
      refine s_val wkP F14 rfl rfl rfl rfl (y_eqT (l := (basP [47, 97, 47, 98, 99])) (m := [98, 99]) F14 rfl rfl rfl) ?_; intro a15 F15; clear F14
      refine s_val wkP F15 rfl rfl rfl rfl (y_pickT F15 rfl rfl rfl) ?_; intro a16 F16; clear F15
      refine s_val wkP F16 rfl rfl rfl rfl (y_move F16 rfl rfl) ?_; intro a17 F17; clear F16
      refine g_split (k := 12) F17 rfl (fun hg12 F18 => ?_) (fun hg12 F18 => ?_)
      · clear F17
        refine g_onP F18 rfl rfl rfl rfl ?_
        refine s_call wkP F18 rfl rfl rfl rfl (y_call F18 rfl rfl ent19) (ancestors [47, 97, 47, 98, 99] (by first | omega | decide | (simp; omega)) _) ?_; intro r19 w20 a20 hR20 F20; clear F18
        have H20 : St w w20 [HP.own 9 1 r19 ((anc [47, 97, 47, 98, 99] (pns [47, 97, 47, 98, 99]).length).length) (rows txC (anc [47, 97, 47, 98, 99] (pns [47, 97, 47, 98, 99]).length)), HP.blk b4 ([.string (txb ([97])), .string (txb ([98, 99]))]) 9, HP.own 9 1 (.slice p5 ((pns [47, 97, 47, 98, 99]).length) cap5) ((pns [47, 97, 47, 98, 99]).length) (rows txC (pns [47, 97, 47, 98, 99]))] := H14.call hR20
        have hplr19 := pns_len [47, 97, 47, 98, 99]
        refine g_onP F20 rfl rfl rfl rfl ?_
        refine s_buildC wkP F20 rfl rfl rfl elemStr z1Str rfl rfl rfl rfl (by simp [Value.cells]) (by decide) H20 ?_; intro b21 w21 a21 H21 F21; clear F20
        refine g_onP F21 rfl rfl rfl rfl ?_
        obtain ⟨p22, cap22, rfl, hcap22, hp22⟩ := H21.ownForm 1 rfl
        refine s_callV wkP F21 rfl rfl rfl rfl (y_call F21 rfl rfl ent13) (rsame (anc [47, 97, 47, 98, 99] (pns [47, 97, 47, 98, 99]).length) [[47], [47, 97]] (by first | omega | decide | (simp [anc]; omega)) (by first | omega | decide | (simp [anc]; omega)) p22 (some ⟨b21, 0, none⟩) cap22 2 _ (fun h => by obtain ⟨b, e⟩ := hp22 h; exact ⟨b, 0, e, H21.ownRowP 1 rfl e⟩) (fun _ => ⟨_, _, rfl, (H21.blk 0 rfl).row⟩)) ?_; intro w23 a23 hR23 F23; clear F21
        have H23 : St w w23 [HP.blk b21 ([.string (txb ([47])), .string (txb ([47, 97]))]) 9, HP.own 9 1 (.slice p22 ((anc [47, 97, 47, 98, 99] (pns [47, 97, 47, 98, 99]).length).length) cap22) ((anc [47, 97, 47, 98, 99] (pns [47, 97, 47, 98, 99]).length).length) (rows txC (anc [47, 97, 47, 98, 99] (pns [47, 97, 47, 98, 99]).length)), HP.blk b4 ([.string (txb ([97])), .string (txb ([98, 99]))]) 9, HP.own 9 1 (.slice p5 ((pns [47, 97, 47, 98, 99]).length) cap5) ((pns [47, 97, 47, 98, 99]).length) (rows txC (pns [47, 97, 47, 98, 99]))] := H21.call hR23
        refine s_val wkP F23 rfl rfl rfl rfl (y_pickT F23 rfl rfl rfl) ?_; intro a24 F24; clear F23
        refine s_val wkP F24 rfl rfl rfl rfl (y_move F24 rfl rfl) ?_; intro a25 F25; clear F24
        refine g_split (k := 17) F25 rfl (fun hg17 F26 => ?_) (fun hg17 F26 => ?_)
        · clear F25
          refine g_onP F26 rfl rfl rfl rfl ?_
          refine s_callV wkP F26 rfl rfl rfl rfl (y_call F26 rfl rfl ent20) (within [47, 97] [47, 97, 98] (by first | omega | decide | (simp; omega)) (by first | omega | decide | (simp; omega)) _) ?_; intro w27 a27 hR27 F27; clear F26
          have H27 : St w w27 [HP.blk b21 ([.string (txb ([47])), .string (txb ([47, 97]))]) 9, HP.own 9 1 (.slice p22 ((anc [47, 97, 47, 98, 99] (pns [47, 97, 47, 98, 99]).length).length) cap22) ((anc [47, 97, 47, 98, 99] (pns [47, 97, 47, 98, 99]).length).length) (rows txC (anc [47, 97, 47, 98, 99] (pns [47, 97, 47, 98, 99]).length)), HP.blk b4 ([.string (txb ([97])), .string (txb ([98, 99]))]) 9, HP.own 9 1 (.slice p5 ((pns [47, 97, 47, 98, 99]).length) cap5) ((pns [47, 97, 47, 98, 99]).length) (rows txC (pns [47, 97, 47, 98, 99]))] := H23.call hR27
          refine g_onP F27 rfl rfl rfl rfl ?_
          refine s_val wkP F27 rfl rfl rfl rfl (y_not F27 rfl rfl) ?_; intro a28 F28; clear F27
          refine s_val wkP F28 rfl rfl rfl rfl (y_pickT F28 rfl rfl rfl) ?_; intro a29 F29; clear F28
          refine s_val wkP F29 rfl rfl rfl rfl (y_assign F29 rfl rfl) ?_; intro a30 F30; clear F29
          refine wpList_nil ?_
          refine c_then ?_
          refine wp_ret ?_
          refine x_ret1 F30 rfl rfl ?_
          exact ⟨ret_bool (by decide +kernel), H27.drop0⟩
        · clear F25
          exact absurd (by decide +kernel) hg17
      · clear F17
        exact absurd (by decide +kernel) hg12
    · clear F12
      exact absurd (by decide +kernel) hg8
  · clear F7
    exact absurd (by decide +kernel) hg4
theorem ent7 : ∀ args w, (callFunc 7 args).run Tryd.prog w = .ok (.enter 7 args) w := enters Tryd.func7 (by kernel_rfl) rfl
set_option maxRecDepth 100000 in
set_option maxHeartbeats 2000000 in
theorem lawWithin (l m n : List UInt8) (w : World) :
    Calls Tryd.prog 4 [.string (txb l), .string (txb m), .string (txb n)].toArray w (fun e w' => e = .returned (.bool true) ∧ Below w.heap.size w w') := by
  refine x_enter Tryd.func4 rfl rfl rfl ?_
  intro a0 F0
  replace F0 : Fr ⟨55, []⟩ a0 [(0, .string (txb l)), (1, .string (txb m)), (2, .string (txb n))] := F0
  have H0 := St.nil w
  refine wp_seq ?_
  refine r_lit ?_
  refine s_val wkP F0 rfl rfl rfl rfl (y_assign F0 rfl rfl) ?_; intro a1 F1; clear F0
  refine wpList_nil ?_
  refine c_then ?_
  refine wp_seq ?_
  refine wp_seq ?_
  refine r_lit ?_
  refine s_callV wkP F1 rfl rfl rfl rfl (y_call F1 rfl rfl ent7) (speaks _) ?_; intro w2 a2 hR2 F2; clear F1
  have H2 : St w w2 [] := H0.call hR2
  refine s_val wkP F2 rfl rfl rfl rfl (y_not F2 rfl rfl) ?_; intro a3 F3; clear F2
  refine wpList_nil ?_
  refine c_then ?_
  refine x_condF F3 rfl ?_
  refine wp_skip ?_
  refine c_then ?_
  refine wp_seq ?_
  refine wp_seq ?_
  refine r_lit ?_
  refine s_val wkP F3 rfl rfl rfl rfl (y_move F3 rfl rfl) ?_; intro a5 F5; clear F3
  refine s_val wkP F5 rfl rfl rfl rfl (y_lenT (l := l) F5 rfl Tryd.underlying9 rfl) ?_; intro a6 F6; clear F5
  refine s_val wkP F6 rfl rfl rfl rfl (y_gtr F6 rfl rfl rfl) ?_; intro a7 F7; clear F6
  refine s_val wkP F7 rfl rfl rfl rfl (y_move F7 rfl rfl) ?_; intro a8 F8; clear F7
  refine g_split (k := 12) F8 rfl (fun hl F9 => ?_) (fun hl F9 => ?_)
  · clear F8
    refine g_off wkP F9 rfl rfl rfl rfl rfl rfl rfl ?_; intro a10 F10; clear F9
    refine g_off wkP F10 rfl rfl rfl rfl rfl rfl rfl ?_; intro a11 F11; clear F10
    refine g_off wkP F11 rfl rfl rfl rfl rfl rfl rfl ?_; intro a12 F12; clear F11
    refine s_val wkP F12 rfl rfl rfl rfl (y_pickT F12 rfl rfl rfl) ?_; intro a13 F13; clear F12
    refine s_val wkP F13 rfl rfl rfl rfl (y_move F13 rfl rfl) ?_; intro a14 F14; clear F13
    refine g_off wkP F14 rfl rfl rfl rfl rfl rfl rfl ?_; intro a15 F15; clear F14
    refine g_off wkP F15 rfl rfl rfl rfl rfl rfl rfl ?_; intro a16 F16; clear F15
    refine g_off wkP F16 rfl rfl rfl rfl rfl rfl rfl ?_; intro a17 F17; clear F16
    refine s_val wkP F17 rfl rfl rfl rfl (y_pickT F17 rfl rfl rfl) ?_; intro a18 F18; clear F17
    refine wpList_nil ?_
    refine c_then ?_
    refine x_condT F18 rfl ?_
    refine wp_seq ?_
    refine r_lit ?_
    refine s_val wkP F18 rfl rfl rfl rfl (y_assign F18 rfl rfl) ?_; intro a20 F20; clear F18
    refine wpList_nil ?_
    refine c_then ?_
    refine wp_ret ?_
    refine c_thenR ?_
    refine x_ret1 F20 rfl rfl ?_
    exact ⟨rfl, H2.below⟩
  · clear F8
    refine g_onP F9 rfl rfl rfl rfl ?_
    refine s_val wkP F9 rfl rfl rfl rfl (y_move F9 rfl rfl) ?_; intro a21 F21; clear F9
    refine g_onP F21 rfl rfl rfl rfl ?_
    refine s_val wkP F21 rfl rfl rfl rfl (y_lenT (l := m) F21 rfl Tryd.underlying9 rfl) ?_; intro a22 F22; clear F21
    refine g_onP F22 rfl rfl rfl rfl ?_
    refine s_val wkP F22 rfl rfl rfl rfl (y_gtr F22 rfl rfl rfl) ?_; intro a23 F23; clear F22
    refine s_val wkP F23 rfl rfl rfl rfl (y_pickF F23 rfl rfl rfl) ?_; intro a24 F24; clear F23
    refine s_val wkP F24 rfl rfl rfl rfl (y_move F24 rfl rfl) ?_; intro a25 F25; clear F24
    refine g_split (k := 17) F25 rfl (fun hm F26 => ?_) (fun hm F26 => ?_)
    · clear F25
      refine g_off wkP F26 rfl rfl rfl rfl rfl rfl rfl ?_; intro a27 F27; clear F26
      refine g_off wkP F27 rfl rfl rfl rfl rfl rfl rfl ?_; intro a28 F28; clear F27
      refine g_off wkP F28 rfl rfl rfl rfl rfl rfl rfl ?_; intro a29 F29; clear F28
      refine s_val wkP F29 rfl rfl rfl rfl (y_pickT F29 rfl rfl rfl) ?_; intro a30 F30; clear F29
      refine wpList_nil ?_
      refine c_then ?_
      refine x_condT F30 rfl ?_
      refine wp_seq ?_
      refine r_lit ?_
      refine s_val wkP F30 rfl rfl rfl rfl (y_assign F30 rfl rfl) ?_; intro a32 F32; clear F30
      refine wpList_nil ?_
      refine c_then ?_
      refine wp_ret ?_
      refine c_thenR ?_
      refine x_ret1 F32 rfl rfl ?_
      exact ⟨rfl, H2.below⟩
    · clear F25
      refine g_onP F26 rfl rfl rfl rfl ?_
      refine s_val wkP F26 rfl rfl rfl rfl (y_move F26 rfl rfl) ?_; intro a33 F33; clear F26
      refine g_onP F33 rfl rfl rfl rfl ?_
      refine s_val wkP F33 rfl rfl rfl rfl (y_lenT (l := n) F33 rfl Tryd.underlying9 rfl) ?_; intro a34 F34; clear F33
      refine g_onP F34 rfl rfl rfl rfl ?_
      refine s_val wkP F34 rfl rfl rfl rfl (y_gtr F34 rfl rfl rfl) ?_; intro a35 F35; clear F34
      refine s_val wkP F35 rfl rfl rfl rfl (y_pickF F35 rfl rfl rfl) ?_; intro a36 F36; clear F35
      refine wpList_nil ?_
      refine c_then ?_
      refine x_condP F36 rfl (fun hn => ?_) (fun hn => ?_)
      · skip
        refine wp_seq ?_
        refine r_lit ?_
        refine s_val wkP F36 rfl rfl rfl rfl (y_assign F36 rfl rfl) ?_; intro a38 F38; clear F36
        refine wpList_nil ?_
        refine c_then ?_
        refine wp_ret ?_
        refine c_thenR ?_
        refine x_ret1 F38 rfl rfl ?_
        exact ⟨rfl, H2.below⟩
      · skip
        refine wp_skip ?_
        refine c_then ?_
        refine wp_seq ?_
        refine r_lit ?_
        refine s_val wkP F36 rfl rfl rfl rfl (y_move F36 rfl rfl) ?_; intro a39 F39; clear F36
        refine s_val wkP F39 rfl rfl rfl rfl (y_move F39 rfl rfl) ?_; intro a40 F40; clear F39
        refine s_callV wkP F40 rfl rfl rfl rfl (y_call F40 rfl rfl ent20) (within l m (by first | omega | decide | (simp; omega)) (by first | omega | decide | (simp; omega)) _) ?_; intro w41 a41 hR41 F41; clear F40
        have H41 : St w w41 [] := H2.call hR41
        refine s_val wkP F41 rfl rfl rfl rfl (y_move F41 rfl rfl) ?_; intro a42 F42; clear F41
        refine s_val wkP F42 rfl rfl rfl rfl (y_move F42 rfl rfl) ?_; intro a43 F43; clear F42
        refine s_callV wkP F43 rfl rfl rfl rfl (y_call F43 rfl rfl ent21) (rwithin l m (by first | omega | decide | (simp; omega)) (by first | omega | decide | (simp; omega)) _) ?_; intro w44 a44 hR44 F44; clear F43
        have H44 : St w w44 [] := H41.call hR44
        refine s_val wkP F44 rfl rfl rfl rfl (y_eqlBool (p := (wthP l m)) (q := (wthP l m)) F44 rfl Tryd.underlying4 rfl rfl) ?_; intro a45 F45; clear F44
        refine s_val wkP F45 rfl rfl rfl rfl (y_move F45 rfl rfl) ?_; intro a46 F46; clear F45
        refine g_split (k := 29) F46 rfl (fun hg29 F47 => ?_) (fun hg29 F47 => ?_)
        · clear F46
          refine g_onP F47 rfl rfl rfl rfl ?_
          refine s_val wkP F47 rfl rfl rfl rfl (y_move F47 rfl rfl) ?_; intro a48 F48; clear F47
          refine g_onP F48 rfl rfl rfl rfl ?_
          refine s_val wkP F48 rfl rfl rfl rfl (y_move F48 rfl rfl) ?_; intro a49 F49; clear F48
          refine g_onP F49 rfl rfl rfl rfl ?_
          refine s_callV wkP F49 rfl rfl rfl rfl (y_call F49 rfl rfl ent20) (within l m (by first | omega | decide | (simp; omega)) (by first | omega | decide | (simp; omega)) _) ?_; intro w50 a50 hR50 F50; clear F49
          have H50 : St w w50 [] := H44.call hR50
          refine g_onP F50 rfl rfl rfl rfl ?_
          refine s_val wkP F50 rfl rfl rfl rfl (y_not F50 rfl rfl) ?_; intro a51 F51; clear F50
          refine g_onP F51 rfl rfl rfl rfl ?_
          refine s_val wkP F51 rfl rfl rfl rfl (y_move F51 rfl rfl) ?_; intro a52 F52; clear F51
          refine g_splitB (k := 34) F52 rfl (fun hg34 F53 => ?_) (fun hg34 F53 => ?_)
          · clear F52
            refine g_off wkP F53 rfl rfl rfl rfl rfl rfl rfl ?_; intro a54 F54; clear F53
            refine g_off wkP F54 rfl rfl rfl rfl rfl rfl rfl ?_; intro a55 F55; clear F54
            refine g_off wkP F55 rfl rfl rfl rfl rfl rfl rfl ?_; intro a56 F56; clear F55
            refine g_off wkP F56 rfl rfl rfl rfl rfl rfl rfl ?_; intro a57 F57; clear F56
            refine g_onP F57 rfl rfl rfl rfl ?_
            refine s_val wkP F57 rfl rfl rfl rfl (y_pickT F57 rfl rfl rfl) ?_; intro a58 F58; clear F57
            refine g_onP F58 rfl rfl rfl rfl ?_
            refine s_val wkP F58 rfl rfl rfl rfl (y_move F58 rfl rfl) ?_; intro a59 F59; clear F58
            refine g_off wkP F59 rfl rfl rfl rfl rfl rfl rfl ?_; intro a60 F60; clear F59
            refine g_off wkP F60 rfl rfl rfl rfl rfl rfl rfl ?_; intro a61 F61; clear F60
            refine g_off wkP F61 rfl rfl rfl rfl rfl rfl rfl ?_; intro a62 F62; clear F61
            refine g_onP F62 rfl rfl rfl rfl ?_
            refine s_val wkP F62 rfl rfl rfl rfl (y_pickT F62 rfl rfl rfl) ?_; intro a63 F63; clear F62
            refine s_val wkP F63 rfl rfl rfl rfl (y_pickT F63 rfl rfl rfl) ?_; intro a64 F64; clear F63
            refine s_val wkP F64 rfl rfl rfl rfl (y_move F64 rfl rfl) ?_; intro a65 F65; clear F64
            refine g_onP F65 rfl rfl rfl rfl ?_
            refine s_val wkP F65 rfl rfl rfl rfl (y_move F65 rfl rfl) ?_; intro a66 F66; clear F65
            refine g_onP F66 rfl rfl rfl rfl ?_
            refine s_val wkP F66 rfl rfl rfl rfl (y_move F66 rfl rfl) ?_; intro a67 F67; clear F66
            refine g_onP F67 rfl rfl rfl rfl ?_
            refine s_callV wkP F67 rfl rfl rfl rfl (y_call F67 rfl rfl ent20) (within l l (by first | omega | decide | (simp; omega)) (by first | omega | decide | (simp; omega)) _) ?_; intro w68 a68 hR68 F68; clear F67
            have H68 : St w w68 [] := H50.call hR68
            refine g_onP F68 rfl rfl rfl rfl ?_
            refine s_val wkP F68 rfl rfl rfl rfl (y_move F68 rfl rfl) ?_; intro a69 F69; clear F68
            refine g_onP F69 rfl rfl rfl rfl ?_
            refine s_callV wkP F69 rfl rfl rfl rfl (y_call F69 rfl rfl ent12) (check l (by first | omega | decide | (simp; omega)) _) ?_; intro w70 a70 hR70 F70; clear F69
            have H70 : St w w70 [] := H68.call hR70
            refine g_onP F70 rfl rfl rfl rfl ?_
            refine s_val wkP F70 rfl rfl rfl rfl (y_eql F70 rfl rfl rfl) ?_; intro a71 F71; clear F70
            refine g_onP F71 rfl rfl rfl rfl ?_
            refine s_val wkP F71 rfl rfl rfl rfl (y_eqlBool (p := (wthP l l)) (q := (decide (((if okP l = true then 0 else 90)) = (0)))) F71 rfl Tryd.underlying4 rfl rfl) ?_; intro a72 F72; clear F71
            refine s_val wkP F72 rfl rfl rfl rfl (y_pickT F72 rfl rfl rfl) ?_; intro a73 F73; clear F72
            refine s_val wkP F73 rfl rfl rfl rfl (y_assign F73 rfl rfl) ?_; intro a74 F74; clear F73
            refine wpList_nil ?_
            refine c_then ?_
            refine wp_ret ?_
            refine x_ret1 F74 rfl rfl ?_
            exact ⟨ret_bool (by rw [wth_self]; cases okP l <;> simp), H70.below⟩
          · clear F52
            refine g_onP F53 rfl rfl rfl rfl ?_
            refine s_val wkP F53 rfl rfl rfl rfl (y_move F53 rfl rfl) ?_; intro a75 F75; clear F53
            refine g_onP F75 rfl rfl rfl rfl ?_
            refine s_val wkP F75 rfl rfl rfl rfl (y_move F75 rfl rfl) ?_; intro a76 F76; clear F75
            refine g_onP F76 rfl rfl rfl rfl ?_
            refine s_callV wkP F76 rfl rfl rfl rfl (y_call F76 rfl rfl ent20) (within m n (by first | omega | decide | (simp; omega)) (by first | omega | decide | (simp; omega)) _) ?_; intro w77 a77 hR77 F77; clear F76
            have H77 : St w w77 [] := H50.call hR77
            refine g_onP F77 rfl rfl rfl rfl ?_
            refine s_val wkP F77 rfl rfl rfl rfl (y_not F77 rfl rfl) ?_; intro a78 F78; clear F77
            refine g_onP F78 rfl rfl rfl rfl ?_
            refine s_val wkP F78 rfl rfl rfl rfl (y_pickF F78 rfl rfl rfl) ?_; intro a79 F79; clear F78
            refine g_onP F79 rfl rfl rfl rfl ?_
            refine s_val wkP F79 rfl rfl rfl rfl (y_move F79 rfl rfl) ?_; intro a80 F80; clear F79
            refine g_splitB (k := 40) F80 rfl (fun hg40 F81 => ?_) (fun hg40 F81 => ?_)
            · clear F80
              refine g_off wkP F81 rfl rfl rfl rfl rfl rfl rfl ?_; intro a82 F82; clear F81
              refine g_off wkP F82 rfl rfl rfl rfl rfl rfl rfl ?_; intro a83 F83; clear F82
              refine g_off wkP F83 rfl rfl rfl rfl rfl rfl rfl ?_; intro a84 F84; clear F83
              refine g_onP F84 rfl rfl rfl rfl ?_
              refine s_val wkP F84 rfl rfl rfl rfl (y_pickT F84 rfl rfl rfl) ?_; intro a85 F85; clear F84
              refine s_val wkP F85 rfl rfl rfl rfl (y_pickT F85 rfl rfl rfl) ?_; intro a86 F86; clear F85
              refine s_val wkP F86 rfl rfl rfl rfl (y_move F86 rfl rfl) ?_; intro a87 F87; clear F86
              refine g_onP F87 rfl rfl rfl rfl ?_
              refine s_val wkP F87 rfl rfl rfl rfl (y_move F87 rfl rfl) ?_; intro a88 F88; clear F87
              refine g_onP F88 rfl rfl rfl rfl ?_
              refine s_val wkP F88 rfl rfl rfl rfl (y_move F88 rfl rfl) ?_; intro a89 F89; clear F88
              refine g_onP F89 rfl rfl rfl rfl ?_
              refine s_callV wkP F89 rfl rfl rfl rfl (y_call F89 rfl rfl ent20) (within l l (by first | omega | decide | (simp; omega)) (by first | omega | decide | (simp; omega)) _) ?_; intro w90 a90 hR90 F90; clear F89
              have H90 : St w w90 [] := H77.call hR90
              refine g_onP F90 rfl rfl rfl rfl ?_
              refine s_val wkP F90 rfl rfl rfl rfl (y_move F90 rfl rfl) ?_; intro a91 F91; clear F90
              refine g_onP F91 rfl rfl rfl rfl ?_
              refine s_callV wkP F91 rfl rfl rfl rfl (y_call F91 rfl rfl ent12) (check l (by first | omega | decide | (simp; omega)) _) ?_; intro w92 a92 hR92 F92; clear F91
              have H92 : St w w92 [] := H90.call hR92
              refine g_onP F92 rfl rfl rfl rfl ?_
              refine s_val wkP F92 rfl rfl rfl rfl (y_eql F92 rfl rfl rfl) ?_; intro a93 F93; clear F92
              refine g_onP F93 rfl rfl rfl rfl ?_
              refine s_val wkP F93 rfl rfl rfl rfl (y_eqlBool (p := (wthP l l)) (q := (decide (((if okP l = true then 0 else 90)) = (0)))) F93 rfl Tryd.underlying4 rfl rfl) ?_; intro a94 F94; clear F93
              refine s_val wkP F94 rfl rfl rfl rfl (y_pickT F94 rfl rfl rfl) ?_; intro a95 F95; clear F94
              refine s_val wkP F95 rfl rfl rfl rfl (y_assign F95 rfl rfl) ?_; intro a96 F96; clear F95
              refine wpList_nil ?_
              refine c_then ?_
              refine wp_ret ?_
              refine x_ret1 F96 rfl rfl ?_
              exact ⟨ret_bool (by rw [wth_self]; cases okP l <;> simp), H92.below⟩
            · clear F80
              refine g_onP F81 rfl rfl rfl rfl ?_
              refine s_val wkP F81 rfl rfl rfl rfl (y_move F81 rfl rfl) ?_; intro a97 F97; clear F81
              refine g_onP F97 rfl rfl rfl rfl ?_
              refine s_val wkP F97 rfl rfl rfl rfl (y_move F97 rfl rfl) ?_; intro a98 F98; clear F97
              refine g_onP F98 rfl rfl rfl rfl ?_
              refine s_callV wkP F98 rfl rfl rfl rfl (y_call F98 rfl rfl ent20) (within l n (by first | omega | decide | (simp; omega)) (by first | omega | decide | (simp; omega)) _) ?_; intro w99 a99 hR99 F99; clear F98
              have H99 : St w w99 [] := H77.call hR99
              refine g_onP F99 rfl rfl rfl rfl ?_
              refine s_val wkP F99 rfl rfl rfl rfl (y_pickF F99 rfl rfl rfl) ?_; intro a100 F100; clear F99
              refine s_val wkP F100 rfl rfl rfl rfl (y_pickT F100 rfl rfl rfl) ?_; intro a101 F101; clear F100
              refine s_val wkP F101 rfl rfl rfl rfl (y_move F101 rfl rfl) ?_; intro a102 F102; clear F101
              refine g_splitB (k := 46) F102 rfl (fun hg46 F103 => ?_) (fun hg46 F103 => ?_)
              · clear F102
                refine g_onP F103 rfl rfl rfl rfl ?_
                refine s_val wkP F103 rfl rfl rfl rfl (y_move F103 rfl rfl) ?_; intro a104 F104; clear F103
                refine g_onP F104 rfl rfl rfl rfl ?_
                refine s_val wkP F104 rfl rfl rfl rfl (y_move F104 rfl rfl) ?_; intro a105 F105; clear F104
                refine g_onP F105 rfl rfl rfl rfl ?_
                refine s_callV wkP F105 rfl rfl rfl rfl (y_call F105 rfl rfl ent20) (within l l (by first | omega | decide | (simp; omega)) (by first | omega | decide | (simp; omega)) _) ?_; intro w106 a106 hR106 F106; clear F105
                have H106 : St w w106 [] := H99.call hR106
                refine g_onP F106 rfl rfl rfl rfl ?_
                refine s_val wkP F106 rfl rfl rfl rfl (y_move F106 rfl rfl) ?_; intro a107 F107; clear F106
                refine g_onP F107 rfl rfl rfl rfl ?_
                refine s_callV wkP F107 rfl rfl rfl rfl (y_call F107 rfl rfl ent12) (check l (by first | omega | decide | (simp; omega)) _) ?_; intro w108 a108 hR108 F108; clear F107
                have H108 : St w w108 [] := H106.call hR108
                refine g_onP F108 rfl rfl rfl rfl ?_
                refine s_val wkP F108 rfl rfl rfl rfl (y_eql F108 rfl rfl rfl) ?_; intro a109 F109; clear F108
                refine g_onP F109 rfl rfl rfl rfl ?_
                refine s_val wkP F109 rfl rfl rfl rfl (y_eqlBool (p := (wthP l l)) (q := (decide (((if okP l = true then 0 else 90)) = (0)))) F109 rfl Tryd.underlying4 rfl rfl) ?_; intro a110 F110; clear F109
                refine s_val wkP F110 rfl rfl rfl rfl (y_pickT F110 rfl rfl rfl) ?_; intro a111 F111; clear F110
                refine s_val wkP F111 rfl rfl rfl rfl (y_assign F111 rfl rfl) ?_; intro a112 F112; clear F111
                refine wpList_nil ?_
                refine c_then ?_
                refine wp_ret ?_
                refine x_ret1 F112 rfl rfl ?_
                exact ⟨ret_bool (by rw [wth_self]; cases okP l <;> simp), H108.below⟩
              · clear F102
                exact absurd (wth_trans (by simpa using hg34) (by simpa using hg40)) (by simp [hg46])
        · clear F46
          exact absurd rfl hg29

end Go.Proofs.YtodggokkklfopaaDoor
