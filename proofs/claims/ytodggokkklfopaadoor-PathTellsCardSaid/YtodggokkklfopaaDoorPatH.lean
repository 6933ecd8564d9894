/- PathTells. -/
import Derived.Test.YtodggokkklfopaaDoorPatG
set_option linter.unusedSimpArgs false
set_option linter.unusedVariables false
namespace Go.Proofs.YtodggokkklfopaaDoor
open Go.ChangeShapes Go.WideShapes Go.ChangeAt Go.RowKit Go.Tri
set_option maxRecDepth 100000 in
set_option maxHeartbeats 2000000 in
theorem lawTells (l : List UInt8) (w : World) :
    Calls Tryd.prog 3 [.string (txb l)].toArray w (fun e w' => e = .returned (.bool true) ∧ Below w.heap.size w w') := by
  refine x_enter Tryd.func3 rfl rfl rfl ?_
  intro a0 F0
  replace F0 : Fr ⟨77, []⟩ a0 [(0, .string (txb l))] := F0
  have H0 := St.nil w
  refine wp_seq ?_
  refine r_lit ?_
  refine s_val wkP F0 rfl rfl rfl rfl (y_assign F0 rfl rfl) ?_; intro a1 F1; clear F0
  refine wpList_nil ?_
  refine c_then ?_
  refine wp_seq ?_
  refine wp_seq ?_
  refine r_lit ?_
  refine s_callV wkP F1 rfl rfl rfl rfl (y_call F1 rfl rfl ent7) (speaks _) ?_; intro w2 a2 hR2 F2; clear F1
  have H2 : St w w2 [] := H0.call hR2
  refine s_val wkP F2 rfl rfl rfl rfl (y_not F2 rfl rfl) ?_; intro a3 F3; clear F2
  refine wpList_nil ?_
  refine c_then ?_
  refine x_condF F3 rfl ?_
  refine wp_skip ?_
  refine c_then ?_
  refine wp_seq ?_
  refine wp_seq ?_
  refine r_lit ?_
  refine s_val wkP F3 rfl rfl rfl rfl (y_move F3 rfl rfl) ?_; intro a5 F5; clear F3
  refine s_val wkP F5 rfl rfl rfl rfl (y_lenT (l := l) F5 rfl Tryd.underlying9 rfl) ?_; intro a6 F6; clear F5
  refine s_val wkP F6 rfl rfl rfl rfl (y_gtr F6 rfl rfl rfl) ?_; intro a7 F7; clear F6
  refine wpList_nil ?_
  refine c_then ?_
  refine x_condP F7 rfl (fun hl => ?_) (fun hl => ?_)
  · skip
    refine wp_seq ?_
    refine r_lit ?_
    refine s_val wkP F7 rfl rfl rfl rfl (y_assign F7 rfl rfl) ?_; intro a9 F9; clear F7
    refine wpList_nil ?_
    refine c_then ?_
    refine wp_ret ?_
    refine c_thenR ?_
    refine x_ret1 F9 rfl rfl ?_
    exact ⟨rfl, H2.below⟩
  · skip
    refine wp_skip ?_
    refine c_then ?_
    refine wp_seq ?_
    refine r_lit ?_
    refine s_val wkP F7 rfl rfl rfl rfl (y_move F7 rfl rfl) ?_; intro a10 F10; clear F7
    refine s_call wkP F10 rfl rfl rfl rfl (y_call F10 rfl rfl ent8) (rsplit l (by omega) _) ?_; intro vvv1 w11 a11 hR11 F11; clear F10
    obtain ⟨v1, rfl, hEv1⟩ := hR11
    have H11 : St w w11 [HP.own 9 1 v1 ((pns l).length) (rows txC (pns l))] := H2.call hEv1
    have hplv1 := pns_len l
    refine s_val wkP F11 rfl rfl rfl rfl (y_move F11 rfl rfl) ?_; intro a12 F12; clear F11
    refine s_val wkP F12 rfl rfl rfl rfl (y_extract F12 rfl rfl rfl) ?_; intro a13 F13; clear F12
    refine s_val wkP F13 rfl rfl rfl rfl (y_extract F13 rfl rfl rfl) ?_; intro a14 F14; clear F13
    refine s_val wkP F14 rfl rfl rfl rfl (y_assign F14 rfl rfl) ?_; intro a15 F15; clear F14
    refine s_val wkP F15 rfl rfl rfl rfl (y_assign F15 rfl rfl) ?_; intro a16 F16; clear F15
    refine wpList_nil ?_
    refine c_then ?_
    refine wp_seq ?_
    refine r_lit ?_
    refine s_build0 wkP F16 rfl rfl rfl elemStr rfl H11 ?_; intro s17 w17 a17 H17 F17; clear F16
    refine s_val wkP F17 rfl rfl rfl rfl (y_assign F17 rfl rfl) ?_; intro a18 F18; clear F17
    refine wpList_nil ?_
    refine c_then ?_
    refine wp_seq ?_
    refine wp_seq ?_
    refine r_lit ?_
    refine s_val wkP F18 rfl rfl rfl rfl (y_move F18 rfl rfl) ?_; intro a19 F19; clear F18
    obtain ⟨p20, cap20, rfl, hcap20, hp20⟩ := H17.ownForm 1 rfl
    refine s_val wkP F19 rfl rfl rfl rfl (y_lenS F19 rfl Tryd.underlying23 rfl) ?_; intro a21 F21; clear F19
    refine s_val wkP F21 rfl rfl rfl rfl (y_move F21 rfl rfl) ?_; intro a22 F22; clear F21
    refine wpList_nil ?_
    refine c_then ?_
    refine wp_block ?_
    refine x_loop (G := Nat × Value) (fun gg aa ww => match gg with | (k, so) => Fr ⟨77, []⟩ aa [(0, .string (txb (l))), (2, .bool false), (3, .slice p20 ((pns l).length) cap20), (4, .bool (okP l)), (19, .int .i64 (((((pns l).length) : Nat) : Int))), (5, so), (20, .int .i64 (((k : Nat) : Int)))] ∧ St w ww [HP.own 9 1 so ((anc l k).length) (rows txC (anc l k)), HP.own 9 1 (.slice p20 ((pns l).length) cap20) ((pns l).length) (rows txC (pns l))] ∧ (k ≤ (pns l).length)) (fun gg => match gg with | (k, so) => (pns l).length - k) (0, s17) ⟨F22.cut _ ⟨rfl, rfl, rfl, rfl, rfl, rfl, rfl, trivial⟩, H17, Nat.zero_le _⟩ ?_
    clear F22
    rintro ⟨k, so⟩ a23 w23 ⟨F23, H23, hk⟩
    refine wp_seq ?_
    refine r_lit ?_
    refine s_val wkP F23 rfl rfl rfl rfl (y_lss F23 rfl rfl rfl) ?_; intro a24 F24; clear F23
    refine wpList_nil ?_
    refine c_then ?_
    refine wp_seq ?_
    refine x_condP F24 rfl (fun hlt => ?_) (fun hlt => ?_)
    · skip
      refine wp_skip ?_
      refine c_then ?_
      refine wp_seq ?_
      refine wp_block ?_
      refine wp_seq ?_
      refine r_lit ?_
      refine s_val wkP F24 rfl rfl rfl rfl (y_move F24 rfl rfl) ?_; intro a26 F26; clear F24
      refine s_val wkP F26 rfl rfl rfl rfl (y_assign F26 rfl rfl) ?_; intro a27 F27; clear F26
      refine wpList_nil ?_
      refine c_then ?_
      have hal : (anc l k).length = k := by simp [anc]
      refine r_lit ?_
      refine s_val wkP F27 rfl rfl rfl rfl (y_move F27 rfl rfl) ?_; intro a28 F28; clear F27
      refine s_val wkP F28 rfl rfl rfl rfl (y_move F28 rfl rfl) ?_; intro a29 F29; clear F28
      refine s_val wkP F29 rfl rfl rfl rfl (y_move F29 rfl rfl) ?_; intro a30 F30; clear F29
      refine s_val wkP F30 rfl rfl rfl rfl (y_sliceHi (j := k) F30 elemStr rfl rfl rfl (by omega)) ?_; intro a31 F31; clear F30
      refine s_callV wkP F31 rfl rfl rfl rfl (y_call F31 rfl rfl ent9) (rjoin ((pns l).take (k)) p20 _ _ (by rw [List.length_take]; omega) (by have h2 := tot_take (pns l) (k); have h3 := pns_tot l; omega) _ (fun h => by obtain ⟨b, e⟩ := hp20 (by omega); exact ⟨b, 0, e, Row.takeT (H23.ownRowP 1 rfl e) _⟩)) ?_; intro w32 a32 hR32 F32; clear F31
      have H32 : St w w32 [HP.own 9 1 so ((anc l k).length) (rows txC (anc l k)), HP.own 9 1 (.slice p20 ((pns l).length) cap20) ((pns l).length) (rows txC (pns l))] := H23.call hR32
      refine s_buildC wkP F32 rfl rfl rfl elemStr z1Str rfl rfl rfl rfl (by simp [Value.cells]) (by decide) H32 ?_; intro b33 w33 a33 H33 F33; clear F32
      refine s_append wkP F33 rfl rfl rfl rfl H33 1 rfl rfl elemStr rfl (.inr (.inr ⟨_, _, _, rfl, Nat.le_refl _, (H33.blk 0 rfl).row⟩)) (by rw [Nat.one_mul]; exact rfl) (txC_flat _) (by unfold maxLen; first | omega | (simp; omega)) (by first | omega | (simp; omega)) ?_; intro s34 w34 a34 h34 F34; clear F33
      have H34 : St w w34 [HP.blk b33 ([.string (txb ((pth ((pns l).take (k)))))]) 9, HP.own 9 1 s34 (((anc l k) ++ [(pth ((pns l).take (k)))]).length) (rows txC ((anc l k) ++ [(pth ((pns l).take (k)))])), HP.own 9 1 (.slice p20 ((pns l).length) cap20) ((pns l).length) (rows txC (pns l))] := by rw [rows_snoc, List.length_append]; exact h34
      clear h34
      refine s_val wkP F34 rfl rfl rfl rfl (y_assign F34 rfl rfl) ?_; intro a35 F35; clear F34
      refine wpList_nil ?_
      refine c_blkN ?_
      refine c_then ?_
      refine r_lit ?_
      refine s_val wkP F35 rfl rfl rfl rfl (y_add F35 rfl rfl rfl (r := (((k : Nat) : Int)) + (1)) (wrap_i64 (by omega) (by omega) (by omega))) ?_; intro a36 F36; clear F35
      refine s_val wkP F36 rfl rfl rfl rfl (y_move F36 rfl rfl) ?_; intro a37 F37; clear F36
      refine wpList_nil ?_
      refine c_then ?_
      exact ⟨(k + 1, s34), ⟨F37.cut _ ⟨rfl, rfl, rfl, rfl, rfl, rfl, rfl, trivial⟩, (by have hp : St w w34 [HP.own 9 1 s34 (((anc l k) ++ [(pth ((pns l).take (k)))]).length) (rows txC ((anc l k) ++ [(pth ((pns l).take (k)))])), HP.own 9 1 (.slice p20 ((pns l).length) cap20) ((pns l).length) (rows txC (pns l))] := H34.pick [1, 2] (by decide) rfl; rw [← anc_succ] at hp; exact hp), by omega⟩, by first | omega | (dsimp only; omega)⟩
    · skip
      refine wp_exit ?_
      refine c_thenX ?_
      refine c_thenX ?_
      refine c_hit ?_
      refine c_then ?_
      refine wp_seq ?_
      have hkk : k = (pns l).length := by omega
      have hal : (anc l k).length = k := by simp [anc]
      refine r_lit ?_
      refine s_val wkP F24 rfl rfl rfl rfl (y_move F24 rfl rfl) ?_; intro a38 F38; clear F24
      refine s_callV wkP F38 rfl rfl rfl rfl (y_call F38 rfl rfl ent10) (name l (by first | omega | decide | (simp; omega)) _) ?_; intro w39 a39 hR39 F39; clear F38
      have H39 : St w w39 [HP.own 9 1 so ((anc l k).length) (rows txC (anc l k)), HP.own 9 1 (.slice p20 ((pns l).length) cap20) ((pns l).length) (rows txC (pns l))] := H23.call hR39
      refine s_val wkP F39 rfl rfl rfl rfl (y_move F39 rfl rfl) ?_; intro a40 F40; clear F39
      refine s_callV wkP F40 rfl rfl rfl rfl (y_call F40 rfl rfl ent11) (rname l (by first | omega | decide | (simp; omega)) _) ?_; intro w41 a41 hR41 F41; clear F40
      have H41 : St w w41 [HP.own 9 1 so ((anc l k).length) (rows txC (anc l k)), HP.own 9 1 (.slice p20 ((pns l).length) cap20) ((pns l).length) (rows txC (pns l))] := H39.call hR41
      refine s_val wkP F41 rfl rfl rfl rfl (y_eqlBool (p := (nameB l)) (q := (nameB l)) F41 rfl Tryd.underlying4 rfl rfl) ?_; intro a42 F42; clear F41
      refine s_val wkP F42 rfl rfl rfl rfl (y_move F42 rfl rfl) ?_; intro a43 F43; clear F42
      refine g_split (k := 36) F43 rfl (fun hg36 F44 => ?_) (fun hg36 F44 => ?_)
      · clear F43
        refine g_onP F44 rfl rfl rfl rfl ?_
        refine s_val wkP F44 rfl rfl rfl rfl (y_move F44 rfl rfl) ?_; intro a45 F45; clear F44
        refine g_onP F45 rfl rfl rfl rfl ?_
        refine s_callV wkP F45 rfl rfl rfl rfl (y_call F45 rfl rfl ent12) (check l (by first | omega | decide | (simp; omega)) _) ?_; intro w46 a46 hR46 F46; clear F45
        have H46 : St w w46 [HP.own 9 1 so ((anc l k).length) (rows txC (anc l k)), HP.own 9 1 (.slice p20 ((pns l).length) cap20) ((pns l).length) (rows txC (pns l))] := H41.call hR46
        refine g_onP F46 rfl rfl rfl rfl ?_
        refine s_val wkP F46 rfl rfl rfl rfl (y_eql F46 rfl rfl rfl) ?_; intro a47 F47; clear F46
        refine g_onP F47 rfl rfl rfl rfl ?_
        refine s_val wkP F47 rfl rfl rfl rfl (y_move F47 rfl rfl) ?_; intro a48 F48; clear F47
        refine g_onP F48 rfl rfl rfl rfl ?_
        refine s_val wkP F48 rfl rfl rfl rfl (y_eqlBool (p := (decide (((if okP l = true then 0 else 90)) = (0)))) (q := (okP l)) F48 rfl Tryd.underlying4 rfl rfl) ?_; intro a49 F49; clear F48
        refine s_val wkP F49 rfl rfl rfl rfl (y_pickT F49 rfl rfl rfl) ?_; intro a50 F50; clear F49
        refine s_val wkP F50 rfl rfl rfl rfl (y_move F50 rfl rfl) ?_; intro a51 F51; clear F50
        refine g_split (k := 43) F51 rfl (fun hg43 F52 => ?_) (fun hg43 F52 => ?_)
        · clear F51
          refine g_onP F52 rfl rfl rfl rfl ?_
          refine s_val wkP F52 rfl rfl rfl rfl (y_move F52 rfl rfl) ?_; intro a53 F53; clear F52
          refine g_onP F53 rfl rfl rfl rfl ?_
          refine s_val wkP F53 rfl rfl rfl rfl (y_move F53 rfl rfl) ?_; intro a54 F54; clear F53
          refine g_splitB (k := 45) F54 rfl (fun hg45 F55 => ?_) (fun hg45 F55 => ?_)
          · clear F54
            refine g_off wkP F55 rfl rfl rfl rfl rfl rfl rfl ?_; intro a56 F56; clear F55
            refine g_off wkP F56 rfl rfl rfl rfl rfl rfl rfl ?_; intro a57 F57; clear F56
            refine g_off wkP F57 rfl rfl rfl rfl rfl rfl rfl ?_; intro a58 F58; clear F57
            refine g_onP F58 rfl rfl rfl rfl ?_
            refine s_val wkP F58 rfl rfl rfl rfl (y_pickT F58 rfl rfl rfl) ?_; intro a59 F59; clear F58
            refine s_val wkP F59 rfl rfl rfl rfl (y_pickT F59 rfl rfl rfl) ?_; intro a60 F60; clear F59
            refine s_val wkP F60 rfl rfl rfl rfl (y_move F60 rfl rfl) ?_; intro a61 F61; clear F60
            refine g_onP F61 rfl rfl rfl rfl ?_
            refine s_val wkP F61 rfl rfl rfl rfl (y_move F61 rfl rfl) ?_; intro a62 F62; clear F61
            refine g_onP F62 rfl rfl rfl rfl ?_
            refine s_call wkP F62 rfl rfl rfl rfl (y_call F62 rfl rfl ent14) (psplit l (by first | omega | decide | (simp; omega)) _) ?_; intro r63 w64 a64 hR64 F64; clear F62
            have H64 : St w w64 [HP.own 9 1 r63 ((pns l).length) (rows txC (pns l)), HP.own 9 1 so ((anc l k).length) (rows txC (anc l k)), HP.own 9 1 (.slice p20 ((pns l).length) cap20) ((pns l).length) (rows txC (pns l))] := H46.call hR64
            have hplr63 := pns_len l
            refine g_onP F64 rfl rfl rfl rfl ?_
            refine s_val wkP F64 rfl rfl rfl rfl (y_move F64 rfl rfl) ?_; intro a65 F65; clear F64
            refine g_onP F65 rfl rfl rfl rfl ?_
            obtain ⟨p66, cap66, rfl, hcap66, hp66⟩ := H64.ownForm 0 rfl
            refine s_callV wkP F65 rfl rfl rfl rfl (y_call F65 rfl rfl ent13) (rsame (pns l) (pns l) (by first | omega | decide | (simp [anc]; omega)) (by first | omega | decide | (simp [anc]; omega)) p66 p20 cap66 cap20 _ (fun h => by obtain ⟨b, e⟩ := hp66 h; exact ⟨b, 0, e, H64.ownRowP 0 rfl e⟩) (fun h => by obtain ⟨b, e⟩ := hp20 h; exact ⟨b, 0, e, H64.ownRowP 2 rfl e⟩)) ?_; intro w67 a67 hR67 F67; clear F65
            have H67 : St w w67 [HP.own 9 1 (.slice p66 ((pns l).length) cap66) ((pns l).length) (rows txC (pns l)), HP.own 9 1 so ((anc l k).length) (rows txC (anc l k)), HP.own 9 1 (.slice p20 ((pns l).length) cap20) ((pns l).length) (rows txC (pns l))] := H64.call hR67
            refine s_val wkP F67 rfl rfl rfl rfl (y_pickT F67 rfl rfl rfl) ?_; intro a68 F68; clear F67
            refine s_val wkP F68 rfl rfl rfl rfl (y_move F68 rfl rfl) ?_; intro a69 F69; clear F68
            refine g_split (k := 57) F69 rfl (fun hg57 F70 => ?_) (fun hg57 F70 => ?_)
            · clear F69
              refine g_onP F70 rfl rfl rfl rfl ?_
              refine s_val wkP F70 rfl rfl rfl rfl (y_move F70 rfl rfl) ?_; intro a71 F71; clear F70
              refine g_onP F71 rfl rfl rfl rfl ?_
              refine s_callV wkP F71 rfl rfl rfl rfl (y_call F71 rfl rfl ent15) (parent l (by first | omega | decide | (simp; omega)) _) ?_; intro w72 a72 hR72 F72; clear F71
              have H72 : St w w72 [HP.own 9 1 (.slice p66 ((pns l).length) cap66) ((pns l).length) (rows txC (pns l)), HP.own 9 1 so ((anc l k).length) (rows txC (anc l k)), HP.own 9 1 (.slice p20 ((pns l).length) cap20) ((pns l).length) (rows txC (pns l))] := H67.call hR72
              refine g_onP F72 rfl rfl rfl rfl ?_
              refine s_val wkP F72 rfl rfl rfl rfl (y_move F72 rfl rfl) ?_; intro a73 F73; clear F72
              refine g_onP F73 rfl rfl rfl rfl ?_
              refine s_callV wkP F73 rfl rfl rfl rfl (y_call F73 rfl rfl ent16) (rparent l (by first | omega | decide | (simp; omega)) _) ?_; intro w74 a74 hR74 F74; clear F73
              have H74 : St w w74 [HP.own 9 1 (.slice p66 ((pns l).length) cap66) ((pns l).length) (rows txC (pns l)), HP.own 9 1 so ((anc l k).length) (rows txC (anc l k)), HP.own 9 1 (.slice p20 ((pns l).length) cap20) ((pns l).length) (rows txC (pns l))] := H72.call hR74
              refine g_onP F74 rfl rfl rfl rfl ?_
              refine s_val wkP F74 rfl rfl rfl rfl (y_eqT (l := (parP l)) (m := (parP l)) F74 rfl rfl rfl) ?_; intro a75 F75; clear F74
              refine s_val wkP F75 rfl rfl rfl rfl (y_pickT F75 rfl rfl rfl) ?_; intro a76 F76; clear F75
              refine s_val wkP F76 rfl rfl rfl rfl (y_move F76 rfl rfl) ?_; intro a77 F77; clear F76
              refine g_split (k := 64) F77 rfl (fun hg64 F78 => ?_) (fun hg64 F78 => ?_)
              · clear F77
                refine g_onP F78 rfl rfl rfl rfl ?_
                refine s_val wkP F78 rfl rfl rfl rfl (y_move F78 rfl rfl) ?_; intro a79 F79; clear F78
                refine g_onP F79 rfl rfl rfl rfl ?_
                refine s_callV wkP F79 rfl rfl rfl rfl (y_call F79 rfl rfl ent17) (base l (by first | omega | decide | (simp; omega)) _) ?_; intro w80 a80 hR80 F80; clear F79
                have H80 : St w w80 [HP.own 9 1 (.slice p66 ((pns l).length) cap66) ((pns l).length) (rows txC (pns l)), HP.own 9 1 so ((anc l k).length) (rows txC (anc l k)), HP.own 9 1 (.slice p20 ((pns l).length) cap20) ((pns l).length) (rows txC (pns l))] := H74.call hR80
                refine g_onP F80 rfl rfl rfl rfl ?_
                refine s_val wkP F80 rfl rfl rfl rfl (y_move F80 rfl rfl) ?_; intro a81 F81; clear F80
                refine g_onP F81 rfl rfl rfl rfl ?_
                refine s_callV wkP F81 rfl rfl rfl rfl (y_call F81 rfl rfl ent18) (rbase l (by first | omega | decide | (simp; omega)) _) ?_; intro w82 a82 hR82 F82; clear F81
                have H82 : St w w82 [HP.own 9 1 (.slice p66 ((pns l).length) cap66) ((pns l).length) (rows txC (pns l)), HP.own 9 1 so ((anc l k).length) (rows txC (anc l k)), HP.own 9 1 (.slice p20 ((pns l).length) cap20) ((pns l).length) (rows txC (pns l))] := H80.call hR82
                refine g_onP F82 rfl rfl rfl rfl ?_
                refine s_val wkP F82 rfl rfl rfl rfl (y_eqT (l := (basP l)) (m := (basP l)) F82 rfl rfl rfl) ?_; intro a83 F83; clear F82
                refine s_val wkP F83 rfl rfl rfl rfl (y_pickT F83 rfl rfl rfl) ?_; intro a84 F84; clear F83
                refine s_val wkP F84 rfl rfl rfl rfl (y_move F84 rfl rfl) ?_; intro a85 F85; clear F84
                refine g_split (k := 71) F85 rfl (fun hg71 F86 => ?_) (fun hg71 F86 => ?_)
                · clear F85
                  refine g_onP F86 rfl rfl rfl rfl ?_
                  refine s_val wkP F86 rfl rfl rfl rfl (y_move F86 rfl rfl) ?_; intro a87 F87; clear F86
                  refine g_onP F87 rfl rfl rfl rfl ?_
                  refine s_call wkP F87 rfl rfl rfl rfl (y_call F87 rfl rfl ent19) (ancestors l (by first | omega | decide | (simp; omega)) _) ?_; intro r88 w89 a89 hR89 F89; clear F87
                  have H89 : St w w89 [HP.own 9 1 r88 ((anc l (pns l).length).length) (rows txC (anc l (pns l).length)), HP.own 9 1 (.slice p66 ((pns l).length) cap66) ((pns l).length) (rows txC (pns l)), HP.own 9 1 so ((anc l k).length) (rows txC (anc l k)), HP.own 9 1 (.slice p20 ((pns l).length) cap20) ((pns l).length) (rows txC (pns l))] := H82.call hR89
                  have hplr88 := pns_len l
                  refine g_onP F89 rfl rfl rfl rfl ?_
                  refine s_val wkP F89 rfl rfl rfl rfl (y_move F89 rfl rfl) ?_; intro a90 F90; clear F89
                  refine g_onP F90 rfl rfl rfl rfl ?_
                  obtain ⟨p91, cap91, rfl, hcap91, hp91⟩ := H89.ownForm 0 rfl
                  obtain ⟨p92, cap92, rfl, hcap92, hp92⟩ := H89.ownForm 2 rfl
                  refine s_callV wkP F90 rfl rfl rfl rfl (y_call F90 rfl rfl ent13) (rsame (anc l (pns l).length) (anc l k) (by first | omega | decide | (simp [anc]; omega)) (by first | omega | decide | (simp [anc]; omega)) p91 p92 cap91 cap92 _ (fun h => by obtain ⟨b, e⟩ := hp91 h; exact ⟨b, 0, e, H89.ownRowP 0 rfl e⟩) (fun h => by obtain ⟨b, e⟩ := hp92 h; exact ⟨b, 0, e, H89.ownRowP 2 rfl e⟩)) ?_; intro w93 a93 hR93 F93; clear F90
                  have H93 : St w w93 [HP.own 9 1 (.slice p91 ((anc l (pns l).length).length) cap91) ((anc l (pns l).length).length) (rows txC (anc l (pns l).length)), HP.own 9 1 (.slice p66 ((pns l).length) cap66) ((pns l).length) (rows txC (pns l)), HP.own 9 1 (.slice p92 ((anc l k).length) cap92) ((anc l k).length) (rows txC (anc l k)), HP.own 9 1 (.slice p20 ((pns l).length) cap20) ((pns l).length) (rows txC (pns l))] := H89.call hR93
                  refine s_val wkP F93 rfl rfl rfl rfl (y_pickT F93 rfl rfl rfl) ?_; intro a94 F94; clear F93
                  refine s_val wkP F94 rfl rfl rfl rfl (y_assign F94 rfl rfl) ?_; intro a95 F95; clear F94
                  refine wpList_nil ?_
                  refine c_then ?_
                  refine wp_ret ?_
                  refine x_ret1 F95 rfl rfl ?_
                  exact ⟨ret_bool (by simp [hkk]), H93.below⟩
                · clear F85
                  exact absurd rfl hg71
              · clear F77
                exact absurd rfl hg64
            · clear F69
              exact absurd rfl hg57
          · clear F54
            refine g_onP F55 rfl rfl rfl rfl ?_
            refine s_val wkP F55 rfl rfl rfl rfl (y_move F55 rfl rfl) ?_; intro a96 F96; clear F55
            refine g_onP F96 rfl rfl rfl rfl ?_
            refine s_callV wkP F96 rfl rfl rfl rfl (y_call F96 rfl rfl ent12) (check l (by first | omega | decide | (simp; omega)) _) ?_; intro w97 a97 hR97 F97; clear F96
            have H97 : St w w97 [HP.own 9 1 so ((anc l k).length) (rows txC (anc l k)), HP.own 9 1 (.slice p20 ((pns l).length) cap20) ((pns l).length) (rows txC (pns l))] := H46.call hR97
            refine g_onP F97 rfl rfl rfl rfl ?_
            refine s_val wkP F97 rfl rfl rfl rfl (y_eql F97 rfl rfl rfl) ?_; intro a98 F98; clear F97
            refine g_onP F98 rfl rfl rfl rfl ?_
            refine s_val wkP F98 rfl rfl rfl rfl (y_pickF F98 rfl rfl rfl) ?_; intro a99 F99; clear F98
            refine s_val wkP F99 rfl rfl rfl rfl (y_pickT F99 rfl rfl rfl) ?_; intro a100 F100; clear F99
            refine s_val wkP F100 rfl rfl rfl rfl (y_move F100 rfl rfl) ?_; intro a101 F101; clear F100
            refine g_split (k := 51) F101 rfl (fun hg51 F102 => ?_) (fun hg51 F102 => ?_)
            · clear F101
              refine g_onP F102 rfl rfl rfl rfl ?_
              refine s_val wkP F102 rfl rfl rfl rfl (y_move F102 rfl rfl) ?_; intro a103 F103; clear F102
              refine g_onP F103 rfl rfl rfl rfl ?_
              refine s_call wkP F103 rfl rfl rfl rfl (y_call F103 rfl rfl ent14) (psplit l (by first | omega | decide | (simp; omega)) _) ?_; intro r104 w105 a105 hR105 F105; clear F103
              have H105 : St w w105 [HP.own 9 1 r104 ((pns l).length) (rows txC (pns l)), HP.own 9 1 so ((anc l k).length) (rows txC (anc l k)), HP.own 9 1 (.slice p20 ((pns l).length) cap20) ((pns l).length) (rows txC (pns l))] := H97.call hR105
              have hplr104 := pns_len l
              refine g_onP F105 rfl rfl rfl rfl ?_
              refine s_val wkP F105 rfl rfl rfl rfl (y_move F105 rfl rfl) ?_; intro a106 F106; clear F105
              refine g_onP F106 rfl rfl rfl rfl ?_
              obtain ⟨p107, cap107, rfl, hcap107, hp107⟩ := H105.ownForm 0 rfl
              refine s_callV wkP F106 rfl rfl rfl rfl (y_call F106 rfl rfl ent13) (rsame (pns l) (pns l) (by first | omega | decide | (simp [anc]; omega)) (by first | omega | decide | (simp [anc]; omega)) p107 p20 cap107 cap20 _ (fun h => by obtain ⟨b, e⟩ := hp107 h; exact ⟨b, 0, e, H105.ownRowP 0 rfl e⟩) (fun h => by obtain ⟨b, e⟩ := hp20 h; exact ⟨b, 0, e, H105.ownRowP 2 rfl e⟩)) ?_; intro w108 a108 hR108 F108; clear F106
              have H108 : St w w108 [HP.own 9 1 (.slice p107 ((pns l).length) cap107) ((pns l).length) (rows txC (pns l)), HP.own 9 1 so ((anc l k).length) (rows txC (anc l k)), HP.own 9 1 (.slice p20 ((pns l).length) cap20) ((pns l).length) (rows txC (pns l))] := H105.call hR108
              refine s_val wkP F108 rfl rfl rfl rfl (y_pickT F108 rfl rfl rfl) ?_; intro a109 F109; clear F108
              refine s_val wkP F109 rfl rfl rfl rfl (y_move F109 rfl rfl) ?_; intro a110 F110; clear F109
              refine g_split (k := 57) F110 rfl (fun hg57 F111 => ?_) (fun hg57 F111 => ?_)
              · clear F110
                refine g_onP F111 rfl rfl rfl rfl ?_
                refine s_val wkP F111 rfl rfl rfl rfl (y_move F111 rfl rfl) ?_; intro a112 F112; clear F111
                refine g_onP F112 rfl rfl rfl rfl ?_
                refine s_callV wkP F112 rfl rfl rfl rfl (y_call F112 rfl rfl ent15) (parent l (by first | omega | decide | (simp; omega)) _) ?_; intro w113 a113 hR113 F113; clear F112
                have H113 : St w w113 [HP.own 9 1 (.slice p107 ((pns l).length) cap107) ((pns l).length) (rows txC (pns l)), HP.own 9 1 so ((anc l k).length) (rows txC (anc l k)), HP.own 9 1 (.slice p20 ((pns l).length) cap20) ((pns l).length) (rows txC (pns l))] := H108.call hR113
                refine g_onP F113 rfl rfl rfl rfl ?_
                refine s_val wkP F113 rfl rfl rfl rfl (y_move F113 rfl rfl) ?_; intro a114 F114; clear F113
                refine g_onP F114 rfl rfl rfl rfl ?_
                refine s_callV wkP F114 rfl rfl rfl rfl (y_call F114 rfl rfl ent16) (rparent l (by first | omega | decide | (simp; omega)) _) ?_; intro w115 a115 hR115 F115; clear F114
                have H115 : St w w115 [HP.own 9 1 (.slice p107 ((pns l).length) cap107) ((pns l).length) (rows txC (pns l)), HP.own 9 1 so ((anc l k).length) (rows txC (anc l k)), HP.own 9 1 (.slice p20 ((pns l).length) cap20) ((pns l).length) (rows txC (pns l))] := H113.call hR115
                refine g_onP F115 rfl rfl rfl rfl ?_
                refine s_val wkP F115 rfl rfl rfl rfl (y_eqT (l := (parP l)) (m := (parP l)) F115 rfl rfl rfl) ?_; intro a116 F116; clear F115
                refine s_val wkP F116 rfl rfl rfl rfl (y_pickT F116 rfl rfl rfl) ?_; intro a117 F117; clear F116
                refine s_val wkP F117 rfl rfl rfl rfl (y_move F117 rfl rfl) ?_; intro a118 F118; clear F117
                refine g_split (k := 64) F118 rfl (fun hg64 F119 => ?_) (fun hg64 F119 => ?_)
                · clear F118
                  refine g_onP F119 rfl rfl rfl rfl ?_
                  refine s_val wkP F119 rfl rfl rfl rfl (y_move F119 rfl rfl) ?_; intro a120 F120; clear F119
                  refine g_onP F120 rfl rfl rfl rfl ?_
                  refine s_callV wkP F120 rfl rfl rfl rfl (y_call F120 rfl rfl ent17) (base l (by first | omega | decide | (simp; omega)) _) ?_; intro w121 a121 hR121 F121; clear F120
                  have H121 : St w w121 [HP.own 9 1 (.slice p107 ((pns l).length) cap107) ((pns l).length) (rows txC (pns l)), HP.own 9 1 so ((anc l k).length) (rows txC (anc l k)), HP.own 9 1 (.slice p20 ((pns l).length) cap20) ((pns l).length) (rows txC (pns l))] := H115.call hR121
                  refine g_onP F121 rfl rfl rfl rfl ?_
                  refine s_val wkP F121 rfl rfl rfl rfl (y_move F121 rfl rfl) ?_; intro a122 F122; clear F121
                  refine g_onP F122 rfl rfl rfl rfl ?_
                  refine s_callV wkP F122 rfl rfl rfl rfl (y_call F122 rfl rfl ent18) (rbase l (by first | omega | decide | (simp; omega)) _) ?_; intro w123 a123 hR123 F123; clear F122
                  have H123 : St w w123 [HP.own 9 1 (.slice p107 ((pns l).length) cap107) ((pns l).length) (rows txC (pns l)), HP.own 9 1 so ((anc l k).length) (rows txC (anc l k)), HP.own 9 1 (.slice p20 ((pns l).length) cap20) ((pns l).length) (rows txC (pns l))] := H121.call hR123
                  refine g_onP F123 rfl rfl rfl rfl ?_
                  refine s_val wkP F123 rfl rfl rfl rfl (y_eqT (l := (basP l)) (m := (basP l)) F123 rfl rfl rfl) ?_; intro a124 F124; clear F123
                  refine s_val wkP F124 rfl rfl rfl rfl (y_pickT F124 rfl rfl rfl) ?_; intro a125 F125; clear F124
                  refine s_val wkP F125 rfl rfl rfl rfl (y_move F125 rfl rfl) ?_; intro a126 F126; clear F125
                  refine g_split (k := 71) F126 rfl (fun hg71 F127 => ?_) (fun hg71 F127 => ?_)
                  · clear F126
                    refine g_onP F127 rfl rfl rfl rfl ?_
                    refine s_val wkP F127 rfl rfl rfl rfl (y_move F127 rfl rfl) ?_; intro a128 F128; clear F127
                    refine g_onP F128 rfl rfl rfl rfl ?_
                    refine s_call wkP F128 rfl rfl rfl rfl (y_call F128 rfl rfl ent19) (ancestors l (by first | omega | decide | (simp; omega)) _) ?_; intro r129 w130 a130 hR130 F130; clear F128
                    have H130 : St w w130 [HP.own 9 1 r129 ((anc l (pns l).length).length) (rows txC (anc l (pns l).length)), HP.own 9 1 (.slice p107 ((pns l).length) cap107) ((pns l).length) (rows txC (pns l)), HP.own 9 1 so ((anc l k).length) (rows txC (anc l k)), HP.own 9 1 (.slice p20 ((pns l).length) cap20) ((pns l).length) (rows txC (pns l))] := H123.call hR130
                    have hplr129 := pns_len l
                    refine g_onP F130 rfl rfl rfl rfl ?_
                    refine s_val wkP F130 rfl rfl rfl rfl (y_move F130 rfl rfl) ?_; intro a131 F131; clear F130
                    refine g_onP F131 rfl rfl rfl rfl ?_
                    obtain ⟨p132, cap132, rfl, hcap132, hp132⟩ := H130.ownForm 0 rfl
                    obtain ⟨p133, cap133, rfl, hcap133, hp133⟩ := H130.ownForm 2 rfl
                    refine s_callV wkP F131 rfl rfl rfl rfl (y_call F131 rfl rfl ent13) (rsame (anc l (pns l).length) (anc l k) (by first | omega | decide | (simp [anc]; omega)) (by first | omega | decide | (simp [anc]; omega)) p132 p133 cap132 cap133 _ (fun h => by obtain ⟨b, e⟩ := hp132 h; exact ⟨b, 0, e, H130.ownRowP 0 rfl e⟩) (fun h => by obtain ⟨b, e⟩ := hp133 h; exact ⟨b, 0, e, H130.ownRowP 2 rfl e⟩)) ?_; intro w134 a134 hR134 F134; clear F131
                    have H134 : St w w134 [HP.own 9 1 (.slice p132 ((anc l (pns l).length).length) cap132) ((anc l (pns l).length).length) (rows txC (anc l (pns l).length)), HP.own 9 1 (.slice p107 ((pns l).length) cap107) ((pns l).length) (rows txC (pns l)), HP.own 9 1 (.slice p133 ((anc l k).length) cap133) ((anc l k).length) (rows txC (anc l k)), HP.own 9 1 (.slice p20 ((pns l).length) cap20) ((pns l).length) (rows txC (pns l))] := H130.call hR134
                    refine s_val wkP F134 rfl rfl rfl rfl (y_pickT F134 rfl rfl rfl) ?_; intro a135 F135; clear F134
                    refine s_val wkP F135 rfl rfl rfl rfl (y_assign F135 rfl rfl) ?_; intro a136 F136; clear F135
                    refine wpList_nil ?_
                    refine c_then ?_
                    refine wp_ret ?_
                    refine x_ret1 F136 rfl rfl ?_
                    exact ⟨ret_bool (by simp [hkk]), H134.below⟩
                  · clear F126
                    exact absurd rfl hg71
                · clear F118
                  exact absurd rfl hg64
              · clear F110
                exact absurd rfl hg57
            · clear F101
              exact absurd (by simp [hg45]) hg51
        · clear F51
          exact absurd (by cases okP l <;> simp) hg43
      · clear F43
        exact absurd rfl hg36

end Go.Proofs.YtodggokkklfopaaDoor
