/- PathUp. -/
import Derived.Test.YtodggokkklfopaaDoorPatG
set_option linter.unusedSimpArgs false
set_option linter.unusedVariables false
namespace Go.Proofs.YtodggokkklfopaaDoor
open Go.ChangeShapes Go.WideShapes Go.ChangeAt Go.RowKit Go.Tri
set_option maxRecDepth 100000 in
set_option maxHeartbeats 2000000 in
theorem lawUp (l : List UInt8) (w : World) :
    Calls Tryd.prog 5 [.string (txb l)].toArray w (fun e w' => e = .returned (.bool true) ∧ Below w.heap.size w w') := by
  refine x_enter Tryd.func5 rfl rfl rfl ?_
  intro a0 F0
  replace F0 : Fr ⟨83, []⟩ a0 [(0, .string (txb l))] := F0
  have H0 := St.nil w
  refine wp_seq ?_
  refine r_lit ?_
  refine s_val wkP F0 rfl rfl rfl rfl (y_assign F0 rfl rfl) ?_; intro a1 F1; clear F0
  refine wpList_nil ?_
  refine c_then ?_
  refine wp_seq ?_
  refine wp_seq ?_
  refine r_lit ?_
  refine s_callV wkP F1 rfl rfl rfl rfl (y_call F1 rfl rfl ent7) (speaks _) ?_; intro w2 a2 hR2 F2; clear F1
  have H2 : St w w2 [] := H0.call hR2
  refine s_val wkP F2 rfl rfl rfl rfl (y_not F2 rfl rfl) ?_; intro a3 F3; clear F2
  refine wpList_nil ?_
  refine c_then ?_
  refine x_condF F3 rfl ?_
  refine wp_skip ?_
  refine c_then ?_
  refine wp_seq ?_
  refine wp_seq ?_
  refine r_lit ?_
  refine s_val wkP F3 rfl rfl rfl rfl (y_move F3 rfl rfl) ?_; intro a5 F5; clear F3
  refine s_val wkP F5 rfl rfl rfl rfl (y_lenT (l := l) F5 rfl Tryd.underlying9 rfl) ?_; intro a6 F6; clear F5
  refine s_val wkP F6 rfl rfl rfl rfl (y_gtr F6 rfl rfl rfl) ?_; intro a7 F7; clear F6
  refine s_val wkP F7 rfl rfl rfl rfl (y_move F7 rfl rfl) ?_; intro a8 F8; clear F7
  refine g_split (k := 14) F8 rfl (fun hl F9 => ?_) (fun hl F9 => ?_)
  · clear F8
    refine g_off wkP F9 rfl rfl rfl rfl rfl rfl rfl ?_; intro a10 F10; clear F9
    refine g_off wkP F10 rfl rfl rfl rfl rfl rfl rfl ?_; intro a11 F11; clear F10
    refine g_off wkP F11 rfl rfl rfl rfl rfl rfl rfl ?_; intro a12 F12; clear F11
    refine s_val wkP F12 rfl rfl rfl rfl (y_pickT F12 rfl rfl rfl) ?_; intro a13 F13; clear F12
    refine s_val wkP F13 rfl rfl rfl rfl (y_move F13 rfl rfl) ?_; intro a14 F14; clear F13
    refine g_off wkP F14 rfl rfl rfl rfl rfl rfl rfl ?_; intro a15 F15; clear F14
    refine g_off wkP F15 rfl rfl rfl rfl rfl rfl rfl ?_; intro a16 F16; clear F15
    refine s_val wkP F16 rfl rfl rfl rfl (y_pickT F16 rfl rfl rfl) ?_; intro a17 F17; clear F16
    refine wpList_nil ?_
    refine c_then ?_
    refine x_condT F17 rfl ?_
    refine wp_seq ?_
    refine r_lit ?_
    refine s_val wkP F17 rfl rfl rfl rfl (y_assign F17 rfl rfl) ?_; intro a19 F19; clear F17
    refine wpList_nil ?_
    refine c_then ?_
    refine wp_ret ?_
    refine c_thenR ?_
    refine x_ret1 F19 rfl rfl ?_
    exact ⟨rfl, H2.below⟩
  · clear F8
    refine g_onP F9 rfl rfl rfl rfl ?_
    refine s_val wkP F9 rfl rfl rfl rfl (y_move F9 rfl rfl) ?_; intro a20 F20; clear F9
    refine g_onP F20 rfl rfl rfl rfl ?_
    refine s_callV wkP F20 rfl rfl rfl rfl (y_call F20 rfl rfl ent12) (check l (by first | omega | decide | (simp; omega)) _) ?_; intro w21 a21 hR21 F21; clear F20
    have H21 : St w w21 [] := H2.call hR21
    refine g_onP F21 rfl rfl rfl rfl ?_
    refine s_val wkP F21 rfl rfl rfl rfl (y_neq F21 rfl rfl rfl) ?_; intro a22 F22; clear F21
    refine s_val wkP F22 rfl rfl rfl rfl (y_pickF F22 rfl rfl rfl) ?_; intro a23 F23; clear F22
    refine s_val wkP F23 rfl rfl rfl rfl (y_move F23 rfl rfl) ?_; intro a24 F24; clear F23
    refine g_splitN (k := 19) F24 rfl (fun hok0 F25 => ?_) (fun hok0 F25 => ?_)
    · clear F24
      refine g_off wkP F25 rfl rfl rfl rfl rfl rfl rfl ?_; intro a26 F26; clear F25
      refine g_off wkP F26 rfl rfl rfl rfl rfl rfl rfl ?_; intro a27 F27; clear F26
      refine s_val wkP F27 rfl rfl rfl rfl (y_pickT F27 rfl rfl rfl) ?_; intro a28 F28; clear F27
      refine wpList_nil ?_
      refine c_then ?_
      refine x_condT F28 rfl ?_
      refine wp_seq ?_
      refine r_lit ?_
      refine s_val wkP F28 rfl rfl rfl rfl (y_assign F28 rfl rfl) ?_; intro a30 F30; clear F28
      refine wpList_nil ?_
      refine c_then ?_
      refine wp_ret ?_
      refine c_thenR ?_
      refine x_ret1 F30 rfl rfl ?_
      exact ⟨rfl, H21.below⟩
    · clear F24
      refine g_onP F25 rfl rfl rfl rfl ?_
      refine s_val wkP F25 rfl rfl rfl rfl (y_move F25 rfl rfl) ?_; intro a31 F31; clear F25
      refine g_onP F31 rfl rfl rfl rfl ?_
      refine s_val wkP F31 rfl rfl rfl rfl (y_eqT (l := l) (m := [47]) F31 rfl rfl rfl) ?_; intro a32 F32; clear F31
      refine s_val wkP F32 rfl rfl rfl rfl (y_pickF F32 rfl rfl rfl) ?_; intro a33 F33; clear F32
      refine wpList_nil ?_
      refine c_then ?_
      refine x_condP F33 rfl (fun hroot => ?_) (fun hroot => ?_)
      · skip
        refine wp_seq ?_
        refine r_lit ?_
        refine s_val wkP F33 rfl rfl rfl rfl (y_assign F33 rfl rfl) ?_; intro a35 F35; clear F33
        refine wpList_nil ?_
        refine c_then ?_
        refine wp_ret ?_
        refine c_thenR ?_
        refine x_ret1 F35 rfl rfl ?_
        exact ⟨rfl, H21.below⟩
      · skip
        refine wp_skip ?_
        refine c_then ?_
        refine wp_seq ?_
        have hok : okP l = true := by cases e : okP l with | true => rfl | false => simp [e] at hok0
        refine r_lit ?_
        refine s_val wkP F33 rfl rfl rfl rfl (y_move F33 rfl rfl) ?_; intro a36 F36; clear F33
        refine s_callV wkP F36 rfl rfl rfl rfl (y_call F36 rfl rfl ent15) (parent l (by first | omega | decide | (simp; omega)) _) ?_; intro w37 a37 hR37 F37; clear F36
        have H37 : St w w37 [] := H21.call hR37
        refine s_val wkP F37 rfl rfl rfl rfl (y_move F37 rfl rfl) ?_; intro a38 F38; clear F37
        refine s_callV wkP F38 rfl rfl rfl rfl (y_call F38 rfl rfl ent17) (base l (by first | omega | decide | (simp; omega)) _) ?_; intro w39 a39 hR39 F39; clear F38
        have H39 : St w w39 [] := H37.call hR39
        refine s_val wkP F39 rfl rfl rfl rfl (y_assign F39 rfl rfl) ?_; intro a40 F40; clear F39
        refine s_val wkP F40 rfl rfl rfl rfl (y_assign F40 rfl rfl) ?_; intro a41 F41; clear F40
        refine wpList_nil ?_
        refine c_then ?_
        refine wp_seq ?_
        have hpl6 := par_len hok
        have hbl6 := bas_len hok hroot
        refine r_lit ?_
        refine s_val wkP F41 rfl rfl rfl rfl (y_move F41 rfl rfl) ?_; intro a42 F42; clear F41
        refine s_val wkP F42 rfl rfl rfl rfl (y_addT (l := (parP l)) (m := [47]) F42 rfl rfl rfl (by first | omega | (simp; omega))) ?_; intro a43 F43; clear F42
        refine s_val wkP F43 rfl rfl rfl rfl (y_move F43 rfl rfl) ?_; intro a44 F44; clear F43
        refine s_val wkP F44 rfl rfl rfl rfl (y_addT (l := ((parP l) ++ [47])) (m := (basP l)) F44 rfl rfl rfl (by first | omega | (simp; omega))) ?_; intro a45 F45; clear F44
        refine s_val wkP F45 rfl rfl rfl rfl (y_assign F45 rfl rfl) ?_; intro a46 F46; clear F45
        refine wpList_nil ?_
        refine c_then ?_
        refine wp_seq ?_
        refine wp_seq ?_
        refine r_lit ?_
        refine s_val wkP F46 rfl rfl rfl rfl (y_move F46 rfl rfl) ?_; intro a47 F47; clear F46
        refine s_val wkP F47 rfl rfl rfl rfl (y_eqT (l := (parP l)) (m := [47]) F47 rfl rfl rfl) ?_; intro a48 F48; clear F47
        refine wpList_nil ?_
        refine c_then ?_
        refine x_condP F48 rfl (fun hpar => ?_) (fun hpar => ?_)
        · skip
          have hagain := again_root hok hroot hpar
          refine r_lit ?_
          refine s_val wkP F48 rfl rfl rfl rfl (y_move F48 rfl rfl) ?_; intro a50 F50; clear F48
          refine s_val wkP F50 rfl rfl rfl rfl (y_addT (l := [47]) (m := (basP l)) F50 rfl rfl rfl (by first | omega | (simp; omega))) ?_; intro a51 F51; clear F50
          refine s_val wkP F51 rfl rfl rfl rfl (y_assign F51 rfl rfl) ?_; intro a52 F52; clear F51
          refine wpList_nil ?_
          refine c_then ?_
          refine wp_seq ?_
          refine r_lit ?_
          refine s_val wkP F52 rfl rfl rfl rfl (y_move F52 rfl rfl) ?_; intro a53 F53; clear F52
          refine s_call wkP F53 rfl rfl rfl rfl (y_call F53 rfl rfl ent19) (ancestors l (by first | omega | decide | (simp; omega)) _) ?_; intro r54 w55 a55 hR55 F55; clear F53
          have H55 : St w w55 [HP.own 9 1 r54 ((anc l (pns l).length).length) (rows txC (anc l (pns l).length))] := H39.call hR55
          have hplr54 := pns_len l
          refine s_val wkP F55 rfl rfl rfl rfl (y_assign F55 rfl rfl) ?_; intro a56 F56; clear F55
          refine wpList_nil ?_
          refine c_then ?_
          refine wp_seq ?_
          refine wp_seq ?_
          have hanl : (anc l (pns l).length).length = (pns l).length := by simp [anc]
          refine r_lit ?_
          refine s_val wkP F56 rfl rfl rfl rfl (y_move F56 rfl rfl) ?_; intro a57 F57; clear F56
          obtain ⟨p58, cap58, rfl, hcap58, hp58⟩ := H55.ownForm 0 rfl
          refine s_val wkP F57 rfl rfl rfl rfl (y_lenS F57 rfl Tryd.underlying23 rfl) ?_; intro a59 F59; clear F57
          refine s_val wkP F59 rfl rfl rfl rfl (y_move F59 rfl rfl) ?_; intro a60 F60; clear F59
          refine wpList_nil ?_
          refine c_then ?_
          refine wp_block ?_
          refine x_loop (G := Nat) (fun k aa ww => Fr ⟨83, []⟩ aa [(0, .string (txb (l))), (3, .string (txb ((parP l)))), (4, .string (txb ((basP l)))), (5, .string (txb (([47] ++ (basP l))))), (6, .slice p58 ((anc l (pns l).length).length) cap58), (37, .slice p58 ((anc l (pns l).length).length) cap58), (38, .int .i64 (((((anc l (pns l).length).length) : Nat) : Int))), (39, .int .i64 (((k : Nat) : Int)))] ∧ St w ww [HP.own 9 1 (.slice p58 ((anc l (pns l).length).length) cap58) ((anc l (pns l).length).length) (rows txC (anc l (pns l).length))] ∧ (k ≤ (pns l).length)) (fun k => (pns l).length - k) 0 ⟨F60.cut _ ⟨rfl, rfl, rfl, rfl, rfl, rfl, rfl, rfl, trivial⟩, H55, Nat.zero_le _⟩ ?_
          clear F60
          rintro k a61 w61 ⟨F61, H61, hk⟩
          refine wp_seq ?_
          refine r_lit ?_
          refine s_val wkP F61 rfl rfl rfl rfl (y_lss F61 rfl rfl rfl) ?_; intro a62 F62; clear F61
          refine wpList_nil ?_
          refine c_then ?_
          refine wp_seq ?_
          refine x_condP F62 rfl (fun hlt => ?_) (fun hlt => ?_)
          · skip
            refine wp_skip ?_
            refine c_then ?_
            refine wp_seq ?_
            refine wp_block ?_
            refine wp_seq ?_
            refine r_lit ?_
            obtain ⟨bb64, hpe64⟩ := hp58 (by omega)
            obtain ⟨a, ma⟩ : ∃ x, ((anc l (pns l).length))[k]? = some x := ⟨_, List.getElem?_eq_getElem (by first | omega | (simp only [List.length_set]; omega))⟩
            refine s_val wkP F62 rfl rfl rfl rfl (y_indexP F62 elemStr rfl rfl rfl hpe64 (by omega)) ?_; intro a66 F66; clear F62
            refine s_val wkP F66 rfl rfl rfl rfl (y_load1 F66 plStr rfl rfl (Row.elem txC_len (H61.ownRowP 0 rfl hpe64) (fun _ _ => trivial) ma 0 _ rfl)) ?_; intro a67 F67; clear F66
            refine s_val wkP F67 rfl rfl rfl rfl (y_assign F67 rfl rfl) ?_; intro a68 F68; clear F67
            refine wpList_nil ?_
            refine c_then ?_
            refine wp_seq ?_
            obtain ⟨ha1, hlt2⟩ := anc_get ma
            have hal := ok_len (up_ok hok k).1
            rw [← ha1] at hal
            refine r_lit ?_
            refine s_val wkP F68 rfl rfl rfl rfl (y_move F68 rfl rfl) ?_; intro a69 F69; clear F68
            refine s_val wkP F69 rfl rfl rfl rfl (y_move F69 rfl rfl) ?_; intro a70 F70; clear F69
            refine s_callV wkP F70 rfl rfl rfl rfl (y_call F70 rfl rfl ent20) (within a l (by first | omega | decide | (simp; omega)) (by first | omega | decide | (simp; omega)) _) ?_; intro w71 a71 hR71 F71; clear F70
            have H71 : St w w71 [HP.own 9 1 (.slice p58 ((anc l (pns l).length).length) cap58) ((anc l (pns l).length).length) (rows txC (anc l (pns l).length))] := H61.call hR71
            refine s_val wkP F71 rfl rfl rfl rfl (y_not F71 rfl rfl) ?_; intro a72 F72; clear F71
            refine s_val wkP F72 rfl rfl rfl rfl (y_move F72 rfl rfl) ?_; intro a73 F73; clear F72
            refine g_splitB (k := 47) F73 rfl (fun hg47 F74 => ?_) (fun hg47 F74 => ?_)
            · clear F73
              exact absurd (wth_up hok hlt2).1 (by simpa [ha1] using hg47)
            · clear F73
              refine g_onP F74 rfl rfl rfl rfl ?_
              refine s_val wkP F74 rfl rfl rfl rfl (y_move F74 rfl rfl) ?_; intro a75 F75; clear F74
              refine g_onP F75 rfl rfl rfl rfl ?_
              refine s_val wkP F75 rfl rfl rfl rfl (y_move F75 rfl rfl) ?_; intro a76 F76; clear F75
              refine g_onP F76 rfl rfl rfl rfl ?_
              refine s_callV wkP F76 rfl rfl rfl rfl (y_call F76 rfl rfl ent20) (within l a (by first | omega | decide | (simp; omega)) (by first | omega | decide | (simp; omega)) _) ?_; intro w77 a77 hR77 F77; clear F76
              have H77 : St w w77 [HP.own 9 1 (.slice p58 ((anc l (pns l).length).length) cap58) ((anc l (pns l).length).length) (rows txC (anc l (pns l).length))] := H71.call hR77
              refine s_val wkP F77 rfl rfl rfl rfl (y_pickF F77 rfl rfl rfl) ?_; intro a78 F78; clear F77
              refine wpList_nil ?_
              refine c_then ?_
              refine x_cond F78 rfl (fun hc51 => ?_) (fun hc51 => ?_)
              · skip
                exact absurd (wth_up hok hlt2).2 (by simp [← ha1, hc51])
              · skip
                refine wp_skip ?_
                refine c_blkN ?_
                refine c_then ?_
                refine r_lit ?_
                refine s_val wkP F78 rfl rfl rfl rfl (y_add F78 rfl rfl rfl (r := (((k : Nat) : Int)) + (1)) (wrap_i64 (by omega) (by omega) (by omega))) ?_; intro a80 F80; clear F78
                refine s_val wkP F80 rfl rfl rfl rfl (y_move F80 rfl rfl) ?_; intro a81 F81; clear F80
                refine wpList_nil ?_
                refine c_then ?_
                exact ⟨k + 1, ⟨F81.cut _ ⟨rfl, rfl, rfl, rfl, rfl, rfl, rfl, rfl, trivial⟩, H77, by omega⟩, by first | omega | (dsimp only; omega)⟩
          · skip
            refine wp_exit ?_
            refine c_thenX ?_
            refine c_thenX ?_
            refine c_hit ?_
            refine c_then ?_
            refine wp_seq ?_
            have hne := pns_ne hok hroot
            have hpos0 : 0 < (pns l).length := List.length_pos_iff.2 hne
            have hpos : (0 : Int) < (((anc l (pns l).length).length : Nat) : Int) := by omega
            refine r_lit ?_
            refine s_val wkP F62 rfl rfl rfl rfl (y_move F62 rfl rfl) ?_; intro a82 F82; clear F62
            refine s_val wkP F82 rfl rfl rfl rfl (y_move F82 rfl rfl) ?_; intro a83 F83; clear F82
            refine s_val wkP F83 rfl rfl rfl rfl (y_eqT (l := ([47] ++ (basP l))) (m := l) F83 rfl rfl rfl) ?_; intro a84 F84; clear F83
            refine s_val wkP F84 rfl rfl rfl rfl (y_move F84 rfl rfl) ?_; intro a85 F85; clear F84
            refine g_split (k := 56) F85 rfl (fun hg56 F86 => ?_) (fun hg56 F86 => ?_)
            · clear F85
              refine g_onP F86 rfl rfl rfl rfl ?_
              refine s_val wkP F86 rfl rfl rfl rfl (y_move F86 rfl rfl) ?_; intro a87 F87; clear F86
              refine g_onP F87 rfl rfl rfl rfl ?_
              refine s_callV wkP F87 rfl rfl rfl rfl (y_call F87 rfl rfl ent10) (name (basP l) (by first | omega | decide | (simp; omega)) _) ?_; intro w88 a88 hR88 F88; clear F87
              have H88 : St w w88 [HP.own 9 1 (.slice p58 ((anc l (pns l).length).length) cap58) ((anc l (pns l).length).length) (rows txC (anc l (pns l).length))] := H61.call hR88
              refine s_val wkP F88 rfl rfl rfl rfl (y_pickT F88 rfl rfl rfl) ?_; intro a89 F89; clear F88
              refine s_val wkP F89 rfl rfl rfl rfl (y_move F89 rfl rfl) ?_; intro a90 F90; clear F89
              refine g_splitB (k := 60) F90 rfl (fun hg60 F91 => ?_) (fun hg60 F91 => ?_)
              · clear F90
                refine g_onP F91 rfl rfl rfl rfl ?_
                refine s_val wkP F91 rfl rfl rfl rfl (y_move F91 rfl rfl) ?_; intro a92 F92; clear F91
                refine g_onP F92 rfl rfl rfl rfl ?_
                refine s_val wkP F92 rfl rfl rfl rfl (y_lenS F92 rfl Tryd.underlying23 rfl) ?_; intro a93 F93; clear F92
                refine g_onP F93 rfl rfl rfl rfl ?_
                refine s_val wkP F93 rfl rfl rfl rfl (y_gtr F93 rfl rfl rfl) ?_; intro a94 F94; clear F93
                refine s_val wkP F94 rfl rfl rfl rfl (y_pickT F94 rfl rfl rfl) ?_; intro a95 F95; clear F94
                refine s_val wkP F95 rfl rfl rfl rfl (y_move F95 rfl rfl) ?_; intro a96 F96; clear F95
                refine g_split (k := 65) F96 rfl (fun hg65 F97 => ?_) (fun hg65 F97 => ?_)
                · clear F96
                  refine g_onP F97 rfl rfl rfl rfl ?_
                  refine s_val wkP F97 rfl rfl rfl rfl (y_move F97 rfl rfl) ?_; intro a98 F98; clear F97
                  refine g_onP F98 rfl rfl rfl rfl ?_
                  refine s_val wkP F98 rfl rfl rfl rfl (y_move F98 rfl rfl) ?_; intro a99 F99; clear F98
                  refine g_onP F99 rfl rfl rfl rfl ?_
                  refine s_val wkP F99 rfl rfl rfl rfl (y_lenS F99 rfl Tryd.underlying23 rfl) ?_; intro a100 F100; clear F99
                  refine g_onP F100 rfl rfl rfl rfl ?_
                  refine s_val wkP F100 rfl rfl rfl rfl (y_sub F100 rfl rfl rfl (r := (((anc l (pns l).length).length - 1 : Nat) : Int)) (wrap_i64 (by omega) (by omega) (by omega))) ?_; intro a101 F101; clear F100
                  refine g_onP F101 rfl rfl rfl rfl ?_
                  obtain ⟨bb102, hpe102⟩ := hp58 (by omega)
                  obtain ⟨z, mz⟩ : ∃ x, ((anc l (pns l).length))[(anc l (pns l).length).length - 1]? = some x := ⟨_, List.getElem?_eq_getElem (by first | omega | (simp only [List.length_set]; omega))⟩
                  refine s_val wkP F101 rfl rfl rfl rfl (y_indexP F101 elemStr rfl rfl rfl hpe102 (by omega)) ?_; intro a104 F104; clear F101
                  refine g_onP F104 rfl rfl rfl rfl ?_
                  have hlast : z = parP l := by rw [(anc_get mz).1, parP_some hne, hanl]
                  refine s_val wkP F104 rfl rfl rfl rfl (y_load1 F104 plStr rfl rfl (Row.elem txC_len (H88.ownRowP 0 rfl hpe102) (fun _ _ => trivial) mz 0 _ rfl)) ?_; intro a105 F105; clear F104
                  refine g_onP F105 rfl rfl rfl rfl ?_
                  refine s_val wkP F105 rfl rfl rfl rfl (y_move F105 rfl rfl) ?_; intro a106 F106; clear F105
                  refine g_onP F106 rfl rfl rfl rfl ?_
                  refine s_val wkP F106 rfl rfl rfl rfl (y_eqT (l := z) (m := (parP l)) F106 rfl rfl rfl) ?_; intro a107 F107; clear F106
                  refine s_val wkP F107 rfl rfl rfl rfl (y_pickT F107 rfl rfl rfl) ?_; intro a108 F108; clear F107
                  refine s_val wkP F108 rfl rfl rfl rfl (y_move F108 rfl rfl) ?_; intro a109 F109; clear F108
                  refine g_split (k := 75) F109 rfl (fun hg75 F110 => ?_) (fun hg75 F110 => ?_)
                  · clear F109
                    refine g_onP F110 rfl rfl rfl rfl ?_
                    refine s_val wkP F110 rfl rfl rfl rfl (y_move F110 rfl rfl) ?_; intro a111 F111; clear F110
                    refine g_onP F111 rfl rfl rfl rfl ?_
                    refine s_call wkP F111 rfl rfl rfl rfl (y_call F111 rfl rfl ent14) (psplit l (by first | omega | decide | (simp; omega)) _) ?_; intro r112 w113 a113 hR113 F113; clear F111
                    have H113 : St w w113 [HP.own 9 1 r112 ((pns l).length) (rows txC (pns l)), HP.own 9 1 (.slice p58 ((anc l (pns l).length).length) cap58) ((anc l (pns l).length).length) (rows txC (anc l (pns l).length))] := H88.call hR113
                    have hplr112 := pns_len l
                    refine g_onP F113 rfl rfl rfl rfl ?_
                    obtain ⟨p114, cap114, rfl, hcap114, hp114⟩ := H113.ownForm 0 rfl
                    refine s_val wkP F113 rfl rfl rfl rfl (y_lenS F113 rfl Tryd.underlying23 rfl) ?_; intro a115 F115; clear F113
                    refine g_onP F115 rfl rfl rfl rfl ?_
                    refine s_val wkP F115 rfl rfl rfl rfl (y_move F115 rfl rfl) ?_; intro a116 F116; clear F115
                    refine g_onP F116 rfl rfl rfl rfl ?_
                    refine s_val wkP F116 rfl rfl rfl rfl (y_lenS F116 rfl Tryd.underlying23 rfl) ?_; intro a117 F117; clear F116
                    refine g_onP F117 rfl rfl rfl rfl ?_
                    refine s_val wkP F117 rfl rfl rfl rfl (y_eql F117 rfl rfl rfl) ?_; intro a118 F118; clear F117
                    refine s_val wkP F118 rfl rfl rfl rfl (y_pickT F118 rfl rfl rfl) ?_; intro a119 F119; clear F118
                    refine s_val wkP F119 rfl rfl rfl rfl (y_assign F119 rfl rfl) ?_; intro a120 F120; clear F119
                    refine wpList_nil ?_
                    refine c_then ?_
                    refine wp_ret ?_
                    refine x_ret1 F120 rfl rfl ?_
                    exact ⟨ret_bool (by simp [anc]), H113.below⟩
                  · clear F109
                    exact absurd hlast hg75
                · clear F96
                  exact absurd hpos hg65
              · clear F90
                exact absurd (bas_name hok hroot) (by simp [hg60])
            · clear F85
              exact absurd hagain hg56
        · skip
          have hagain := again_deep hok hroot hpar
          refine wp_skip ?_
          refine c_then ?_
          refine wp_seq ?_
          refine r_lit ?_
          refine s_val wkP F48 rfl rfl rfl rfl (y_move F48 rfl rfl) ?_; intro a121 F121; clear F48
          refine s_call wkP F121 rfl rfl rfl rfl (y_call F121 rfl rfl ent19) (ancestors l (by first | omega | decide | (simp; omega)) _) ?_; intro r122 w123 a123 hR123 F123; clear F121
          have H123 : St w w123 [HP.own 9 1 r122 ((anc l (pns l).length).length) (rows txC (anc l (pns l).length))] := H39.call hR123
          have hplr122 := pns_len l
          refine s_val wkP F123 rfl rfl rfl rfl (y_assign F123 rfl rfl) ?_; intro a124 F124; clear F123
          refine wpList_nil ?_
          refine c_then ?_
          refine wp_seq ?_
          refine wp_seq ?_
          have hanl : (anc l (pns l).length).length = (pns l).length := by simp [anc]
          refine r_lit ?_
          refine s_val wkP F124 rfl rfl rfl rfl (y_move F124 rfl rfl) ?_; intro a125 F125; clear F124
          obtain ⟨p126, cap126, rfl, hcap126, hp126⟩ := H123.ownForm 0 rfl
          refine s_val wkP F125 rfl rfl rfl rfl (y_lenS F125 rfl Tryd.underlying23 rfl) ?_; intro a127 F127; clear F125
          refine s_val wkP F127 rfl rfl rfl rfl (y_move F127 rfl rfl) ?_; intro a128 F128; clear F127
          refine wpList_nil ?_
          refine c_then ?_
          refine wp_block ?_
          refine x_loop (G := Nat) (fun k aa ww => Fr ⟨83, []⟩ aa [(0, .string (txb (l))), (3, .string (txb ((parP l)))), (4, .string (txb ((basP l)))), (5, .string (txb ((((parP l) ++ [47]) ++ (basP l))))), (6, .slice p126 ((anc l (pns l).length).length) cap126), (37, .slice p126 ((anc l (pns l).length).length) cap126), (38, .int .i64 (((((anc l (pns l).length).length) : Nat) : Int))), (39, .int .i64 (((k : Nat) : Int)))] ∧ St w ww [HP.own 9 1 (.slice p126 ((anc l (pns l).length).length) cap126) ((anc l (pns l).length).length) (rows txC (anc l (pns l).length))] ∧ (k ≤ (pns l).length)) (fun k => (pns l).length - k) 0 ⟨F128.cut _ ⟨rfl, rfl, rfl, rfl, rfl, rfl, rfl, rfl, trivial⟩, H123, Nat.zero_le _⟩ ?_
          clear F128
          rintro k a129 w129 ⟨F129, H129, hk⟩
          refine wp_seq ?_
          refine r_lit ?_
          refine s_val wkP F129 rfl rfl rfl rfl (y_lss F129 rfl rfl rfl) ?_; intro a130 F130; clear F129
          refine wpList_nil ?_
          refine c_then ?_
          refine wp_seq ?_
          refine x_condP F130 rfl (fun hlt => ?_) (fun hlt => ?_)
          · skip
            refine wp_skip ?_
            refine c_then ?_
            refine wp_seq ?_
            refine wp_block ?_
            refine wp_seq ?_
            refine r_lit ?_
            obtain ⟨bb132, hpe132⟩ := hp126 (by omega)
            obtain ⟨a, ma⟩ : ∃ x, ((anc l (pns l).length))[k]? = some x := ⟨_, List.getElem?_eq_getElem (by first | omega | (simp only [List.length_set]; omega))⟩
            refine s_val wkP F130 rfl rfl rfl rfl (y_indexP F130 elemStr rfl rfl rfl hpe132 (by omega)) ?_; intro a134 F134; clear F130
            refine s_val wkP F134 rfl rfl rfl rfl (y_load1 F134 plStr rfl rfl (Row.elem txC_len (H129.ownRowP 0 rfl hpe132) (fun _ _ => trivial) ma 0 _ rfl)) ?_; intro a135 F135; clear F134
            refine s_val wkP F135 rfl rfl rfl rfl (y_assign F135 rfl rfl) ?_; intro a136 F136; clear F135
            refine wpList_nil ?_
            refine c_then ?_
            refine wp_seq ?_
            obtain ⟨ha1, hlt2⟩ := anc_get ma
            have hal := ok_len (up_ok hok k).1
            rw [← ha1] at hal
            refine r_lit ?_
            refine s_val wkP F136 rfl rfl rfl rfl (y_move F136 rfl rfl) ?_; intro a137 F137; clear F136
            refine s_val wkP F137 rfl rfl rfl rfl (y_move F137 rfl rfl) ?_; intro a138 F138; clear F137
            refine s_callV wkP F138 rfl rfl rfl rfl (y_call F138 rfl rfl ent20) (within a l (by first | omega | decide | (simp; omega)) (by first | omega | decide | (simp; omega)) _) ?_; intro w139 a139 hR139 F139; clear F138
            have H139 : St w w139 [HP.own 9 1 (.slice p126 ((anc l (pns l).length).length) cap126) ((anc l (pns l).length).length) (rows txC (anc l (pns l).length))] := H129.call hR139
            refine s_val wkP F139 rfl rfl rfl rfl (y_not F139 rfl rfl) ?_; intro a140 F140; clear F139
            refine s_val wkP F140 rfl rfl rfl rfl (y_move F140 rfl rfl) ?_; intro a141 F141; clear F140
            refine g_splitB (k := 47) F141 rfl (fun hg47 F142 => ?_) (fun hg47 F142 => ?_)
            · clear F141
              exact absurd (wth_up hok hlt2).1 (by simpa [ha1] using hg47)
            · clear F141
              refine g_onP F142 rfl rfl rfl rfl ?_
              refine s_val wkP F142 rfl rfl rfl rfl (y_move F142 rfl rfl) ?_; intro a143 F143; clear F142
              refine g_onP F143 rfl rfl rfl rfl ?_
              refine s_val wkP F143 rfl rfl rfl rfl (y_move F143 rfl rfl) ?_; intro a144 F144; clear F143
              refine g_onP F144 rfl rfl rfl rfl ?_
              refine s_callV wkP F144 rfl rfl rfl rfl (y_call F144 rfl rfl ent20) (within l a (by first | omega | decide | (simp; omega)) (by first | omega | decide | (simp; omega)) _) ?_; intro w145 a145 hR145 F145; clear F144
              have H145 : St w w145 [HP.own 9 1 (.slice p126 ((anc l (pns l).length).length) cap126) ((anc l (pns l).length).length) (rows txC (anc l (pns l).length))] := H139.call hR145
              refine s_val wkP F145 rfl rfl rfl rfl (y_pickF F145 rfl rfl rfl) ?_; intro a146 F146; clear F145
              refine wpList_nil ?_
              refine c_then ?_
              refine x_cond F146 rfl (fun hc51 => ?_) (fun hc51 => ?_)
              · skip
                exact absurd (wth_up hok hlt2).2 (by simp [← ha1, hc51])
              · skip
                refine wp_skip ?_
                refine c_blkN ?_
                refine c_then ?_
                refine r_lit ?_
                refine s_val wkP F146 rfl rfl rfl rfl (y_add F146 rfl rfl rfl (r := (((k : Nat) : Int)) + (1)) (wrap_i64 (by omega) (by omega) (by omega))) ?_; intro a148 F148; clear F146
                refine s_val wkP F148 rfl rfl rfl rfl (y_move F148 rfl rfl) ?_; intro a149 F149; clear F148
                refine wpList_nil ?_
                refine c_then ?_
                exact ⟨k + 1, ⟨F149.cut _ ⟨rfl, rfl, rfl, rfl, rfl, rfl, rfl, rfl, trivial⟩, H145, by omega⟩, by first | omega | (dsimp only; omega)⟩
          · skip
            refine wp_exit ?_
            refine c_thenX ?_
            refine c_thenX ?_
            refine c_hit ?_
            refine c_then ?_
            refine wp_seq ?_
            have hne := pns_ne hok hroot
            have hpos0 : 0 < (pns l).length := List.length_pos_iff.2 hne
            have hpos : (0 : Int) < (((anc l (pns l).length).length : Nat) : Int) := by omega
            refine r_lit ?_
            refine s_val wkP F130 rfl rfl rfl rfl (y_move F130 rfl rfl) ?_; intro a150 F150; clear F130
            refine s_val wkP F150 rfl rfl rfl rfl (y_move F150 rfl rfl) ?_; intro a151 F151; clear F150
            refine s_val wkP F151 rfl rfl rfl rfl (y_eqT (l := (((parP l) ++ [47]) ++ (basP l))) (m := l) F151 rfl rfl rfl) ?_; intro a152 F152; clear F151
            refine s_val wkP F152 rfl rfl rfl rfl (y_move F152 rfl rfl) ?_; intro a153 F153; clear F152
            refine g_split (k := 56) F153 rfl (fun hg56 F154 => ?_) (fun hg56 F154 => ?_)
            · clear F153
              refine g_onP F154 rfl rfl rfl rfl ?_
              refine s_val wkP F154 rfl rfl rfl rfl (y_move F154 rfl rfl) ?_; intro a155 F155; clear F154
              refine g_onP F155 rfl rfl rfl rfl ?_
              refine s_callV wkP F155 rfl rfl rfl rfl (y_call F155 rfl rfl ent10) (name (basP l) (by first | omega | decide | (simp; omega)) _) ?_; intro w156 a156 hR156 F156; clear F155
              have H156 : St w w156 [HP.own 9 1 (.slice p126 ((anc l (pns l).length).length) cap126) ((anc l (pns l).length).length) (rows txC (anc l (pns l).length))] := H129.call hR156
              refine s_val wkP F156 rfl rfl rfl rfl (y_pickT F156 rfl rfl rfl) ?_; intro a157 F157; clear F156
              refine s_val wkP F157 rfl rfl rfl rfl (y_move F157 rfl rfl) ?_; intro a158 F158; clear F157
              refine g_splitB (k := 60) F158 rfl (fun hg60 F159 => ?_) (fun hg60 F159 => ?_)
              · clear F158
                refine g_onP F159 rfl rfl rfl rfl ?_
                refine s_val wkP F159 rfl rfl rfl rfl (y_move F159 rfl rfl) ?_; intro a160 F160; clear F159
                refine g_onP F160 rfl rfl rfl rfl ?_
                refine s_val wkP F160 rfl rfl rfl rfl (y_lenS F160 rfl Tryd.underlying23 rfl) ?_; intro a161 F161; clear F160
                refine g_onP F161 rfl rfl rfl rfl ?_
                refine s_val wkP F161 rfl rfl rfl rfl (y_gtr F161 rfl rfl rfl) ?_; intro a162 F162; clear F161
                refine s_val wkP F162 rfl rfl rfl rfl (y_pickT F162 rfl rfl rfl) ?_; intro a163 F163; clear F162
                refine s_val wkP F163 rfl rfl rfl rfl (y_move F163 rfl rfl) ?_; intro a164 F164; clear F163
                refine g_split (k := 65) F164 rfl (fun hg65 F165 => ?_) (fun hg65 F165 => ?_)
                · clear F164
                  refine g_onP F165 rfl rfl rfl rfl ?_
                  refine s_val wkP F165 rfl rfl rfl rfl (y_move F165 rfl rfl) ?_; intro a166 F166; clear F165
                  refine g_onP F166 rfl rfl rfl rfl ?_
                  refine s_val wkP F166 rfl rfl rfl rfl (y_move F166 rfl rfl) ?_; intro a167 F167; clear F166
                  refine g_onP F167 rfl rfl rfl rfl ?_
                  refine s_val wkP F167 rfl rfl rfl rfl (y_lenS F167 rfl Tryd.underlying23 rfl) ?_; intro a168 F168; clear F167
                  refine g_onP F168 rfl rfl rfl rfl ?_
                  refine s_val wkP F168 rfl rfl rfl rfl (y_sub F168 rfl rfl rfl (r := (((anc l (pns l).length).length - 1 : Nat) : Int)) (wrap_i64 (by omega) (by omega) (by omega))) ?_; intro a169 F169; clear F168
                  refine g_onP F169 rfl rfl rfl rfl ?_
                  obtain ⟨bb170, hpe170⟩ := hp126 (by omega)
                  obtain ⟨z, mz⟩ : ∃ x, ((anc l (pns l).length))[(anc l (pns l).length).length - 1]? = some x := ⟨_, List.getElem?_eq_getElem (by first | omega | (simp only [List.length_set]; omega))⟩
                  refine s_val wkP F169 rfl rfl rfl rfl (y_indexP F169 elemStr rfl rfl rfl hpe170 (by omega)) ?_; intro a172 F172; clear F169
                  refine g_onP F172 rfl rfl rfl rfl ?_
                  have hlast : z = parP l := by rw [(anc_get mz).1, parP_some hne, hanl]
                  refine s_val wkP F172 rfl rfl rfl rfl (y_load1 F172 plStr rfl rfl (Row.elem txC_len (H156.ownRowP 0 rfl hpe170) (fun _ _ => trivial) mz 0 _ rfl)) ?_; intro a173 F173; clear F172
                  refine g_onP F173 rfl rfl rfl rfl ?_
                  refine s_val wkP F173 rfl rfl rfl rfl (y_move F173 rfl rfl) ?_; intro a174 F174; clear F173
                  refine g_onP F174 rfl rfl rfl rfl ?_
                  refine s_val wkP F174 rfl rfl rfl rfl (y_eqT (l := z) (m := (parP l)) F174 rfl rfl rfl) ?_; intro a175 F175; clear F174
                  refine s_val wkP F175 rfl rfl rfl rfl (y_pickT F175 rfl rfl rfl) ?_; intro a176 F176; clear F175
                  refine s_val wkP F176 rfl rfl rfl rfl (y_move F176 rfl rfl) ?_; intro a177 F177; clear F176
                  refine g_split (k := 75) F177 rfl (fun hg75 F178 => ?_) (fun hg75 F178 => ?_)
                  · clear F177
                    refine g_onP F178 rfl rfl rfl rfl ?_
                    refine s_val wkP F178 rfl rfl rfl rfl (y_move F178 rfl rfl) ?_; intro a179 F179; clear F178
                    refine g_onP F179 rfl rfl rfl rfl ?_
                    refine s_call wkP F179 rfl rfl rfl rfl (y_call F179 rfl rfl ent14) (psplit l (by first | omega | decide | (simp; omega)) _) ?_; intro r180 w181 a181 hR181 F181; clear F179
                    have H181 : St w w181 [HP.own 9 1 r180 ((pns l).length) (rows txC (pns l)), HP.own 9 1 (.slice p126 ((anc l (pns l).length).length) cap126) ((anc l (pns l).length).length) (rows txC (anc l (pns l).length))] := H156.call hR181
                    have hplr180 := pns_len l
                    refine g_onP F181 rfl rfl rfl rfl ?_
                    obtain ⟨p182, cap182, rfl, hcap182, hp182⟩ := H181.ownForm 0 rfl
                    refine s_val wkP F181 rfl rfl rfl rfl (y_lenS F181 rfl Tryd.underlying23 rfl) ?_; intro a183 F183; clear F181
                    refine g_onP F183 rfl rfl rfl rfl ?_
                    refine s_val wkP F183 rfl rfl rfl rfl (y_move F183 rfl rfl) ?_; intro a184 F184; clear F183
                    refine g_onP F184 rfl rfl rfl rfl ?_
                    refine s_val wkP F184 rfl rfl rfl rfl (y_lenS F184 rfl Tryd.underlying23 rfl) ?_; intro a185 F185; clear F184
                    refine g_onP F185 rfl rfl rfl rfl ?_
                    refine s_val wkP F185 rfl rfl rfl rfl (y_eql F185 rfl rfl rfl) ?_; intro a186 F186; clear F185
                    refine s_val wkP F186 rfl rfl rfl rfl (y_pickT F186 rfl rfl rfl) ?_; intro a187 F187; clear F186
                    refine s_val wkP F187 rfl rfl rfl rfl (y_assign F187 rfl rfl) ?_; intro a188 F188; clear F187
                    refine wpList_nil ?_
                    refine c_then ?_
                    refine wp_ret ?_
                    refine x_ret1 F188 rfl rfl ?_
                    exact ⟨ret_bool (by simp [anc]), H181.below⟩
                  · clear F177
                    exact absurd hlast hg75
                · clear F164
                  exact absurd hpos hg65
              · clear F158
                exact absurd (bas_name hok hroot) (by simp [hg60])
            · clear F153
              exact absurd hagain hg56

end Go.Proofs.YtodggokkklfopaaDoor
