import Derived.Test.YtoohllmhlbgamaaVoteT
set_option linter.unusedSimpArgs false
set_option linter.unusedVariables false
namespace Go.Proofs.Ytoohllmhlbgamaa
open Go.ChangeShapes Go.WideShapes Go.ChangeAt Go.RowKit Go.Tri
set_option maxRecDepth 100000 in
set_option maxHeartbeats 2000000 in
theorem latest (xs : List Vote) (hw : ∀ x ∈ xs, x.wf) (hm : xs.length ≤ 9223372036854775807) (s : Value) (v : Vote) (hv : v.wf) (w : World) (hs : Sl w s xs.length (votes xs)) :
    Calls Try.prog 7 [s, .agg v.cells.toArray].toArray w (fun e w' => e = .returned (.bool true) ∧ Below w.heap.size w w') := by
  have hs0 := hs
  obtain ⟨p, cp, rfl, hp⟩ := hs0.form
  refine x_enter Try.func7 rfl rfl rfl ?_
  intro a0 F0
  replace F0 : Fr 121 a0 [(0, .slice p xs.length cp), (1, .agg v.cells.toArray)] := F0
  have H0 := St.nil w
  refine wp_seq ?_
  refine r_lit ?_
  refine s_boxA F0 rfl rfl rfl rfl rfl H0 ?_; intro b1 w1 a1 H1 F1; clear F0
  refine s_val F1 rfl rfl rfl (y_assign F1 rfl rfl) ?_; intro a2 F2; clear F1
  refine wpList_nil ?_
  refine c_then ?_
  refine wp_seq ?_
  refine wp_seq ?_
  refine r_lit ?_
  refine s_callV F2 rfl rfl rfl (y_call F2 rfl rfl ent_speaks) ((speaks _).mono fun e w2 h => ⟨h.1, St.ofBelow h.2⟩) ?_; intro w3 a3 hR3 F3; clear F2
  have H3 : St w w3 [HP.blk b1 (v.cells) 28] := H1.call hR3
  refine s_val F3 rfl rfl rfl (y_not F3 rfl rfl) ?_; intro a4 F4; clear F3
  refine wpList_nil ?_
  refine c_then ?_
  refine x_condF F4 rfl ?_
  refine wp_skip ?_
  refine c_then ?_
  refine wp_seq ?_
  refine wp_seq ?_
  refine r_lit ?_
  refine s_val F4 rfl rfl rfl (y_move F4 rfl rfl) ?_; intro a6 F6; clear F4
  refine s_val F6 rfl rfl rfl (y_lenS F6 rfl Try.underlying22 rfl) ?_; intro a7 F7; clear F6
  refine s_val F7 rfl rfl rfl (y_gtr F7 rfl rfl rfl) ?_; intro a8 F8; clear F7
  refine wpList_nil ?_
  refine c_then ?_
  refine x_condP F8 rfl (fun hlen => ?_) (fun hlen => ?_)
  · skip
    refine wp_seq ?_
    refine r_lit ?_
    refine s_val F8 rfl rfl rfl (y_assign F8 rfl rfl) ?_; intro a10 F10; clear F8
    refine wpList_nil ?_
    refine c_then ?_
    refine wp_ret ?_
    refine c_thenR ?_
    refine x_ret1 F10 rfl rfl ?_
    exact ⟨rfl, H3.below⟩
  · skip
    refine wp_skip ?_
    refine c_then ?_
    refine wp_seq ?_
    refine r_lit ?_
    refine s_build0 F8 rfl rfl rfl elemVote rfl H3 ?_; intro s11 w11 a11 H11 F11; clear F8
    refine s_val F11 rfl rfl rfl (y_assign F11 rfl rfl) ?_; intro a12 F12; clear F11
    refine wpList_nil ?_
    refine c_then ?_
    refine wp_seq ?_
    refine wp_seq ?_
    refine r_lit ?_
    refine s_val F12 rfl rfl rfl (y_move F12 rfl rfl) ?_; intro a13 F13; clear F12
    refine s_val F13 rfl rfl rfl (y_lenS F13 rfl Try.underlying22 rfl) ?_; intro a14 F14; clear F13
    refine s_val F14 rfl rfl rfl (y_move F14 rfl rfl) ?_; intro a15 F15; clear F14
    refine wpList_nil ?_
    refine c_then ?_
    refine wp_block ?_
    refine x_loop (G := Nat × Value) (fun g a w' => match g with | (k, s) => Fr 121 a [(3, .pointer (some ⟨b1, 0, none⟩)), (4, .bool false), (22, .slice p xs.length cp), (23, .int .i64 (((xs.length : Nat) : Int))), (5, s), (24, .int .i64 (((k : Nat) : Int)))] ∧ St w w' [HP.own 28 37 s ((addAll (xs.take k)).length) (votes (addAll (xs.take k))), HP.blk b1 (v.cells) 28] ∧ (k ≤ xs.length)) (fun g => match g with | (k, s) => xs.length - k) (0, s11) ⟨F15.cut _ ⟨rfl, rfl, rfl, rfl, rfl, rfl, trivial⟩, H11, Nat.zero_le _⟩ ?_
    clear F15
    rintro ⟨k, s⟩ a16 w16 ⟨F16, H16, hk⟩
    refine wp_seq ?_
    refine r_lit ?_
    refine s_val F16 rfl rfl rfl (y_lss F16 rfl rfl rfl) ?_; intro a17 F17; clear F16
    refine wpList_nil ?_
    refine c_then ?_
    refine wp_seq ?_
    refine x_condP F17 rfl (fun hlt => ?_) (fun hlt => ?_)
    · skip
      refine wp_skip ?_
      refine c_then ?_
      refine wp_seq ?_
      refine wp_block ?_
      refine wp_seq ?_
      refine r_lit ?_
      obtain ⟨bb19, of19, hpe19, hrow19⟩ := hp (by omega)
      obtain ⟨x, mx⟩ : ∃ x, (xs)[k]? = some x := ⟨_, List.getElem?_eq_getElem (by omega)⟩
      have hx := hw x (List.mem_of_getElem? mx)
      refine s_val F17 rfl rfl rfl (y_indexP F17 elemVote rfl rfl rfl hpe19 (by omega)) ?_; intro a21 F21; clear F17
      refine s_val F21 rfl rfl rfl (y_loadA F21 aggVote rfl rfl (Row.vote (hrow19.st H16) hw mx) (Vote.len_cells hx)) ?_; intro a22 F22; clear F21
      refine s_allocA F22 rfl rfl rfl aggVote rfl H16 ?_; intro b23 w23 a23 H23 F23; clear F22
      refine s_storeA F23 rfl rfl aggVote rfl rfl rfl H23 0 rfl (Vote.len_cells hx) (rfl) (Vote.flat x) ?_; intro w24 h24
      have H24 : St w w24 [HP.blk b23 (x.cells) 28, HP.own 28 37 s ((addAll (xs.take k)).length) (votes (addAll (xs.take k))), HP.blk b1 (v.cells) 28] := h24
      clear h24
      refine wpList_nil ?_
      refine c_then ?_
      refine r_lit ?_
      refine s_val F23 rfl rfl rfl (y_move F23 rfl rfl) ?_; intro a25 F25; clear F23
      refine s_val F25 rfl rfl rfl (y_loadA F25 aggVote rfl rfl ((H24.blk 0 rfl).row) (Vote.len_cells hx)) ?_; intro a26 F26; clear F25
      refine s_call F26 rfl rfl rfl (y_call F26 rfl rfl ent_add) (add _ (addAll_wf _ fun x hx => hw x (List.mem_of_mem_take hx)) (by have := addAll_len (xs.take k); simp only [List.length_take] at this; omega) _ x hx _ (H24.sl 1 rfl)) ?_; intro s2 w27 a27 hR27 F27; clear F26
      rw [← addAll_succ mx] at hR27
      have H27 : St w w27 [HP.own 28 37 s2 ((addAll (xs.take (k + 1))).length) (votes (addAll (xs.take (k + 1)))), HP.blk b23 (x.cells) 28, HP.blk b1 (v.cells) 28] := (H24.call hR27).pick [0, 1, 3] (by decide) rfl
      refine s_val F27 rfl rfl rfl (y_assign F27 rfl rfl) ?_; intro a28 F28; clear F27
      refine wpList_nil ?_
      refine c_blkN ?_
      refine c_then ?_
      refine r_lit ?_
      refine s_val F28 rfl rfl rfl (y_add F28 rfl rfl rfl (r := (((k : Nat) : Int)) + (1)) (wrap_i64 (by omega) (by omega) (by omega))) ?_; intro a29 F29; clear F28
      refine s_val F29 rfl rfl rfl (y_move F29 rfl rfl) ?_; intro a30 F30; clear F29
      refine wpList_nil ?_
      refine c_then ?_
      exact ⟨(k + 1, s2), ⟨F30.cut _ ⟨rfl, rfl, rfl, rfl, rfl, rfl, trivial⟩, H27.pick [0, 2] (by decide) rfl, by omega⟩, by first | omega | (dsimp only; omega)⟩
    · skip
      refine wp_exit ?_
      refine c_thenX ?_
      refine c_thenX ?_
      refine c_hit ?_
      refine c_then ?_
      refine wp_seq ?_
      obtain rfl : k = xs.length := by omega
      simp only [List.take_length] at H16
      have hall := addAll_wf xs hw
      have hal := addAll_len xs
      have hau := addAll_up xs
      have hou := addV_up hau v
      have how := addV_wf hall hv
      have hol := addV_len (addAll xs) v
      have hone := cnt_one hau v
      refine r_lit ?_
      refine s_val F17 rfl rfl rfl (y_move F17 rfl rfl) ?_; intro a31 F31; clear F17
      refine s_val F31 rfl rfl rfl (y_loadA F31 aggVote rfl rfl ((H16.blk 1 rfl).row) (Vote.len_cells hv)) ?_; intro a32 F32; clear F31
      refine s_call F32 rfl rfl rfl (y_call F32 rfl rfl ent_add) (add _ hall (by omega) _ v hv _ (H16.sl 0 rfl)) ?_; intro r w33 a33 hR33 F33; clear F32
      have H33 : St w w33 [HP.own 28 37 r ((addV (addAll xs) v).length) (votes (addV (addAll xs) v)), HP.own 28 37 s ((addAll xs).length) (votes (addAll xs)), HP.blk b1 (v.cells) 28] := H16.call hR33
      refine s_val F33 rfl rfl rfl (y_assign F33 rfl rfl) ?_; intro a34 F34; clear F33
      refine wpList_nil ?_
      refine c_then ?_
      refine wp_seq ?_
      refine r_lit ?_
      refine s_val F34 rfl rfl rfl (y_assign F34 rfl rfl) ?_; intro a35 F35; clear F34
      refine wpList_nil ?_
      refine c_then ?_
      refine wp_seq ?_
      refine wp_seq ?_
      refine r_lit ?_
      refine s_val F35 rfl rfl rfl (y_move F35 rfl rfl) ?_; intro a36 F36; clear F35
      obtain ⟨p37, cap37, rfl, hcap37, hp37⟩ := H33.ownForm 0 rfl
      refine s_val F36 rfl rfl rfl (y_lenS F36 rfl Try.underlying22 rfl) ?_; intro a38 F38; clear F36
      refine s_val F38 rfl rfl rfl (y_move F38 rfl rfl) ?_; intro a39 F39; clear F38
      refine wpList_nil ?_
      refine c_then ?_
      refine wp_block ?_
      refine x_loop (G := Nat × Nat) (fun g a w' => match g with | (i, c) => Fr 121 a [(3, .pointer (some ⟨b1, 0, none⟩)), (5, s), (8, .slice p37 ((addV (addAll xs) v).length) cap37), (35, .slice p37 ((addV (addAll xs) v).length) cap37), (36, .int .i64 (((((addV (addAll xs) v).length) : Nat) : Int))), (9, .int .i64 (((c : Nat) : Int))), (37, .int .i64 (((i : Nat) : Int)))] ∧ St w w' [HP.own 28 37 (.slice p37 ((addV (addAll xs) v).length) cap37) ((addV (addAll xs) v).length) (votes (addV (addAll xs) v)), HP.own 28 37 s ((addAll xs).length) (votes (addAll xs)), HP.blk b1 (v.cells) 28] ∧ (i ≤ (addV (addAll xs) v).length) ∧ (c = cnt v ((addV (addAll xs) v).take i))) (fun g => match g with | (i, c) => (addV (addAll xs) v).length - i) (0, 0) ⟨F39.cut _ ⟨rfl, rfl, rfl, rfl, rfl, rfl, rfl, trivial⟩, H33, Nat.zero_le _, rfl⟩ ?_
      clear F39
      rintro ⟨i, c⟩ a40 w40 ⟨F40, H40, hi, hc⟩
      have hcl := cnt_le v ((addV (addAll xs) v).take i)
      rw [List.length_take] at hcl
      refine wp_seq ?_
      refine r_lit ?_
      refine s_val F40 rfl rfl rfl (y_lss F40 rfl rfl rfl) ?_; intro a41 F41; clear F40
      refine wpList_nil ?_
      refine c_then ?_
      refine wp_seq ?_
      refine x_condP F41 rfl (fun hlt2 => ?_) (fun hlt2 => ?_)
      · skip
        refine wp_skip ?_
        refine c_then ?_
        refine wp_seq ?_
        refine wp_block ?_
        refine wp_seq ?_
        refine r_lit ?_
        refine s_val F41 rfl rfl rfl (y_move F41 rfl rfl) ?_; intro a43 F43; clear F41
        obtain ⟨bb44, hpe44⟩ := hp37 (by omega)
        obtain ⟨y, my⟩ : ∃ x, ((addV (addAll xs) v))[i]? = some x := ⟨_, List.getElem?_eq_getElem (by omega)⟩
        have hy := how y (List.mem_of_getElem? my)
        refine s_val F43 rfl rfl rfl (y_indexP F43 elemVote rfl rfl rfl hpe44 (by omega)) ?_; intro a46 F46; clear F43
        refine s_val F46 rfl rfl rfl (y_loadA F46 aggVote rfl rfl (Row.vote (H40.ownRowP 0 rfl hpe44) how my) (Vote.len_cells hy)) ?_; intro a47 F47; clear F46
        refine s_allocA F47 rfl rfl rfl aggVote rfl H40 ?_; intro b48 w48 a48 H48 F48; clear F47
        refine s_val F48 rfl rfl rfl (y_assign F48 rfl rfl) ?_; intro a49 F49; clear F48
        refine s_storeA F49 rfl rfl aggVote rfl rfl rfl H48 0 rfl (Vote.len_cells hy) (rfl) (Vote.flat y) ?_; intro w50 h50
        have H50 : St w w50 [HP.blk b48 (y.cells) 28, HP.own 28 37 (.slice p37 ((addV (addAll xs) v).length) cap37) ((addV (addAll xs) v).length) (votes (addV (addAll xs) v)), HP.own 28 37 s ((addAll xs).length) (votes (addAll xs)), HP.blk b1 (v.cells) 28] := h50
        clear h50
        refine wpList_nil ?_
        refine c_then ?_
        refine wp_seq ?_
        refine wp_seq ?_
        refine q_region (fun u => St w u [HP.blk b48 (y.cells) 28, HP.own 28 37 (.slice p37 ((addV (addAll xs) v).length) cap37) ((addV (addAll xs) v).length) (votes (addV (addAll xs) v)), HP.own 28 37 s ((addAll xs).length) (votes (addAll xs)), HP.blk b1 (v.cells) 28]) (by kernel_rfl) (by kernel_rfl) H50.drew ?_
        refine q_val F49 rfl rfl rfl (fun u hu => y_move F49 rfl rfl) ?_; intro a51 F51; clear F49
        refine q_val F51 rfl rfl rfl (fun u hu => y_gtr F51 rfl rfl rfl) ?_; intro a52 F52; clear F51
        refine q_val F52 rfl rfl rfl (fun u hu => y_move F52 rfl rfl) ?_; intro a53 F53; clear F52
        refine qg_split (k := 44) F53 rfl (fun hi0 F54 => ?_) (fun hi0 F54 => ?_)
        · clear F53
          refine qg_on F54 rfl rfl rfl rfl ?_
          refine q_val F54 rfl rfl rfl (fun u hu => y_move F54 rfl rfl) ?_; intro a55 F55; clear F54
          refine qg_on F55 rfl rfl rfl rfl ?_
          refine q_val F55 rfl rfl rfl (fun u hu => y_move F55 rfl rfl) ?_; intro a56 F56; clear F55
          refine qg_on F56 rfl rfl rfl rfl ?_
          refine q_val F56 rfl rfl rfl (fun u hu => y_sub F56 rfl rfl rfl (r := ((i - 1 : Nat) : Int)) (wrap_i64 (by omega) (by omega) (by omega))) ?_; intro a57 F57; clear F56
          refine qg_on F57 rfl rfl rfl rfl ?_
          obtain ⟨z, mz⟩ : ∃ x, ((addV (addAll xs) v))[i - 1]? = some x := ⟨_, List.getElem?_eq_getElem (by omega)⟩
          have hz := how z (List.mem_of_getElem? mz)
          refine q_val F57 rfl rfl rfl (fun u hu => y_indexP F57 elemVote rfl rfl rfl hpe44 (by omega)) ?_; intro a59 F59; clear F57
          refine qg_on F59 rfl rfl rfl rfl ?_
          refine q_val F59 rfl rfl rfl (fun u hu => y_fieldAddr F59 fld0 rfl rfl) ?_; intro a60 F60; clear F59
          refine qg_on F60 rfl rfl rfl rfl ?_
          refine q_val F60 rfl rfl rfl (fun u hu => y_load1 F60 plInt rfl rfl (Row.vote (hu.ownRowP 1 rfl hpe44) how mz 0 _ rfl)) ?_; intro a61 F61; clear F60
          refine qg_on F61 rfl rfl rfl rfl ?_
          refine q_val F61 rfl rfl rfl (fun u hu => y_fieldAddr F61 fld0 rfl rfl) ?_; intro a62 F62; clear F61
          refine qg_on F62 rfl rfl rfl rfl ?_
          refine q_val F62 rfl rfl rfl (fun u hu => y_load1 F62 plInt rfl rfl (((hu.blk 0 rfl).cell _).trans rfl)) ?_; intro a63 F63; clear F62
          refine qg_on F63 rfl rfl rfl rfl ?_
          refine q_val F63 rfl rfl rfl (fun u hu => y_geq F63 rfl rfl rfl) ?_; intro a64 F64; clear F63
          refine q_val F64 rfl rfl rfl (fun u hu => y_pickT F64 rfl rfl rfl) ?_; intro a65 F65; clear F64
          refine q_nil ?_; intro w66 H66
          refine c_then ?_
          refine x_condP F65 rfl (fun hord => ?_) (fun hord => ?_)
          · skip
            exact absurd (hou.at (show i - 1 < i by omega) mz my) (by omega)
          · skip
            refine wp_skip ?_
            refine c_then ?_
            refine wp_seq ?_
            refine wp_seq ?_
            refine r_lit ?_
            refine s_val F65 rfl rfl rfl (y_fieldAddr F65 fld0 rfl rfl) ?_; intro a68 F68; clear F65
            refine s_val F68 rfl rfl rfl (y_load1 F68 plInt rfl rfl (((H66.blk 0 rfl).cell _).trans rfl)) ?_; intro a69 F69; clear F68
            refine s_val F69 rfl rfl rfl (y_fieldAddr F69 fld0 rfl rfl) ?_; intro a70 F70; clear F69
            refine s_val F70 rfl rfl rfl (y_load1 F70 plInt rfl rfl (((H66.blk 3 rfl).cell _).trans rfl)) ?_; intro a71 F71; clear F70
            refine s_val F71 rfl rfl rfl (y_neq F71 rfl rfl rfl) ?_; intro a72 F72; clear F71
            refine wpList_nil ?_
            refine c_then ?_
            refine x_condN F72 rfl (fun hnn => ?_) (fun hnn => ?_)
            · skip
              refine wp_exit ?_
              refine c_thenX ?_
              refine c_hit ?_
              refine c_then ?_
              refine r_lit ?_
              refine s_val F72 rfl rfl rfl (y_add F72 rfl rfl rfl (r := (((i : Nat) : Int)) + (1)) (wrap_i64 (by omega) (by omega) (by omega))) ?_; intro a74 F74; clear F72
              refine s_val F74 rfl rfl rfl (y_move F74 rfl rfl) ?_; intro a75 F75; clear F74
              refine wpList_nil ?_
              refine c_then ?_
              exact ⟨(i + 1, c), ⟨F75.cut _ ⟨rfl, rfl, rfl, rfl, rfl, rfl, rfl, trivial⟩, H66.pick [1, 2, 3] (by decide) rfl, by omega, by rw [cnt_succ v my, hc]; simp [hnn]⟩, by first | omega | (dsimp only; omega)⟩
            · skip
              refine wp_skip ?_
              refine c_then ?_
              refine wp_seq ?_
              refine r_lit ?_
              refine s_val F72 rfl rfl rfl (y_move F72 rfl rfl) ?_; intro a76 F76; clear F72
              refine s_val F76 rfl rfl rfl (y_add F76 rfl rfl rfl (r := (((c : Nat) : Int)) + (1)) (wrap_i64 (by omega) (by omega) (by omega))) ?_; intro a77 F77; clear F76
              refine s_val F77 rfl rfl rfl (y_assign F77 rfl rfl) ?_; intro a78 F78; clear F77
              refine wpList_nil ?_
              refine c_then ?_
              refine wp_seq ?_
              refine r_lit ?_
              refine s_val F78 rfl rfl rfl (y_loadA F78 aggVote rfl rfl ((H66.blk 0 rfl).row) (Vote.len_cells hy)) ?_; intro a79 F79; clear F78
              refine s_val F79 rfl rfl rfl (y_loadA F79 aggVote rfl rfl ((H66.blk 3 rfl).row) (Vote.len_cells hv)) ?_; intro a80 F80; clear F79
              refine s_val F80 rfl rfl rfl (y_binAgg F80 rfl rfl rfl ((run_eq_vote y v hy hv _ _ _ (decide (y = v)) (by simp)).2)) ?_; intro a81 F81; clear F80
              refine s_val F81 rfl rfl rfl (y_move F81 rfl rfl) ?_; intro a82 F82; clear F81
              refine g_splitB (k := 65) F82 rfl (fun hyv F83 => ?_) (fun hyv F83 => ?_)
              · clear F82
                simp only [Bool.not_eq_true', Bool.not_eq_false', decide_eq_true_eq, decide_eq_false_iff_not] at hyv
                refine g_on F83 rfl rfl rfl rfl ?_
                refine s_val F83 rfl rfl rfl (y_fieldAddr F83 fld1 rfl rfl) ?_; intro a84 F84; clear F83
                refine g_on F84 rfl rfl rfl rfl ?_
                refine s_val F84 rfl rfl rfl (y_load1 F84 plU64 rfl rfl (((H66.blk 0 rfl).cell _).trans rfl)) ?_; intro a85 F85; clear F84
                refine g_on F85 rfl rfl rfl rfl ?_
                refine s_val F85 rfl rfl rfl (y_fieldAddr F85 fld1 rfl rfl) ?_; intro a86 F86; clear F85
                refine g_on F86 rfl rfl rfl rfl ?_
                refine s_val F86 rfl rfl rfl (y_load1 F86 plU64 rfl rfl (((H66.blk 3 rfl).cell _).trans rfl)) ?_; intro a87 F87; clear F86
                refine g_on F87 rfl rfl rfl rfl ?_
                refine s_val F87 rfl rfl rfl (y_leq F87 rfl rfl rfl) ?_; intro a88 F88; clear F87
                refine s_val F88 rfl rfl rfl (y_pickT F88 rfl rfl rfl) ?_; intro a89 F89; clear F88
                refine wpList_nil ?_
                refine c_then ?_
                refine x_condP F89 rfl (fun hvw => ?_) (fun hvw => ?_)
                · skip
                  exact absurd hvw (addV_node hau v (List.mem_of_getElem? my) hnn hyv)
                · skip
                  refine wp_skip ?_
                  refine c_blkN ?_
                  refine c_then ?_
                  refine r_lit ?_
                  refine s_val F89 rfl rfl rfl (y_add F89 rfl rfl rfl (r := (((i : Nat) : Int)) + (1)) (wrap_i64 (by omega) (by omega) (by omega))) ?_; intro a91 F91; clear F89
                  refine s_val F91 rfl rfl rfl (y_move F91 rfl rfl) ?_; intro a92 F92; clear F91
                  refine wpList_nil ?_
                  refine c_then ?_
                  exact ⟨(i + 1, c + 1), ⟨F92.cut _ ⟨rfl, rfl, rfl, rfl, rfl, rfl, rfl, trivial⟩, H66.pick [1, 2, 3] (by decide) rfl, by omega, by rw [cnt_succ v my, hc]; simp [hnn]⟩, by first | omega | (dsimp only; omega)⟩
              · clear F82
                simp only [Bool.not_eq_true', Bool.not_eq_false', decide_eq_true_eq, decide_eq_false_iff_not] at hyv
                refine g_off F83 rfl rfl rfl rfl rfl rfl rfl ?_; intro a93 F93; clear F83
                refine g_off F93 rfl rfl rfl rfl rfl rfl rfl ?_; intro a94 F94; clear F93
                refine g_off F94 rfl rfl rfl rfl rfl rfl rfl ?_; intro a95 F95; clear F94
                refine g_off F95 rfl rfl rfl rfl rfl rfl rfl ?_; intro a96 F96; clear F95
                refine g_off F96 rfl rfl rfl rfl rfl rfl rfl ?_; intro a97 F97; clear F96
                refine s_val F97 rfl rfl rfl (y_pickF F97 rfl rfl rfl) ?_; intro a98 F98; clear F97
                refine wpList_nil ?_
                refine c_then ?_
                refine x_condF F98 rfl ?_
                refine wp_skip ?_
                refine c_blkN ?_
                refine c_then ?_
                refine r_lit ?_
                refine s_val F98 rfl rfl rfl (y_add F98 rfl rfl rfl (r := (((i : Nat) : Int)) + (1)) (wrap_i64 (by omega) (by omega) (by omega))) ?_; intro a100 F100; clear F98
                refine s_val F100 rfl rfl rfl (y_move F100 rfl rfl) ?_; intro a101 F101; clear F100
                refine wpList_nil ?_
                refine c_then ?_
                exact ⟨(i + 1, c + 1), ⟨F101.cut _ ⟨rfl, rfl, rfl, rfl, rfl, rfl, rfl, trivial⟩, H66.pick [1, 2, 3] (by decide) rfl, by omega, by rw [cnt_succ v my, hc]; simp [hnn]⟩, by first | omega | (dsimp only; omega)⟩
        · clear F53
          refine qg_off F54 rfl rfl rfl rfl rfl rfl rfl ?_; intro a102 F102; clear F54
          refine qg_off F102 rfl rfl rfl rfl rfl rfl rfl ?_; intro a103 F103; clear F102
          refine qg_off F103 rfl rfl rfl rfl rfl rfl rfl ?_; intro a104 F104; clear F103
          refine qg_off F104 rfl rfl rfl rfl rfl rfl rfl ?_; intro a105 F105; clear F104
          refine qg_off F105 rfl rfl rfl rfl rfl rfl rfl ?_; intro a106 F106; clear F105
          refine qg_off F106 rfl rfl rfl rfl rfl rfl rfl ?_; intro a107 F107; clear F106
          refine qg_off F107 rfl rfl rfl rfl rfl rfl rfl ?_; intro a108 F108; clear F107
          refine qg_off F108 rfl rfl rfl rfl rfl rfl rfl ?_; intro a109 F109; clear F108
          refine qg_off F109 rfl rfl rfl rfl rfl rfl rfl ?_; intro a110 F110; clear F109
          refine q_val F110 rfl rfl rfl (fun u hu => y_pickF F110 rfl rfl rfl) ?_; intro a111 F111; clear F110
          refine q_nil ?_; intro w112 H112
          refine c_then ?_
          refine x_condF F111 rfl ?_
          refine wp_skip ?_
          refine c_then ?_
          refine wp_seq ?_
          refine wp_seq ?_
          refine r_lit ?_
          refine s_val F111 rfl rfl rfl (y_fieldAddr F111 fld0 rfl rfl) ?_; intro a114 F114; clear F111
          refine s_val F114 rfl rfl rfl (y_load1 F114 plInt rfl rfl (((H112.blk 0 rfl).cell _).trans rfl)) ?_; intro a115 F115; clear F114
          refine s_val F115 rfl rfl rfl (y_fieldAddr F115 fld0 rfl rfl) ?_; intro a116 F116; clear F115
          refine s_val F116 rfl rfl rfl (y_load1 F116 plInt rfl rfl (((H112.blk 3 rfl).cell _).trans rfl)) ?_; intro a117 F117; clear F116
          refine s_val F117 rfl rfl rfl (y_neq F117 rfl rfl rfl) ?_; intro a118 F118; clear F117
          refine wpList_nil ?_
          refine c_then ?_
          refine x_condN F118 rfl (fun hnn => ?_) (fun hnn => ?_)
          · skip
            refine wp_exit ?_
            refine c_thenX ?_
            refine c_hit ?_
            refine c_then ?_
            refine r_lit ?_
            refine s_val F118 rfl rfl rfl (y_add F118 rfl rfl rfl (r := (((i : Nat) : Int)) + (1)) (wrap_i64 (by omega) (by omega) (by omega))) ?_; intro a120 F120; clear F118
            refine s_val F120 rfl rfl rfl (y_move F120 rfl rfl) ?_; intro a121 F121; clear F120
            refine wpList_nil ?_
            refine c_then ?_
            exact ⟨(i + 1, c), ⟨F121.cut _ ⟨rfl, rfl, rfl, rfl, rfl, rfl, rfl, trivial⟩, H112.pick [1, 2, 3] (by decide) rfl, by omega, by rw [cnt_succ v my, hc]; simp [hnn]⟩, by first | omega | (dsimp only; omega)⟩
          · skip
            refine wp_skip ?_
            refine c_then ?_
            refine wp_seq ?_
            refine r_lit ?_
            refine s_val F118 rfl rfl rfl (y_move F118 rfl rfl) ?_; intro a122 F122; clear F118
            refine s_val F122 rfl rfl rfl (y_add F122 rfl rfl rfl (r := (((c : Nat) : Int)) + (1)) (wrap_i64 (by omega) (by omega) (by omega))) ?_; intro a123 F123; clear F122
            refine s_val F123 rfl rfl rfl (y_assign F123 rfl rfl) ?_; intro a124 F124; clear F123
            refine wpList_nil ?_
            refine c_then ?_
            refine wp_seq ?_
            refine r_lit ?_
            refine s_val F124 rfl rfl rfl (y_loadA F124 aggVote rfl rfl ((H112.blk 0 rfl).row) (Vote.len_cells hy)) ?_; intro a125 F125; clear F124
            refine s_val F125 rfl rfl rfl (y_loadA F125 aggVote rfl rfl ((H112.blk 3 rfl).row) (Vote.len_cells hv)) ?_; intro a126 F126; clear F125
            refine s_val F126 rfl rfl rfl (y_binAgg F126 rfl rfl rfl ((run_eq_vote y v hy hv _ _ _ (decide (y = v)) (by simp)).2)) ?_; intro a127 F127; clear F126
            refine s_val F127 rfl rfl rfl (y_move F127 rfl rfl) ?_; intro a128 F128; clear F127
            refine g_splitB (k := 65) F128 rfl (fun hyv F129 => ?_) (fun hyv F129 => ?_)
            · clear F128
              simp only [Bool.not_eq_true', Bool.not_eq_false', decide_eq_true_eq, decide_eq_false_iff_not] at hyv
              refine g_on F129 rfl rfl rfl rfl ?_
              refine s_val F129 rfl rfl rfl (y_fieldAddr F129 fld1 rfl rfl) ?_; intro a130 F130; clear F129
              refine g_on F130 rfl rfl rfl rfl ?_
              refine s_val F130 rfl rfl rfl (y_load1 F130 plU64 rfl rfl (((H112.blk 0 rfl).cell _).trans rfl)) ?_; intro a131 F131; clear F130
              refine g_on F131 rfl rfl rfl rfl ?_
              refine s_val F131 rfl rfl rfl (y_fieldAddr F131 fld1 rfl rfl) ?_; intro a132 F132; clear F131
              refine g_on F132 rfl rfl rfl rfl ?_
              refine s_val F132 rfl rfl rfl (y_load1 F132 plU64 rfl rfl (((H112.blk 3 rfl).cell _).trans rfl)) ?_; intro a133 F133; clear F132
              refine g_on F133 rfl rfl rfl rfl ?_
              refine s_val F133 rfl rfl rfl (y_leq F133 rfl rfl rfl) ?_; intro a134 F134; clear F133
              refine s_val F134 rfl rfl rfl (y_pickT F134 rfl rfl rfl) ?_; intro a135 F135; clear F134
              refine wpList_nil ?_
              refine c_then ?_
              refine x_condP F135 rfl (fun hvw => ?_) (fun hvw => ?_)
              · skip
                exact absurd hvw (addV_node hau v (List.mem_of_getElem? my) hnn hyv)
              · skip
                refine wp_skip ?_
                refine c_blkN ?_
                refine c_then ?_
                refine r_lit ?_
                refine s_val F135 rfl rfl rfl (y_add F135 rfl rfl rfl (r := (((i : Nat) : Int)) + (1)) (wrap_i64 (by omega) (by omega) (by omega))) ?_; intro a137 F137; clear F135
                refine s_val F137 rfl rfl rfl (y_move F137 rfl rfl) ?_; intro a138 F138; clear F137
                refine wpList_nil ?_
                refine c_then ?_
                exact ⟨(i + 1, c + 1), ⟨F138.cut _ ⟨rfl, rfl, rfl, rfl, rfl, rfl, rfl, trivial⟩, H112.pick [1, 2, 3] (by decide) rfl, by omega, by rw [cnt_succ v my, hc]; simp [hnn]⟩, by first | omega | (dsimp only; omega)⟩
            · clear F128
              simp only [Bool.not_eq_true', Bool.not_eq_false', decide_eq_true_eq, decide_eq_false_iff_not] at hyv
              refine g_off F129 rfl rfl rfl rfl rfl rfl rfl ?_; intro a139 F139; clear F129
              refine g_off F139 rfl rfl rfl rfl rfl rfl rfl ?_; intro a140 F140; clear F139
              refine g_off F140 rfl rfl rfl rfl rfl rfl rfl ?_; intro a141 F141; clear F140
              refine g_off F141 rfl rfl rfl rfl rfl rfl rfl ?_; intro a142 F142; clear F141
              refine g_off F142 rfl rfl rfl rfl rfl rfl rfl ?_; intro a143 F143; clear F142
              refine s_val F143 rfl rfl rfl (y_pickF F143 rfl rfl rfl) ?_; intro a144 F144; clear F143
              refine wpList_nil ?_
              refine c_then ?_
              refine x_condF F144 rfl ?_
              refine wp_skip ?_
              refine c_blkN ?_
              refine c_then ?_
              refine r_lit ?_
              refine s_val F144 rfl rfl rfl (y_add F144 rfl rfl rfl (r := (((i : Nat) : Int)) + (1)) (wrap_i64 (by omega) (by omega) (by omega))) ?_; intro a146 F146; clear F144
              refine s_val F146 rfl rfl rfl (y_move F146 rfl rfl) ?_; intro a147 F147; clear F146
              refine wpList_nil ?_
              refine c_then ?_
              exact ⟨(i + 1, c + 1), ⟨F147.cut _ ⟨rfl, rfl, rfl, rfl, rfl, rfl, rfl, trivial⟩, H112.pick [1, 2, 3] (by decide) rfl, by omega, by rw [cnt_succ v my, hc]; simp [hnn]⟩, by first | omega | (dsimp only; omega)⟩
      · skip
        refine wp_exit ?_
        refine c_thenX ?_
        refine c_thenX ?_
        refine c_hit ?_
        refine c_then ?_
        refine wp_seq ?_
        refine wp_seq ?_
        have hc1 : c = 1 := by rw [hc, List.take_of_length_le (by omega)]; exact hone
        refine r_lit ?_
        refine s_val F41 rfl rfl rfl (y_move F41 rfl rfl) ?_; intro a148 F148; clear F41
        obtain ⟨p149, cap149, rfl, hcap149, hp149⟩ := H40.ownForm 1 rfl
        refine s_val F148 rfl rfl rfl (y_lenS F148 rfl Try.underlying22 rfl) ?_; intro a150 F150; clear F148
        refine s_val F150 rfl rfl rfl (y_move F150 rfl rfl) ?_; intro a151 F151; clear F150
        refine wpList_nil ?_
        refine c_then ?_
        refine wp_block ?_
        refine x_loop (G := Nat) (fun i2 a w' => Fr 121 a [(3, .pointer (some ⟨b1, 0, none⟩)), (5, .slice p149 ((addAll xs).length) cap149), (8, .slice p37 ((addV (addAll xs) v).length) cap37), (9, .int .i64 (((c : Nat) : Int))), (73, .slice p149 ((addAll xs).length) cap149), (74, .int .i64 (((((addAll xs).length) : Nat) : Int))), (75, .int .i64 (((i2 : Nat) : Int)))] ∧ St w w' [HP.own 28 37 (.slice p37 ((addV (addAll xs) v).length) cap37) ((addV (addAll xs) v).length) (votes (addV (addAll xs) v)), HP.own 28 37 (.slice p149 ((addAll xs).length) cap149) ((addAll xs).length) (votes (addAll xs)), HP.blk b1 (v.cells) 28] ∧ (i2 ≤ (addAll xs).length)) (fun i2 => (addAll xs).length - i2) 0 ⟨F151.cut _ ⟨rfl, rfl, rfl, rfl, rfl, rfl, rfl, trivial⟩, H40, Nat.zero_le _⟩ ?_
        clear F151
        rintro i2 a152 w152 ⟨F152, H152, hi2⟩
        refine wp_seq ?_
        refine r_lit ?_
        refine s_val F152 rfl rfl rfl (y_lss F152 rfl rfl rfl) ?_; intro a153 F153; clear F152
        refine wpList_nil ?_
        refine c_then ?_
        refine wp_seq ?_
        refine x_condP F153 rfl (fun hlt3 => ?_) (fun hlt3 => ?_)
        · skip
          refine wp_skip ?_
          refine c_then ?_
          refine wp_seq ?_
          refine wp_block ?_
          refine wp_seq ?_
          refine r_lit ?_
          obtain ⟨bb155, hpe155⟩ := hp149 (by omega)
          obtain ⟨x, mx⟩ : ∃ x, ((addAll xs))[i2]? = some x := ⟨_, List.getElem?_eq_getElem (by omega)⟩
          have hx := hall x (List.mem_of_getElem? mx)
          refine s_val F153 rfl rfl rfl (y_indexP F153 elemVote rfl rfl rfl hpe155 (by omega)) ?_; intro a157 F157; clear F153
          refine s_val F157 rfl rfl rfl (y_loadA F157 aggVote rfl rfl (Row.vote (H152.ownRowP 1 rfl hpe155) hall mx) (Vote.len_cells hx)) ?_; intro a158 F158; clear F157
          refine s_allocA F158 rfl rfl rfl aggVote rfl H152 ?_; intro b159 w159 a159 H159 F159; clear F158
          refine s_storeA F159 rfl rfl aggVote rfl rfl rfl H159 0 rfl (Vote.len_cells hx) (rfl) (Vote.flat x) ?_; intro w160 h160
          have H160 : St w w160 [HP.blk b159 (x.cells) 28, HP.own 28 37 (.slice p37 ((addV (addAll xs) v).length) cap37) ((addV (addAll xs) v).length) (votes (addV (addAll xs) v)), HP.own 28 37 (.slice p149 ((addAll xs).length) cap149) ((addAll xs).length) (votes (addAll xs)), HP.blk b1 (v.cells) 28] := h160
          clear h160
          refine wpList_nil ?_
          refine c_then ?_
          refine wp_seq ?_
          refine r_lit ?_
          refine s_val F159 rfl rfl rfl (y_move F159 rfl rfl) ?_; intro a161 F161; clear F159
          refine s_val F161 rfl rfl rfl (y_lenS F161 rfl Try.underlying22 rfl) ?_; intro a162 F162; clear F161
          refine s_val F162 rfl rfl rfl (y_move F162 rfl rfl) ?_; intro a163 F163; clear F162
          refine wpList_nil ?_
          refine c_then ?_
          refine wp_block ?_
          refine x_loop (G := Nat) (fun i3 a w' => Fr 121 a [(3, .pointer (some ⟨b1, 0, none⟩)), (5, .slice p149 ((addAll xs).length) cap149), (8, .slice p37 ((addV (addAll xs) v).length) cap37), (9, .int .i64 (((c : Nat) : Int))), (13, .pointer (some ⟨b159, 0, none⟩)), (73, .slice p149 ((addAll xs).length) cap149), (74, .int .i64 (((((addAll xs).length) : Nat) : Int))), (75, .int .i64 (((i2 : Nat) : Int))), (76, .bool (decide ((((i2 : Nat) : Int)) < (((((addAll xs).length) : Nat) : Int))))), (77, .pointer (some ⟨bb155, 0 + i2 * 37, none⟩)), (78, .agg (x.cells).toArray), (79, .slice p37 ((addV (addAll xs) v).length) cap37), (80, .int .i64 (((((addV (addAll xs) v).length) : Nat) : Int))), (81, .int .i64 (((i3 : Nat) : Int)))] ∧ St w w' [HP.blk b159 (x.cells) 28, HP.own 28 37 (.slice p37 ((addV (addAll xs) v).length) cap37) ((addV (addAll xs) v).length) (votes (addV (addAll xs) v)), HP.own 28 37 (.slice p149 ((addAll xs).length) cap149) ((addAll xs).length) (votes (addAll xs)), HP.blk b1 (v.cells) 28] ∧ (i3 ≤ (addV (addAll xs) v).length)) (fun i3 => (addV (addAll xs) v).length - i3) 0 ⟨F163.cut _ ⟨rfl, rfl, rfl, rfl, rfl, rfl, rfl, rfl, rfl, rfl, rfl, rfl, rfl, rfl, trivial⟩, H160, Nat.zero_le _⟩ ?_
          clear F163
          rintro i3 a164 w164 ⟨F164, H164, hi3⟩
          refine wp_seq ?_
          refine r_lit ?_
          refine s_val F164 rfl rfl rfl (y_lss F164 rfl rfl rfl) ?_; intro a165 F165; clear F164
          refine wpList_nil ?_
          refine c_then ?_
          refine wp_seq ?_
          refine x_condP F165 rfl (fun hlt4 => ?_) (fun hlt4 => ?_)
          · skip
            refine wp_skip ?_
            refine c_then ?_
            refine wp_seq ?_
            refine wp_block ?_
            refine wp_seq ?_
            refine r_lit ?_
            obtain ⟨bb167, hpe167⟩ := hp37 (by omega)
            obtain ⟨y, my⟩ : ∃ x, ((addV (addAll xs) v))[i3]? = some x := ⟨_, List.getElem?_eq_getElem (by omega)⟩
            have hy := how y (List.mem_of_getElem? my)
            refine s_val F165 rfl rfl rfl (y_indexP F165 elemVote rfl rfl rfl hpe167 (by omega)) ?_; intro a169 F169; clear F165
            refine s_val F169 rfl rfl rfl (y_loadA F169 aggVote rfl rfl (Row.vote (H164.ownRowP 1 rfl hpe167) how my) (Vote.len_cells hy)) ?_; intro a170 F170; clear F169
            refine s_allocA F170 rfl rfl rfl aggVote rfl H164 ?_; intro b171 w171 a171 H171 F171; clear F170
            refine s_storeA F171 rfl rfl aggVote rfl rfl rfl H171 0 rfl (Vote.len_cells hy) (rfl) (Vote.flat y) ?_; intro w172 h172
            have H172 : St w w172 [HP.blk b171 (y.cells) 28, HP.blk b159 (x.cells) 28, HP.own 28 37 (.slice p37 ((addV (addAll xs) v).length) cap37) ((addV (addAll xs) v).length) (votes (addV (addAll xs) v)), HP.own 28 37 (.slice p149 ((addAll xs).length) cap149) ((addAll xs).length) (votes (addAll xs)), HP.blk b1 (v.cells) 28] := h172
            clear h172
            refine wpList_nil ?_
            refine c_then ?_
            refine wp_seq ?_
            refine r_lit ?_
            refine s_val F171 rfl rfl rfl (y_fieldAddr F171 fld0 rfl rfl) ?_; intro a173 F173; clear F171
            refine s_val F173 rfl rfl rfl (y_load1 F173 plInt rfl rfl (((H172.blk 1 rfl).cell _).trans rfl)) ?_; intro a174 F174; clear F173
            refine s_val F174 rfl rfl rfl (y_fieldAddr F174 fld0 rfl rfl) ?_; intro a175 F175; clear F174
            refine s_val F175 rfl rfl rfl (y_load1 F175 plInt rfl rfl (((H172.blk 0 rfl).cell _).trans rfl)) ?_; intro a176 F176; clear F175
            refine s_val F176 rfl rfl rfl (y_eql F176 rfl rfl rfl) ?_; intro a177 F177; clear F176
            refine s_val F177 rfl rfl rfl (y_move F177 rfl rfl) ?_; intro a178 F178; clear F177
            refine g_split (k := 90) F178 rfl (fun hxy F179 => ?_) (fun hxy F179 => ?_)
            · clear F178
              refine g_on F179 rfl rfl rfl rfl ?_
              refine s_val F179 rfl rfl rfl (y_fieldAddr F179 fld0 rfl rfl) ?_; intro a180 F180; clear F179
              refine g_on F180 rfl rfl rfl rfl ?_
              refine s_val F180 rfl rfl rfl (y_load1 F180 plInt rfl rfl (((H172.blk 1 rfl).cell _).trans rfl)) ?_; intro a181 F181; clear F180
              refine g_on F181 rfl rfl rfl rfl ?_
              refine s_val F181 rfl rfl rfl (y_fieldAddr F181 fld0 rfl rfl) ?_; intro a182 F182; clear F181
              refine g_on F182 rfl rfl rfl rfl ?_
              refine s_val F182 rfl rfl rfl (y_load1 F182 plInt rfl rfl (((H172.blk 4 rfl).cell _).trans rfl)) ?_; intro a183 F183; clear F182
              refine g_on F183 rfl rfl rfl rfl ?_
              refine s_val F183 rfl rfl rfl (y_neq F183 rfl rfl rfl) ?_; intro a184 F184; clear F183
              refine s_val F184 rfl rfl rfl (y_pickT F184 rfl rfl rfl) ?_; intro a185 F185; clear F184
              refine s_val F185 rfl rfl rfl (y_move F185 rfl rfl) ?_; intro a186 F186; clear F185
              refine g_splitB (k := 97) F186 rfl (fun hxv F187 => ?_) (fun hxv F187 => ?_)
              · clear F186
                simp only [Bool.not_eq_true', Bool.not_eq_false', decide_eq_true_eq, decide_eq_false_iff_not] at hxv
                refine g_on F187 rfl rfl rfl rfl ?_
                refine s_val F187 rfl rfl rfl (y_loadA F187 aggVote rfl rfl ((H172.blk 1 rfl).row) (Vote.len_cells hx)) ?_; intro a188 F188; clear F187
                refine g_on F188 rfl rfl rfl rfl ?_
                refine s_val F188 rfl rfl rfl (y_loadA F188 aggVote rfl rfl ((H172.blk 0 rfl).row) (Vote.len_cells hy)) ?_; intro a189 F189; clear F188
                refine g_on F189 rfl rfl rfl rfl ?_
                refine s_val F189 rfl rfl rfl (y_binAgg F189 rfl rfl rfl ((run_eq_vote x y hx hy _ _ _ (decide (x = y)) (by simp)).2)) ?_; intro a190 F190; clear F189
                refine s_val F190 rfl rfl rfl (y_pickT F190 rfl rfl rfl) ?_; intro a191 F191; clear F190
                refine wpList_nil ?_
                refine c_then ?_
                refine x_condN F191 rfl (fun hne => ?_) (fun hne => ?_)
                · skip
                  exact absurd (addV_stay hau v (List.mem_of_getElem? mx) (List.mem_of_getElem? my) hxy hxv) hne
                · skip
                  refine wp_skip ?_
                  refine c_blkN ?_
                  refine c_then ?_
                  refine r_lit ?_
                  refine s_val F191 rfl rfl rfl (y_add F191 rfl rfl rfl (r := (((i3 : Nat) : Int)) + (1)) (wrap_i64 (by omega) (by omega) (by omega))) ?_; intro a193 F193; clear F191
                  refine s_val F193 rfl rfl rfl (y_move F193 rfl rfl) ?_; intro a194 F194; clear F193
                  refine wpList_nil ?_
                  refine c_then ?_
                  exact ⟨i3 + 1, ⟨F194.cut _ ⟨rfl, rfl, rfl, rfl, rfl, rfl, rfl, rfl, rfl, rfl, rfl, rfl, rfl, rfl, trivial⟩, H172.pick [1, 2, 3, 4] (by decide) rfl, by omega⟩, by first | omega | (dsimp only; omega)⟩
              · clear F186
                simp only [Bool.not_eq_true', Bool.not_eq_false', decide_eq_true_eq, decide_eq_false_iff_not] at hxv
                refine g_off F187 rfl rfl rfl rfl rfl rfl rfl ?_; intro a195 F195; clear F187
                refine g_off F195 rfl rfl rfl rfl rfl rfl rfl ?_; intro a196 F196; clear F195
                refine g_off F196 rfl rfl rfl rfl rfl rfl rfl ?_; intro a197 F197; clear F196
                refine s_val F197 rfl rfl rfl (y_pickF F197 rfl rfl rfl) ?_; intro a198 F198; clear F197
                refine wpList_nil ?_
                refine c_then ?_
                refine x_condF F198 rfl ?_
                refine wp_skip ?_
                refine c_blkN ?_
                refine c_then ?_
                refine r_lit ?_
                refine s_val F198 rfl rfl rfl (y_add F198 rfl rfl rfl (r := (((i3 : Nat) : Int)) + (1)) (wrap_i64 (by omega) (by omega) (by omega))) ?_; intro a200 F200; clear F198
                refine s_val F200 rfl rfl rfl (y_move F200 rfl rfl) ?_; intro a201 F201; clear F200
                refine wpList_nil ?_
                refine c_then ?_
                exact ⟨i3 + 1, ⟨F201.cut _ ⟨rfl, rfl, rfl, rfl, rfl, rfl, rfl, rfl, rfl, rfl, rfl, rfl, rfl, rfl, trivial⟩, H172.pick [1, 2, 3, 4] (by decide) rfl, by omega⟩, by first | omega | (dsimp only; omega)⟩
            · clear F178
              refine g_off F179 rfl rfl rfl rfl rfl rfl rfl ?_; intro a202 F202; clear F179
              refine g_off F202 rfl rfl rfl rfl rfl rfl rfl ?_; intro a203 F203; clear F202
              refine g_off F203 rfl rfl rfl rfl rfl rfl rfl ?_; intro a204 F204; clear F203
              refine g_off F204 rfl rfl rfl rfl rfl rfl rfl ?_; intro a205 F205; clear F204
              refine g_off F205 rfl rfl rfl rfl rfl rfl rfl ?_; intro a206 F206; clear F205
              refine s_val F206 rfl rfl rfl (y_pickF F206 rfl rfl rfl) ?_; intro a207 F207; clear F206
              refine s_val F207 rfl rfl rfl (y_move F207 rfl rfl) ?_; intro a208 F208; clear F207
              refine g_off F208 rfl rfl rfl rfl rfl rfl rfl ?_; intro a209 F209; clear F208
              refine g_off F209 rfl rfl rfl rfl rfl rfl rfl ?_; intro a210 F210; clear F209
              refine g_off F210 rfl rfl rfl rfl rfl rfl rfl ?_; intro a211 F211; clear F210
              refine s_val F211 rfl rfl rfl (y_pickF F211 rfl rfl rfl) ?_; intro a212 F212; clear F211
              refine wpList_nil ?_
              refine c_then ?_
              refine x_condF F212 rfl ?_
              refine wp_skip ?_
              refine c_blkN ?_
              refine c_then ?_
              refine r_lit ?_
              refine s_val F212 rfl rfl rfl (y_add F212 rfl rfl rfl (r := (((i3 : Nat) : Int)) + (1)) (wrap_i64 (by omega) (by omega) (by omega))) ?_; intro a214 F214; clear F212
              refine s_val F214 rfl rfl rfl (y_move F214 rfl rfl) ?_; intro a215 F215; clear F214
              refine wpList_nil ?_
              refine c_then ?_
              exact ⟨i3 + 1, ⟨F215.cut _ ⟨rfl, rfl, rfl, rfl, rfl, rfl, rfl, rfl, rfl, rfl, rfl, rfl, rfl, rfl, trivial⟩, H172.pick [1, 2, 3, 4] (by decide) rfl, by omega⟩, by first | omega | (dsimp only; omega)⟩
          · skip
            refine wp_exit ?_
            refine c_thenX ?_
            refine c_thenX ?_
            refine c_hit ?_
            refine c_blkN ?_
            refine c_then ?_
            refine r_lit ?_
            refine s_val F165 rfl rfl rfl (y_add F165 rfl rfl rfl (r := (((i2 : Nat) : Int)) + (1)) (wrap_i64 (by omega) (by omega) (by omega))) ?_; intro a216 F216; clear F165
            refine s_val F216 rfl rfl rfl (y_move F216 rfl rfl) ?_; intro a217 F217; clear F216
            refine wpList_nil ?_
            refine c_then ?_
            exact ⟨i2 + 1, ⟨F217.cut _ ⟨rfl, rfl, rfl, rfl, rfl, rfl, rfl, trivial⟩, H164.pick [1, 2, 3] (by decide) rfl, by omega⟩, by first | omega | (dsimp only; omega)⟩
        · skip
          refine wp_exit ?_
          refine c_thenX ?_
          refine c_thenX ?_
          refine c_hit ?_
          refine c_then ?_
          refine wp_seq ?_
          refine r_lit ?_
          refine s_val F153 rfl rfl rfl (y_move F153 rfl rfl) ?_; intro a218 F218; clear F153
          refine s_val F218 rfl rfl rfl (y_eql F218 rfl rfl rfl) ?_; intro a219 F219; clear F218
          refine s_val F219 rfl rfl rfl (y_move F219 rfl rfl) ?_; intro a220 F220; clear F219
          refine g_split (k := 106) F220 rfl (fun hfd F221 => ?_) (fun hfd F221 => ?_)
          · clear F220
            refine g_on F221 rfl rfl rfl rfl ?_
            refine s_val F221 rfl rfl rfl (y_move F221 rfl rfl) ?_; intro a222 F222; clear F221
            refine g_on F222 rfl rfl rfl rfl ?_
            refine s_val F222 rfl rfl rfl (y_lenS F222 rfl Try.underlying22 rfl) ?_; intro a223 F223; clear F222
            refine g_on F223 rfl rfl rfl rfl ?_
            refine s_val F223 rfl rfl rfl (y_move F223 rfl rfl) ?_; intro a224 F224; clear F223
            refine g_on F224 rfl rfl rfl rfl ?_
            refine s_val F224 rfl rfl rfl (y_lenS F224 rfl Try.underlying22 rfl) ?_; intro a225 F225; clear F224
            refine g_on F225 rfl rfl rfl rfl ?_
            refine s_val F225 rfl rfl rfl (y_eql F225 rfl rfl rfl) ?_; intro a226 F226; clear F225
            refine g_on F226 rfl rfl rfl rfl ?_
            refine s_val F226 rfl rfl rfl (y_move F226 rfl rfl) ?_; intro a227 F227; clear F226
            refine g_split (k := 112) F227 rfl (fun hl1 F228 => ?_) (fun hl1 F228 => ?_)
            · clear F227
              refine g_off F228 rfl rfl rfl rfl rfl rfl rfl ?_; intro a229 F229; clear F228
              refine g_off F229 rfl rfl rfl rfl rfl rfl rfl ?_; intro a230 F230; clear F229
              refine g_off F230 rfl rfl rfl rfl rfl rfl rfl ?_; intro a231 F231; clear F230
              refine g_off F231 rfl rfl rfl rfl rfl rfl rfl ?_; intro a232 F232; clear F231
              refine g_off F232 rfl rfl rfl rfl rfl rfl rfl ?_; intro a233 F233; clear F232
              refine g_off F233 rfl rfl rfl rfl rfl rfl rfl ?_; intro a234 F234; clear F233
              refine g_on F234 rfl rfl rfl rfl ?_
              refine s_val F234 rfl rfl rfl (y_pickT F234 rfl rfl rfl) ?_; intro a235 F235; clear F234
              refine s_val F235 rfl rfl rfl (y_pickT F235 rfl rfl rfl) ?_; intro a236 F236; clear F235
              refine s_val F236 rfl rfl rfl (y_assign F236 rfl rfl) ?_; intro a237 F237; clear F236
              refine wpList_nil ?_
              refine c_then ?_
              refine wp_ret ?_
              refine x_ret1 F237 rfl rfl ?_
              exact ⟨rfl, H152.below⟩
            · clear F227
              refine g_on F228 rfl rfl rfl rfl ?_
              refine s_val F228 rfl rfl rfl (y_move F228 rfl rfl) ?_; intro a238 F238; clear F228
              refine g_on F238 rfl rfl rfl rfl ?_
              refine s_val F238 rfl rfl rfl (y_lenS F238 rfl Try.underlying22 rfl) ?_; intro a239 F239; clear F238
              refine g_on F239 rfl rfl rfl rfl ?_
              refine s_val F239 rfl rfl rfl (y_move F239 rfl rfl) ?_; intro a240 F240; clear F239
              refine g_on F240 rfl rfl rfl rfl ?_
              refine s_val F240 rfl rfl rfl (y_lenS F240 rfl Try.underlying22 rfl) ?_; intro a241 F241; clear F240
              refine g_on F241 rfl rfl rfl rfl ?_
              refine s_val F241 rfl rfl rfl (y_add F241 rfl rfl rfl (r := (((((addAll xs).length) : Nat) : Int)) + (1)) (wrap_i64 (by omega) (by omega) (by omega))) ?_; intro a242 F242; clear F241
              refine g_on F242 rfl rfl rfl rfl ?_
              refine s_val F242 rfl rfl rfl (y_eql F242 rfl rfl rfl) ?_; intro a243 F243; clear F242
              refine g_on F243 rfl rfl rfl rfl ?_
              refine s_val F243 rfl rfl rfl (y_pickF F243 rfl rfl rfl) ?_; intro a244 F244; clear F243
              refine s_val F244 rfl rfl rfl (y_pickT F244 rfl rfl rfl) ?_; intro a245 F245; clear F244
              refine s_val F245 rfl rfl rfl (y_assign F245 rfl rfl) ?_; intro a246 F246; clear F245
              refine wpList_nil ?_
              refine c_then ?_
              refine wp_ret ?_
              refine x_ret1 F246 rfl rfl ?_
              refine ⟨ret_bool (decide_eq_true ?_), H152.below⟩
              omega
          · clear F220
            exact (hfd (by omega)).elim
end Go.Proofs.Ytoohllmhlbgamaa
