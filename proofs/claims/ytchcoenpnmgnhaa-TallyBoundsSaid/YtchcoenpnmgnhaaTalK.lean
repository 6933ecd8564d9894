/- The law TallyBounds. -/
import Derived.Test.YtchcoenpnmgnhaaTalH
import Derived.Test.YtchcoenpnmgnhaaTalS
set_option linter.unusedSimpArgs false
set_option linter.unusedVariables false
namespace Go.Proofs.Ytchcoenpnmgnhaa
open Go.ChangeShapes Go.WideShapes Go.ChangeAt Go.RowKit Go.Tri
set_option maxRecDepth 100000 in
set_option maxHeartbeats 2000000 in
theorem lawBounds (gs : List Int) (hgb : ∀ g ∈ gs, 0 ≤ g ∧ g ≤ 18446744073709551615) (hm : gs.length ≤ 9223372036854775807) (s : Value) (w : World) (hs : Sl w s gs.length (rows (inC .u64) gs)) :
    Calls Try.prog 6 [s].toArray w (fun e w' => e = .returned (.bool true) ∧ Below w.heap.size w w') := by
  have hs0 := hs
  obtain ⟨p, cp, rfl, hp⟩ := hs0.form
  refine x_enter Try.func6 rfl rfl rfl ?_
  intro a0 F0
  replace F0 : Fr ⟨79, []⟩ a0 [(0, .slice p gs.length cp)] := F0
  have H0 := St.nil w
  refine wp_seq ?_
  refine r_lit ?_
  refine s_val wkP F0 rfl rfl rfl rfl (y_assign F0 rfl rfl) ?_; intro a1 F1; clear F0
  refine wpList_nil ?_
  refine c_then ?_
  refine wp_seq ?_
  refine wp_seq ?_
  refine r_lit ?_
  refine s_callV wkP F1 rfl rfl rfl rfl (y_call F1 rfl rfl ent8) (speaks _) ?_; intro w2 a2 hR2 F2; clear F1
  have H2 : St w w2 [] := H0.call hR2
  refine s_val wkP F2 rfl rfl rfl rfl (y_not F2 rfl rfl) ?_; intro a3 F3; clear F2
  refine wpList_nil ?_
  refine c_then ?_
  refine x_condF F3 rfl ?_
  refine wp_skip ?_
  refine c_then ?_
  refine wp_seq ?_
  refine wp_seq ?_
  refine r_lit ?_
  refine s_val wkP F3 rfl rfl rfl rfl (y_move F3 rfl rfl) ?_; intro a5 F5; clear F3
  refine s_val wkP F5 rfl rfl rfl rfl (y_lenS F5 rfl Try.underlying33 rfl) ?_; intro a6 F6; clear F5
  refine s_val wkP F6 rfl rfl rfl rfl (y_gtr F6 rfl rfl rfl) ?_; intro a7 F7; clear F6
  refine s_val wkP F7 rfl rfl rfl rfl (y_move F7 rfl rfl) ?_; intro a8 F8; clear F7
  refine g_split (k := 17) F8 rfl (fun hl7 F9 => ?_) (fun hl7 F9 => ?_)
  · clear F8
    refine g_off wkP F9 rfl rfl rfl rfl rfl rfl rfl ?_; intro a10 F10; clear F9
    refine g_off wkP F10 rfl rfl rfl rfl rfl rfl rfl ?_; intro a11 F11; clear F10
    refine g_off wkP F11 rfl rfl rfl rfl rfl rfl rfl ?_; intro a12 F12; clear F11
    refine s_val wkP F12 rfl rfl rfl rfl (y_pickT F12 rfl rfl rfl) ?_; intro a13 F13; clear F12
    refine wpList_nil ?_
    refine c_then ?_
    refine x_condT F13 rfl ?_
    refine wp_seq ?_
    refine r_lit ?_
    refine s_val wkP F13 rfl rfl rfl rfl (y_assign F13 rfl rfl) ?_; intro a15 F15; clear F13
    refine wpList_nil ?_
    refine c_then ?_
    refine wp_ret ?_
    refine c_thenR ?_
    refine x_ret1 F15 rfl rfl ?_
    exact ⟨rfl, H2.below⟩
  · clear F8
    refine g_onP F9 rfl rfl rfl rfl ?_
    refine s_val wkP F9 rfl rfl rfl rfl (y_move F9 rfl rfl) ?_; intro a16 F16; clear F9
    refine g_onP F16 rfl rfl rfl rfl ?_
    refine s_val wkP F16 rfl rfl rfl rfl (y_lenS F16 rfl Try.underlying33 rfl) ?_; intro a17 F17; clear F16
    refine g_onP F17 rfl rfl rfl rfl ?_
    refine s_val wkP F17 rfl rfl rfl rfl (y_eql F17 rfl rfl rfl) ?_; intro a18 F18; clear F17
    refine s_val wkP F18 rfl rfl rfl rfl (y_pickF F18 rfl rfl rfl) ?_; intro a19 F19; clear F18
    refine wpList_nil ?_
    refine c_then ?_
    refine x_condP F19 rfl (fun hl => ?_) (fun hl => ?_)
    · skip
      refine wp_seq ?_
      refine r_lit ?_
      refine s_val wkP F19 rfl rfl rfl rfl (y_assign F19 rfl rfl) ?_; intro a21 F21; clear F19
      refine wpList_nil ?_
      refine c_then ?_
      refine wp_ret ?_
      refine c_thenR ?_
      refine x_ret1 F21 rfl rfl ?_
      exact ⟨rfl, H2.below⟩
    · skip
      refine wp_skip ?_
      refine c_then ?_
      refine wp_seq ?_
      refine mix_region [0] [(0, 1), (0, 2), (0, 3), (0, 4), (0, 5), (0, 6), (2, 0), (0, 7), (0, 8), (0, 9)] (fun u => ∃ ls, St w u ls) (by kernel_rfl) (by kernel_rfl) ⟨_, H2.drew⟩ ?_
      have H22 := H2.drew
      generalize w2.drew = w22 at H22 ⊢
      refine m_pure F19 rfl rfl rfl rfl (fun u hu => y_move F19 rfl rfl) ?_; intro a23 F23; clear F19
      obtain ⟨bb24, of24, hpe24, hrow24⟩ := hp (by omega)
      obtain ⟨x0, mx0⟩ : ∃ x, (gs)[0]? = some x := ⟨_, List.getElem?_eq_getElem (by first | omega | (simp only [List.length_set]; omega))⟩
      refine m_pure F23 rfl rfl rfl rfl (fun u hu => y_indexP F23 elemU64 rfl rfl (i := 0) rfl hpe24 (by omega)) ?_; intro a26 F26; clear F23
      refine m_pure F26 rfl rfl rfl rfl (fun u hu => y_load1 F26 plU64 rfl rfl (Row.elem (inC_len .u64) (hrow24.st hu.choose_spec) (fun _ _ => trivial) mx0 0 _ rfl)) ?_; intro a27 F27; clear F26
      refine m_pure F27 rfl rfl rfl rfl (fun u hu => y_move F27 rfl rfl) ?_; intro a28 F28; clear F27
      refine m_pure F28 rfl rfl rfl rfl (fun u hu => y_indexP F28 elemU64 rfl rfl (i := 0) rfl hpe24 (by omega)) ?_; intro a29 F29; clear F28
      refine m_pure F29 rfl rfl rfl rfl (fun u hu => y_load1 F29 plU64 rfl rfl (Row.elem (inC_len .u64) (hrow24.st hu.choose_spec) (fun _ _ => trivial) mx0 0 _ rfl)) ?_; intro a30 F30; clear F29
      refine m_heavy rfl rfl ?_
      refine s_build0 wkP F30 rfl rfl rfl elemMark rfl H22 ?_; intro s31 w31 a31 H31 F31; clear F30
      refine wpList_nil ?_; refine c_then ⟨⟨_, H31⟩, ?_⟩
      refine m_pure F31 rfl rfl rfl rfl (fun u hu => y_assign F31 rfl rfl) ?_; intro a32 F32; clear F31
      refine m_pure F32 rfl rfl rfl rfl (fun u hu => y_assign F32 rfl rfl) ?_; intro a33 F33; clear F32
      refine m_pure F33 rfl rfl rfl rfl (fun u hu => y_assign F33 rfl rfl) ?_; intro a34 F34; clear F33
      refine m_nil ?_
      refine c_then ?_
      refine wp_seq ?_
      refine wp_seq ?_
      refine r_lit ?_
      refine s_val wkP F34 rfl rfl rfl rfl (y_move F34 rfl rfl) ?_; intro a35 F35; clear F34
      refine s_val wkP F35 rfl rfl rfl rfl (y_lenS F35 rfl Try.underlying33 rfl) ?_; intro a36 F36; clear F35
      refine s_val wkP F36 rfl rfl rfl rfl (y_move F36 rfl rfl) ?_; intro a37 F37; clear F36
      refine wpList_nil ?_
      refine c_then ?_
      refine wp_block ?_
      refine x_loop (G := Nat × Value × Int × Int) (fun gg aa ww => match gg with | (k, s, lo, hi) => Fr ⟨79, []⟩ aa [(0, .slice p gs.length cp), (2, .bool false), (29, .slice p gs.length cp), (30, .int .i64 (((gs.length : Nat) : Int))), (3, s), (4, .int .u64 (lo)), (5, .int .u64 (hi)), (31, .int .i64 (((k : Nat) : Int)))] ∧ St w ww [HP.own 28 2 s ((addAll (marksL (gs.take (k)))).length) (rows Mrk.cells (addAll (marksL (gs.take (k)))))] ∧ (k ≤ gs.length) ∧ (∀ g ∈ gs.take k, lo ≤ g) ∧ (∀ g ∈ gs.take k, g ≤ hi)) (fun gg => match gg with | (k, s, lo, hi) => gs.length - k) (0, s31, x0, x0) ⟨F37.cut _ ⟨rfl, rfl, rfl, rfl, rfl, rfl, rfl, rfl, trivial⟩, H31, Nat.zero_le _, by simp, by simp⟩ ?_
      clear F37
      rintro ⟨k, s, lo, hi⟩ a38 w38 ⟨F38, H38, hk, hlo, hhi⟩
      refine wp_seq ?_
      refine r_lit ?_
      refine s_val wkP F38 rfl rfl rfl rfl (y_lss F38 rfl rfl rfl) ?_; intro a39 F39; clear F38
      refine wpList_nil ?_
      refine c_then ?_
      refine wp_seq ?_
      refine x_condP F39 rfl (fun hlt => ?_) (fun hlt => ?_)
      · skip
        refine wp_skip ?_
        refine c_then ?_
        refine wp_seq ?_
        refine wp_block ?_
        refine wp_seq ?_
        have hmk : (marksL (gs.take k)).length = k := by rw [marksL_len, List.length_take]; omega
        have hwk : ∀ x ∈ marksL (gs.take k), x.wf := marksL_wf (fun g hg => hgb g (List.mem_of_mem_take hg)) (by rw [List.length_take]; omega)
        refine r_lit ?_
        refine s_val wkP F39 rfl rfl rfl rfl (y_move F39 rfl rfl) ?_; intro a41 F41; clear F39
        obtain ⟨x, mx⟩ : ∃ x, (gs)[k]? = some x := ⟨_, List.getElem?_eq_getElem (by first | omega | (simp only [List.length_set]; omega))⟩
        refine s_val wkP F41 rfl rfl rfl rfl (y_indexP F41 elemU64 rfl rfl rfl hpe24 (by omega)) ?_; intro a43 F43; clear F41
        refine s_val wkP F43 rfl rfl rfl rfl (y_load1 F43 plU64 rfl rfl (Row.elem (inC_len .u64) (hrow24.st H38) (fun _ _ => trivial) mx 0 _ rfl)) ?_; intro a44 F44; clear F43
        refine s_val wkP F44 rfl rfl rfl rfl (y_assign F44 rfl rfl) ?_; intro a45 F45; clear F44
        refine s_val wkP F45 rfl rfl rfl rfl (y_assign F45 rfl rfl) ?_; intro a46 F46; clear F45
        refine wpList_nil ?_
        refine c_then ?_
        refine wp_seq ?_
        have hxb := hgb x (List.mem_of_getElem? mx)
        refine r_lit ?_
        refine s_val wkP F46 rfl rfl rfl rfl (y_move F46 rfl rfl) ?_; intro a47 F47; clear F46
        refine s_val wkP F47 rfl rfl rfl rfl (y_move F47 rfl rfl) ?_; intro a48 F48; clear F47
        refine s_val wkP F48 rfl rfl rfl rfl (y_move F48 rfl rfl) ?_; intro a49 F49; clear F48
        obtain ⟨y, eqy⟩ : ∃ qq, qq = Mrk.mk (((k : Nat) : Int)) (x) := ⟨_, rfl⟩
        have hy : y.wf := by rw [eqy]; exact mrk_wf (by omega) (by omega) (by omega) (by omega)
        refine s_val wkP F49 rfl rfl rfl rfl (y_build F49 rfl rfl (cs := y.cells) (by rw [eqy]; kernel_rfl)) ?_; intro a51 F51; clear F49
        refine s_call wkP F51 rfl rfl rfl rfl (y_call F51 rfl rfl ent11) (add _ (addAll_wf _ hwk) (by have := addAll_len (marksL (gs.take k)); omega) _ y hy _ (H38.sl 0 rfl)) ?_; intro s2 w52 a52 hR52 F52; clear F51
        rw [eqy, ← addAll_snoc, ← marksL_succ mx] at hR52
        have H52 : St w w52 [HP.own 28 2 s2 ((addAll (marksL (gs.take (k + 1)))).length) (rows Mrk.cells (addAll (marksL (gs.take (k + 1)))))] := (H38.call hR52).pick [0] (by decide) rfl
        refine s_val wkP F52 rfl rfl rfl rfl (y_assign F52 rfl rfl) ?_; intro a53 F53; clear F52
        refine wpList_nil ?_
        refine c_then ?_
        refine r_lit ?_
        refine s_val wkP F53 rfl rfl rfl rfl (y_move F53 rfl rfl) ?_; intro a54 F54; clear F53
        refine s_val wkP F54 rfl rfl rfl rfl (y_move F54 rfl rfl) ?_; intro a55 F55; clear F54
        refine s_val wkP F55 rfl rfl rfl rfl (y_min F55 rfl rfl rfl (r := min (lo) (x)) (rfl)) ?_; intro a56 F56; clear F55
        refine s_val wkP F56 rfl rfl rfl rfl (y_move F56 rfl rfl) ?_; intro a57 F57; clear F56
        refine s_val wkP F57 rfl rfl rfl rfl (y_move F57 rfl rfl) ?_; intro a58 F58; clear F57
        refine s_val wkP F58 rfl rfl rfl rfl (y_max F58 rfl rfl rfl (r := max (hi) (x)) (rfl)) ?_; intro a59 F59; clear F58
        refine s_val wkP F59 rfl rfl rfl rfl (y_assign F59 rfl rfl) ?_; intro a60 F60; clear F59
        refine s_val wkP F60 rfl rfl rfl rfl (y_assign F60 rfl rfl) ?_; intro a61 F61; clear F60
        refine wpList_nil ?_
        refine c_blkN ?_
        refine c_then ?_
        refine r_lit ?_
        refine s_val wkP F61 rfl rfl rfl rfl (y_add F61 rfl rfl rfl (r := (((k : Nat) : Int)) + (1)) (wrap_i64 (by omega) (by omega) (by omega))) ?_; intro a62 F62; clear F61
        refine s_val wkP F62 rfl rfl rfl rfl (y_move F62 rfl rfl) ?_; intro a63 F63; clear F62
        refine wpList_nil ?_
        refine c_then ?_
        exact ⟨(k + 1, s2, min lo x, max hi x), ⟨F63.cut _ ⟨rfl, rfl, rfl, rfl, rfl, rfl, rfl, rfl, trivial⟩, H52, by omega, take_all mx (fun g hg => by have := hlo g hg; omega) (by omega), take_all mx (fun g hg => by have := hhi g hg; omega) (by omega)⟩, by first | omega | (dsimp only; omega)⟩
      · skip
        refine wp_exit ?_
        refine c_thenX ?_
        refine c_thenX ?_
        refine c_hit ?_
        refine c_then ?_
        refine wp_seq ?_
        obtain rfl : k = gs.length := by omega
        simp only [List.take_length] at H38 hlo hhi
        refine r_lit ?_
        refine s_val wkP F39 rfl rfl rfl rfl (y_move F39 rfl rfl) ?_; intro a64 F64; clear F39
        refine s_val wkP F64 rfl rfl rfl rfl (y_move F64 rfl rfl) ?_; intro a65 F65; clear F64
        refine s_val wkP F65 rfl rfl rfl rfl (y_lenS F65 rfl Try.underlying33 rfl) ?_; intro a66 F66; clear F65
        refine s_call wkP F66 rfl rfl rfl rfl (y_call F66 rfl rfl ent9) (commit (addAll (marksL gs)) (addAll_wf _ (marksL_wf hgb (by omega))) (by have h1 := addAll_len (marksL gs); rw [marksL_len] at h1; omega) (by have h2 := cmap_len (addAll (marksL gs)); have h1 := addAll_len (marksL gs); rw [marksL_len] at h1; omega) ((gs.length : Nat) : Int) (by omega) (by omega) _ _ (H38.sl 0 rfl)) ?_; intro vc w67 a67 hR67 F67; clear F66
        obtain ⟨c, rfl, hc, hE⟩ := hR67
        have H67 : St w w67 [HP.own 28 2 s ((addAll (marksL gs)).length) (rows Mrk.cells (addAll (marksL gs)))] := H38.call hE
        rw [vals_marksL hgb (by omega)] at hc
        have hcb := com_bounds hc (by omega) hlo hhi
        refine s_val wkP F67 rfl rfl rfl rfl (y_assign F67 rfl rfl) ?_; intro a68 F68; clear F67
        refine wpList_nil ?_
        refine c_then ?_
        refine wp_seq ?_
        refine r_lit ?_
        refine s_val wkP F68 rfl rfl rfl rfl (y_assign F68 rfl rfl) ?_; intro a69 F69; clear F68
        refine wpList_nil ?_
        refine c_then ?_
        refine wp_seq ?_
        refine wp_seq ?_
        refine r_lit ?_
        refine s_val wkP F69 rfl rfl rfl rfl (y_move F69 rfl rfl) ?_; intro a70 F70; clear F69
        refine s_val wkP F70 rfl rfl rfl rfl (y_lenS F70 rfl Try.underlying33 rfl) ?_; intro a71 F71; clear F70
        refine s_val wkP F71 rfl rfl rfl rfl (y_move F71 rfl rfl) ?_; intro a72 F72; clear F71
        refine wpList_nil ?_
        refine c_then ?_
        refine wp_block ?_
        refine x_loop (G := Nat × Nat) (fun gg aa ww => match gg with | (k2, n2) => Fr ⟨79, []⟩ aa [(0, .slice p gs.length cp), (2, .bool false), (4, .int .u64 (lo)), (5, .int .u64 (hi)), (8, .int .u64 (c)), (52, .slice p gs.length cp), (53, .int .i64 (((gs.length : Nat) : Int))), (9, .int .i64 (((n2 : Nat) : Int))), (54, .int .i64 (((k2 : Nat) : Int)))] ∧ St w ww [HP.own 28 2 s ((addAll (marksL gs)).length) (rows Mrk.cells (addAll (marksL gs)))] ∧ (k2 ≤ gs.length) ∧ (n2 = cnt c (gs.take k2))) (fun gg => match gg with | (k2, n2) => gs.length - k2) (0, 0) ⟨F72.cut _ ⟨rfl, rfl, rfl, rfl, rfl, rfl, rfl, rfl, rfl, trivial⟩, H67, Nat.zero_le _, rfl⟩ ?_
        clear F72
        rintro ⟨k2, n2⟩ a73 w73 ⟨F73, H73, hk2, hn2⟩
        refine wp_seq ?_
        refine r_lit ?_
        refine s_val wkP F73 rfl rfl rfl rfl (y_lss F73 rfl rfl rfl) ?_; intro a74 F74; clear F73
        refine wpList_nil ?_
        refine c_then ?_
        refine wp_seq ?_
        refine x_condP F74 rfl (fun hlt2 => ?_) (fun hlt2 => ?_)
        · skip
          refine wp_skip ?_
          refine c_then ?_
          refine wp_seq ?_
          refine wp_block ?_
          refine wp_seq ?_
          have hcl : cnt c (gs.take k2) ≤ (gs.take k2).length := List.countP_le_length
          rw [List.length_take] at hcl
          refine r_lit ?_
          obtain ⟨x, mx⟩ : ∃ x, (gs)[k2]? = some x := ⟨_, List.getElem?_eq_getElem (by first | omega | (simp only [List.length_set]; omega))⟩
          refine s_val wkP F74 rfl rfl rfl rfl (y_indexP F74 elemU64 rfl rfl rfl hpe24 (by omega)) ?_; intro a77 F77; clear F74
          refine s_val wkP F77 rfl rfl rfl rfl (y_load1 F77 plU64 rfl rfl (Row.elem (inC_len .u64) (hrow24.st H73) (fun _ _ => trivial) mx 0 _ rfl)) ?_; intro a78 F78; clear F77
          refine s_val wkP F78 rfl rfl rfl rfl (y_assign F78 rfl rfl) ?_; intro a79 F79; clear F78
          refine wpList_nil ?_
          refine c_then ?_
          refine wp_seq ?_
          refine r_lit ?_
          refine s_val wkP F79 rfl rfl rfl rfl (y_move F79 rfl rfl) ?_; intro a80 F80; clear F79
          refine s_val wkP F80 rfl rfl rfl rfl (y_move F80 rfl rfl) ?_; intro a81 F81; clear F80
          refine s_val wkP F81 rfl rfl rfl rfl (y_geq F81 rfl rfl rfl) ?_; intro a82 F82; clear F81
          refine wpList_nil ?_
          refine c_then ?_
          refine x_condP F82 rfl (fun hge => ?_) (fun hge => ?_)
          · skip
            refine r_lit ?_
            refine s_val wkP F82 rfl rfl rfl rfl (y_move F82 rfl rfl) ?_; intro a84 F84; clear F82
            refine s_val wkP F84 rfl rfl rfl rfl (y_add F84 rfl rfl rfl (r := (((n2 : Nat) : Int)) + (1)) (wrap_i64 (by omega) (by omega) (by omega))) ?_; intro a85 F85; clear F84
            refine s_val wkP F85 rfl rfl rfl rfl (y_assign F85 rfl rfl) ?_; intro a86 F86; clear F85
            refine wpList_nil ?_
            refine c_blkN ?_
            refine c_then ?_
            refine r_lit ?_
            refine s_val wkP F86 rfl rfl rfl rfl (y_add F86 rfl rfl rfl (r := (((k2 : Nat) : Int)) + (1)) (wrap_i64 (by omega) (by omega) (by omega))) ?_; intro a87 F87; clear F86
            refine s_val wkP F87 rfl rfl rfl rfl (y_move F87 rfl rfl) ?_; intro a88 F88; clear F87
            refine wpList_nil ?_
            refine c_then ?_
            exact ⟨(k2 + 1, n2 + 1), ⟨F88.cut _ ⟨rfl, rfl, rfl, rfl, rfl, rfl, rfl, rfl, rfl, trivial⟩, H73, by omega, by rw [cnt_succ mx, hn2]; simp [hge]⟩, by first | omega | (dsimp only; omega)⟩
          · skip
            refine wp_skip ?_
            refine c_blkN ?_
            refine c_then ?_
            refine r_lit ?_
            refine s_val wkP F82 rfl rfl rfl rfl (y_add F82 rfl rfl rfl (r := (((k2 : Nat) : Int)) + (1)) (wrap_i64 (by omega) (by omega) (by omega))) ?_; intro a89 F89; clear F82
            refine s_val wkP F89 rfl rfl rfl rfl (y_move F89 rfl rfl) ?_; intro a90 F90; clear F89
            refine wpList_nil ?_
            refine c_then ?_
            exact ⟨(k2 + 1, n2), ⟨F90.cut _ ⟨rfl, rfl, rfl, rfl, rfl, rfl, rfl, rfl, rfl, trivial⟩, H73, by omega, by rw [cnt_succ mx, hn2]; simp [hge]⟩, by first | omega | (dsimp only; omega)⟩
        · skip
          refine wp_exit ?_
          refine c_thenX ?_
          refine c_thenX ?_
          refine c_hit ?_
          refine c_then ?_
          refine wp_seq ?_
          obtain rfl : k2 = gs.length := by omega
          rw [List.take_length] at hn2
          have hcl : cnt c gs ≤ gs.length := List.countP_le_length
          refine r_lit ?_
          refine s_val wkP F74 rfl rfl rfl rfl (y_move F74 rfl rfl) ?_; intro a91 F91; clear F74
          refine s_val wkP F91 rfl rfl rfl rfl (y_move F91 rfl rfl) ?_; intro a92 F92; clear F91
          refine s_val wkP F92 rfl rfl rfl rfl (y_geq F92 rfl rfl rfl) ?_; intro a93 F93; clear F92
          refine s_val wkP F93 rfl rfl rfl rfl (y_move F93 rfl rfl) ?_; intro a94 F94; clear F93
          refine g_split (k := 67) F94 rfl (fun hg95 F95 => ?_) (fun hg95 F95 => ?_)
          · clear F94
            refine g_onP F95 rfl rfl rfl rfl ?_
            refine s_val wkP F95 rfl rfl rfl rfl (y_move F95 rfl rfl) ?_; intro a96 F96; clear F95
            refine g_onP F96 rfl rfl rfl rfl ?_
            refine s_val wkP F96 rfl rfl rfl rfl (y_move F96 rfl rfl) ?_; intro a97 F97; clear F96
            refine g_onP F97 rfl rfl rfl rfl ?_
            refine s_val wkP F97 rfl rfl rfl rfl (y_leq F97 rfl rfl rfl) ?_; intro a98 F98; clear F97
            refine s_val wkP F98 rfl rfl rfl rfl (y_pickT F98 rfl rfl rfl) ?_; intro a99 F99; clear F98
            refine s_val wkP F99 rfl rfl rfl rfl (y_move F99 rfl rfl) ?_; intro a100 F100; clear F99
            refine g_split (k := 72) F100 rfl (fun hg101 F101 => ?_) (fun hg101 F101 => ?_)
            · clear F100
              refine g_onP F101 rfl rfl rfl rfl ?_
              refine s_val wkP F101 rfl rfl rfl rfl (y_move F101 rfl rfl) ?_; intro a102 F102; clear F101
              refine g_onP F102 rfl rfl rfl rfl ?_
              refine s_val wkP F102 rfl rfl rfl rfl (y_mul F102 rfl rfl rfl (r := (2) * (((n2 : Nat) : Int))) (wrap_i64 (by omega) (by omega) (by omega))) ?_; intro a103 F103; clear F102
              refine g_onP F103 rfl rfl rfl rfl ?_
              refine s_val wkP F103 rfl rfl rfl rfl (y_move F103 rfl rfl) ?_; intro a104 F104; clear F103
              refine g_onP F104 rfl rfl rfl rfl ?_
              refine s_val wkP F104 rfl rfl rfl rfl (y_lenS F104 rfl Try.underlying33 rfl) ?_; intro a105 F105; clear F104
              refine g_onP F105 rfl rfl rfl rfl ?_
              refine s_val wkP F105 rfl rfl rfl rfl (y_gtr F105 rfl rfl rfl) ?_; intro a106 F106; clear F105
              refine s_val wkP F106 rfl rfl rfl rfl (y_pickT F106 rfl rfl rfl) ?_; intro a107 F107; clear F106
              refine s_val wkP F107 rfl rfl rfl rfl (y_assign F107 rfl rfl) ?_; intro a108 F108; clear F107
              refine wpList_nil ?_
              refine c_then ?_
              refine wp_ret ?_
              refine x_ret1 F108 rfl rfl ?_
              refine ⟨ret_bool (decide_eq_true ?_), H73.below⟩
              omega
            · clear F100
              omega
          · clear F94
            omega
end Go.Proofs.Ytchcoenpnmgnhaa
