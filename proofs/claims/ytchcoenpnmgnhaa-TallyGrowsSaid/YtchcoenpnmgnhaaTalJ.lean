/- The law TallyGrows. -/
import Derived.Test.YtchcoenpnmgnhaaTalH
import Derived.Test.YtchcoenpnmgnhaaTalT
set_option linter.unusedSimpArgs false
set_option linter.unusedVariables false
namespace Go.Proofs.Ytchcoenpnmgnhaa
open Go.ChangeShapes Go.WideShapes Go.ChangeAt Go.RowKit Go.Tri
theorem com_nonneg {vs : List Int} {m : Nat} {c : Int} (h : Com vs m c) (h0 : ∀ u ∈ vs, 0 ≤ u) : 0 ≤ c := by
  rcases h with ⟨_, rfl⟩ | ⟨_, h2, _⟩
  · exact Int.le_refl _
  · exact h0 c h2
set_option maxRecDepth 100000 in
set_option maxHeartbeats 2000000 in
theorem lawGrows (xs : List Mrk) (hw : ∀ x ∈ xs, x.wf) (hm : xs.length ≤ 9223372036854775807) (ys : List Mrk) (hwy : ∀ x ∈ ys, x.wf) (hmy : ys.length ≤ 9223372036854775807) (s u : Value) (n : Int) (hn1 : -9223372036854775808 ≤ n) (hn2 : n ≤ 9223372036854775807) (w : World) (hs : Sl w s xs.length (rows Mrk.cells xs)) (hus : Sl w u ys.length (rows Mrk.cells ys)) :
    Calls Try.prog 5 [s, u, .int .i64 n].toArray w (fun e w' => e = .returned (.bool true) ∧ Below w.heap.size w w') := by
  have hs0 := hs
  obtain ⟨p, cp, rfl, hp⟩ := hs0.form
  have hus0 := hus
  obtain ⟨q, cq, rfl, hq⟩ := hus0.form
  refine x_enter Try.func5 rfl rfl rfl ?_
  intro a0 F0
  replace F0 : Fr ⟨117, []⟩ a0 [(0, .slice p xs.length cp), (1, .slice q ys.length cq), (2, .int .i64 n)] := F0
  have H0 := St.nil w
  refine wp_seq ?_
  refine r_lit ?_
  refine s_val wkP F0 rfl rfl rfl rfl (y_assign F0 rfl rfl) ?_; intro a1 F1; clear F0
  refine wpList_nil ?_
  refine c_then ?_
  refine wp_seq ?_
  refine wp_seq ?_
  refine r_lit ?_
  refine s_callV wkP F1 rfl rfl rfl rfl (y_call F1 rfl rfl ent8) (speaks _) ?_; intro w2 a2 hR2 F2; clear F1
  have H2 : St w w2 [] := H0.call hR2
  refine s_val wkP F2 rfl rfl rfl rfl (y_not F2 rfl rfl) ?_; intro a3 F3; clear F2
  refine wpList_nil ?_
  refine c_then ?_
  refine x_condF F3 rfl ?_
  refine wp_skip ?_
  refine c_then ?_
  refine wp_seq ?_
  refine wp_seq ?_
  refine r_lit ?_
  refine s_val wkP F3 rfl rfl rfl rfl (y_move F3 rfl rfl) ?_; intro a5 F5; clear F3
  refine s_val wkP F5 rfl rfl rfl rfl (y_lenS F5 rfl Try.underlying22 rfl) ?_; intro a6 F6; clear F5
  refine s_val wkP F6 rfl rfl rfl rfl (y_gtr F6 rfl rfl rfl) ?_; intro a7 F7; clear F6
  refine s_val wkP F7 rfl rfl rfl rfl (y_move F7 rfl rfl) ?_; intro a8 F8; clear F7
  refine g_split (k := 25) F8 rfl (fun hg9 F9 => ?_) (fun hg9 F9 => ?_)
  · clear F8
    refine g_off wkP F9 rfl rfl rfl rfl rfl rfl rfl ?_; intro a10 F10; clear F9
    refine g_off wkP F10 rfl rfl rfl rfl rfl rfl rfl ?_; intro a11 F11; clear F10
    refine g_off wkP F11 rfl rfl rfl rfl rfl rfl rfl ?_; intro a12 F12; clear F11
    refine s_val wkP F12 rfl rfl rfl rfl (y_pickT F12 rfl rfl rfl) ?_; intro a13 F13; clear F12
    refine s_val wkP F13 rfl rfl rfl rfl (y_move F13 rfl rfl) ?_; intro a14 F14; clear F13
    refine g_off wkP F14 rfl rfl rfl rfl rfl rfl rfl ?_; intro a15 F15; clear F14
    refine g_off wkP F15 rfl rfl rfl rfl rfl rfl rfl ?_; intro a16 F16; clear F15
    refine s_val wkP F16 rfl rfl rfl rfl (y_pickT F16 rfl rfl rfl) ?_; intro a17 F17; clear F16
    refine s_val wkP F17 rfl rfl rfl rfl (y_move F17 rfl rfl) ?_; intro a18 F18; clear F17
    refine g_off wkP F18 rfl rfl rfl rfl rfl rfl rfl ?_; intro a19 F19; clear F18
    refine g_off wkP F19 rfl rfl rfl rfl rfl rfl rfl ?_; intro a20 F20; clear F19
    refine s_val wkP F20 rfl rfl rfl rfl (y_pickT F20 rfl rfl rfl) ?_; intro a21 F21; clear F20
    refine wpList_nil ?_
    refine c_then ?_
    refine x_condT F21 rfl ?_
    refine wp_seq ?_
    refine r_lit ?_
    refine s_val wkP F21 rfl rfl rfl rfl (y_assign F21 rfl rfl) ?_; intro a23 F23; clear F21
    refine wpList_nil ?_
    refine c_then ?_
    refine wp_ret ?_
    refine c_thenR ?_
    refine x_ret1 F23 rfl rfl ?_
    exact ⟨rfl, H2.below⟩
  · clear F8
    refine g_onP F9 rfl rfl rfl rfl ?_
    refine s_val wkP F9 rfl rfl rfl rfl (y_move F9 rfl rfl) ?_; intro a24 F24; clear F9
    refine g_onP F24 rfl rfl rfl rfl ?_
    refine s_val wkP F24 rfl rfl rfl rfl (y_lenS F24 rfl Try.underlying22 rfl) ?_; intro a25 F25; clear F24
    refine g_onP F25 rfl rfl rfl rfl ?_
    refine s_val wkP F25 rfl rfl rfl rfl (y_gtr F25 rfl rfl rfl) ?_; intro a26 F26; clear F25
    refine s_val wkP F26 rfl rfl rfl rfl (y_pickF F26 rfl rfl rfl) ?_; intro a27 F27; clear F26
    refine s_val wkP F27 rfl rfl rfl rfl (y_move F27 rfl rfl) ?_; intro a28 F28; clear F27
    refine g_split (k := 30) F28 rfl (fun hg29 F29 => ?_) (fun hg29 F29 => ?_)
    · clear F28
      refine g_off wkP F29 rfl rfl rfl rfl rfl rfl rfl ?_; intro a30 F30; clear F29
      refine g_off wkP F30 rfl rfl rfl rfl rfl rfl rfl ?_; intro a31 F31; clear F30
      refine s_val wkP F31 rfl rfl rfl rfl (y_pickT F31 rfl rfl rfl) ?_; intro a32 F32; clear F31
      refine s_val wkP F32 rfl rfl rfl rfl (y_move F32 rfl rfl) ?_; intro a33 F33; clear F32
      refine g_off wkP F33 rfl rfl rfl rfl rfl rfl rfl ?_; intro a34 F34; clear F33
      refine g_off wkP F34 rfl rfl rfl rfl rfl rfl rfl ?_; intro a35 F35; clear F34
      refine s_val wkP F35 rfl rfl rfl rfl (y_pickT F35 rfl rfl rfl) ?_; intro a36 F36; clear F35
      refine wpList_nil ?_
      refine c_then ?_
      refine x_condT F36 rfl ?_
      refine wp_seq ?_
      refine r_lit ?_
      refine s_val wkP F36 rfl rfl rfl rfl (y_assign F36 rfl rfl) ?_; intro a38 F38; clear F36
      refine wpList_nil ?_
      refine c_then ?_
      refine wp_ret ?_
      refine c_thenR ?_
      refine x_ret1 F38 rfl rfl ?_
      exact ⟨rfl, H2.below⟩
    · clear F28
      refine g_onP F29 rfl rfl rfl rfl ?_
      refine s_val wkP F29 rfl rfl rfl rfl (y_move F29 rfl rfl) ?_; intro a39 F39; clear F29
      refine g_onP F39 rfl rfl rfl rfl ?_
      refine s_val wkP F39 rfl rfl rfl rfl (y_lss F39 rfl rfl rfl) ?_; intro a40 F40; clear F39
      refine s_val wkP F40 rfl rfl rfl rfl (y_pickF F40 rfl rfl rfl) ?_; intro a41 F41; clear F40
      refine s_val wkP F41 rfl rfl rfl rfl (y_move F41 rfl rfl) ?_; intro a42 F42; clear F41
      refine g_split (k := 34) F42 rfl (fun hg43 F43 => ?_) (fun hg43 F43 => ?_)
      · clear F42
        refine g_off wkP F43 rfl rfl rfl rfl rfl rfl rfl ?_; intro a44 F44; clear F43
        refine g_off wkP F44 rfl rfl rfl rfl rfl rfl rfl ?_; intro a45 F45; clear F44
        refine s_val wkP F45 rfl rfl rfl rfl (y_pickT F45 rfl rfl rfl) ?_; intro a46 F46; clear F45
        refine wpList_nil ?_
        refine c_then ?_
        refine x_condT F46 rfl ?_
        refine wp_seq ?_
        refine r_lit ?_
        refine s_val wkP F46 rfl rfl rfl rfl (y_assign F46 rfl rfl) ?_; intro a48 F48; clear F46
        refine wpList_nil ?_
        refine c_then ?_
        refine wp_ret ?_
        refine c_thenR ?_
        refine x_ret1 F48 rfl rfl ?_
        exact ⟨rfl, H2.below⟩
      · clear F42
        refine g_onP F43 rfl rfl rfl rfl ?_
        refine s_val wkP F43 rfl rfl rfl rfl (y_move F43 rfl rfl) ?_; intro a49 F49; clear F43
        refine g_onP F49 rfl rfl rfl rfl ?_
        refine s_val wkP F49 rfl rfl rfl rfl (y_gtr F49 rfl rfl rfl) ?_; intro a50 F50; clear F49
        refine s_val wkP F50 rfl rfl rfl rfl (y_pickF F50 rfl rfl rfl) ?_; intro a51 F51; clear F50
        refine wpList_nil ?_
        refine c_then ?_
        refine x_condP F51 rfl (fun hc52 => ?_) (fun hc52 => ?_)
        · skip
          refine wp_seq ?_
          refine r_lit ?_
          refine s_val wkP F51 rfl rfl rfl rfl (y_assign F51 rfl rfl) ?_; intro a53 F53; clear F51
          refine wpList_nil ?_
          refine c_then ?_
          refine wp_ret ?_
          refine c_thenR ?_
          refine x_ret1 F53 rfl rfl ?_
          exact ⟨rfl, H2.below⟩
        · skip
          refine wp_skip ?_
          refine c_then ?_
          refine wp_seq ?_
          obtain ⟨nn, rfl⟩ : ∃ q : Nat, n = ((q : Nat) : Int) := ⟨n.toNat, by omega⟩
          refine r_lit ?_
          refine s_build0 wkP F51 rfl rfl rfl elemMark rfl H2 ?_; intro s54 w54 a54 H54 F54; clear F51
          refine s_val wkP F54 rfl rfl rfl rfl (y_assign F54 rfl rfl) ?_; intro a55 F55; clear F54
          refine s_val wkP F55 rfl rfl rfl rfl (y_assign F55 rfl rfl) ?_; intro a56 F56; clear F55
          refine wpList_nil ?_
          refine c_then ?_
          refine wp_seq ?_
          refine wp_seq ?_
          refine r_lit ?_
          refine s_val wkP F56 rfl rfl rfl rfl (y_move F56 rfl rfl) ?_; intro a57 F57; clear F56
          refine s_val wkP F57 rfl rfl rfl rfl (y_lenS F57 rfl Try.underlying22 rfl) ?_; intro a58 F58; clear F57
          refine s_val wkP F58 rfl rfl rfl rfl (y_move F58 rfl rfl) ?_; intro a59 F59; clear F58
          refine wpList_nil ?_
          refine c_then ?_
          refine wp_block ?_
          refine x_loop (G := Nat × List Mrk × Value × Int) (fun gg aa ww => match gg with | (k, L, s, last) => Fr ⟨117, []⟩ aa [(1, .slice q ys.length cq), (2, .int .i64 (((nn : Nat) : Int))), (39, .slice p xs.length cp), (40, .int .i64 (((xs.length : Nat) : Int))), (7, s), (8, .int .u64 (last)), (41, .int .i64 (((k : Nat) : Int)))] ∧ St w ww [HP.own 28 2 s (L.length) (rows Mrk.cells L)] ∧ (k ≤ xs.length) ∧ (L.length ≤ k) ∧ (Up L) ∧ (∀ x ∈ L, x.wf) ∧ (Bnd nn L) ∧ (Com ((cmap L).map (·.2)) (majN ((nn : Nat) : Int)) last)) (fun gg => match gg with | (k, L, s, last) => xs.length - k) (0, [], s54, 0) ⟨F59.cut _ ⟨rfl, rfl, rfl, rfl, rfl, rfl, rfl, trivial⟩, H54, Nat.zero_le _, Nat.le_refl _, List.Pairwise.nil, (fun x hx => by cases hx), (fun x hx => by cases hx), .inl ⟨by show 0 < majN _; unfold majN; omega, rfl⟩⟩ ?_
          clear F59
          rintro ⟨k, L, s, last⟩ a60 w60 ⟨F60, H60, hk, hLl, hu, hwL, hb, hcm⟩
          refine wp_seq ?_
          refine r_lit ?_
          refine s_val wkP F60 rfl rfl rfl rfl (y_lss F60 rfl rfl rfl) ?_; intro a61 F61; clear F60
          refine wpList_nil ?_
          refine c_then ?_
          refine wp_seq ?_
          refine x_condP F61 rfl (fun hlt => ?_) (fun hlt => ?_)
          · skip
            refine wp_skip ?_
            refine c_then ?_
            refine wp_seq ?_
            refine wp_block ?_
            refine wp_seq ?_
            refine r_lit ?_
            obtain ⟨bb63, of63, hpe63, hrow63⟩ := hp (by omega)
            obtain ⟨x, mx⟩ : ∃ x, (xs)[k]? = some x := ⟨_, List.getElem?_eq_getElem (by first | omega | (simp only [List.length_set]; omega))⟩
            have hx := hw x (List.mem_of_getElem? mx)
            refine s_val wkP F61 rfl rfl rfl rfl (y_indexP F61 elemMark rfl rfl rfl hpe63 (by omega)) ?_; intro a65 F65; clear F61
            refine s_val wkP F65 rfl rfl rfl rfl (y_loadA F65 aggMark rfl rfl (Row.elem Mrk.len (hrow63.st H60) hw mx) (Mrk.len_cells hx)) ?_; intro a66 F66; clear F65
            refine s_allocA wkP F66 rfl rfl rfl aggMark rfl H60 ?_; intro b67 w67 a67 H67 F67; clear F66
            refine s_storeA wkP F67 rfl rfl aggMark rfl rfl rfl H67 0 rfl (Mrk.len_cells hx) (rfl) (Mrk.flat x) ?_; intro w68 h68
            have H68 : St w w68 [HP.blk b67 (x.cells) 28, HP.own 28 2 s (L.length) (rows Mrk.cells L)] := h68
            clear h68
            refine wpList_nil ?_
            refine c_then ?_
            refine wp_seq ?_
            refine r_lit ?_
            refine s_val wkP F67 rfl rfl rfl rfl (y_fieldAddr F67 mfld0 rfl rfl) ?_; intro a69 F69; clear F67
            refine s_val wkP F69 rfl rfl rfl rfl (y_load1 F69 plInt rfl rfl (((H68.blk 0 rfl).cell _).trans rfl)) ?_; intro a70 F70; clear F69
            refine s_andLow (m := 1023) wkP F70 rfl rfl rfl rfl rfl rfl (by decide) ?_; intro r a71 hr F71; clear F70
            refine s_val wkP F71 rfl rfl rfl rfl (y_move F71 rfl rfl) ?_; intro a72 F72; clear F71
            refine s_val wkP F72 rfl rfl rfl rfl (y_rem F72 rfl rfl rfl (by omega) (r := (((r : Nat) : Int)) % (((nn : Nat) : Int))) ((by rw [Int.tmod_eq_emod_of_nonneg (by omega)]; try omega))) ?_; intro a73 F73; clear F72
            refine s_val wkP F73 rfl rfl rfl rfl (y_fieldAddr F73 mfld0 rfl rfl) ?_; intro a74 F74; clear F73
            refine s_store1 wkP F74 rfl rfl z1Int rfl rfl rfl rfl rfl H68 0 rfl (by simp [Mrk.cells]) ?_; intro w76 h76
            have hr1 : 0 ≤ (((r : Nat) : Int)) % (((nn : Nat) : Int)) := Int.emod_nonneg _ (by omega)
            have hr2 : (((r : Nat) : Int)) % (((nn : Nat) : Int)) < ((nn : Nat) : Int) := Int.emod_lt_of_pos _ (by omega)
            have hxg := Mrk.genB hx
            obtain ⟨y, eqy⟩ : ∃ qq, qq = Mrk.mk ((((r : Nat) : Int)) % (((nn : Nat) : Int))) (x.gen) := ⟨_, rfl⟩
            have hy : y.wf := by rw [eqy]; exact mrk_wf (by omega) (by omega) (by omega) (by omega)
            have hyn : 0 ≤ y.node ∧ y.node < ((nn : Nat) : Int) := by rw [eqy]; exact ⟨hr1, hr2⟩
            have H76 : St w w76 [HP.blk b67 (y.cells) 28, HP.own 28 2 s (L.length) (rows Mrk.cells L)] := by rw [eqy]; exact h76
            clear h76
            refine wpList_nil ?_
            refine c_then ?_
            refine wp_seq ?_
            refine r_lit ?_
            refine s_val wkP F74 rfl rfl rfl rfl (y_move F74 rfl rfl) ?_; intro a77 F77; clear F74
            refine s_val wkP F77 rfl rfl rfl rfl (y_loadA F77 aggMark rfl rfl ((H76.blk 0 rfl).row) (Mrk.len_cells hy)) ?_; intro a78 F78; clear F77
            refine s_call wkP F78 rfl rfl rfl rfl (y_call F78 rfl rfl ent11) (add _ hwL (by omega) _ y hy _ (H76.sl 1 rfl)) ?_; intro s2 w79 a79 hR79 F79; clear F78
            have hal := (addM_len L y).2
            have H79 : St w w79 [HP.own 28 2 s2 ((addM L y).length) (rows Mrk.cells (addM L y)), HP.blk b67 (y.cells) 28] := (H76.call hR79).pick [0, 1] (by decide) rfl
            refine s_val wkP F79 rfl rfl rfl rfl (y_assign F79 rfl rfl) ?_; intro a80 F80; clear F79
            refine wpList_nil ?_
            refine c_then ?_
            refine wp_seq ?_
            refine r_lit ?_
            refine s_val wkP F80 rfl rfl rfl rfl (y_move F80 rfl rfl) ?_; intro a81 F81; clear F80
            refine s_val wkP F81 rfl rfl rfl rfl (y_move F81 rfl rfl) ?_; intro a82 F82; clear F81
            refine s_call wkP F82 rfl rfl rfl rfl (y_call F82 rfl rfl ent9) (commit (addM L y) (addM_wf hwL hy) (by omega) (by have h1 := cmap_len (addM L y); have h2 := Up.few (addM_up hu y) (addM_bnd hu hb hyn); omega) ((nn : Nat) : Int) (by omega) (by omega) _ _ (H79.sl 0 rfl)) ?_; intro vc w83 a83 hR83 F83; clear F82
            obtain ⟨c, rfl, hc, hEc⟩ := hR83
            have H83 : St w w83 [HP.own 28 2 s2 ((addM L y).length) (rows Mrk.cells (addM L y)), HP.blk b67 (y.cells) 28] := H79.call hEc
            refine s_val wkP F83 rfl rfl rfl rfl (y_assign F83 rfl rfl) ?_; intro a84 F84; clear F83
            refine wpList_nil ?_
            refine c_then ?_
            refine wp_seq ?_
            refine wp_seq ?_
            refine r_lit ?_
            refine s_val wkP F84 rfl rfl rfl rfl (y_move F84 rfl rfl) ?_; intro a85 F85; clear F84
            refine s_val wkP F85 rfl rfl rfl rfl (y_move F85 rfl rfl) ?_; intro a86 F86; clear F85
            refine s_val wkP F86 rfl rfl rfl rfl (y_lss F86 rfl rfl rfl) ?_; intro a87 F87; clear F86
            refine wpList_nil ?_
            refine c_then ?_
            refine x_condP F87 rfl (fun hfall => ?_) (fun hfall => ?_)
            · skip
              exact absurd hfall (by have := com_grows hu hwL hy hcm hc; omega)
            · skip
              refine wp_skip ?_
              refine c_then ?_
              refine r_lit ?_
              refine s_val wkP F87 rfl rfl rfl rfl (y_move F87 rfl rfl) ?_; intro a89 F89; clear F87
              refine s_val wkP F89 rfl rfl rfl rfl (y_assign F89 rfl rfl) ?_; intro a90 F90; clear F89
              refine wpList_nil ?_
              refine c_blkN ?_
              refine c_then ?_
              refine r_lit ?_
              refine s_val wkP F90 rfl rfl rfl rfl (y_add F90 rfl rfl rfl (r := (((k : Nat) : Int)) + (1)) (wrap_i64 (by omega) (by omega) (by omega))) ?_; intro a91 F91; clear F90
              refine s_val wkP F91 rfl rfl rfl rfl (y_move F91 rfl rfl) ?_; intro a92 F92; clear F91
              refine wpList_nil ?_
              refine c_then ?_
              exact ⟨(k + 1, addM L y, s2, c), ⟨F92.cut _ ⟨rfl, rfl, rfl, rfl, rfl, rfl, rfl, trivial⟩, H83.pick [0] (by decide) rfl, by omega, by omega, addM_up hu y, addM_wf hwL hy, addM_bnd hu hb hyn, hc⟩, by first | omega | (dsimp only; omega)⟩
          · skip
            refine wp_exit ?_
            refine c_thenX ?_
            refine c_thenX ?_
            refine c_hit ?_
            refine c_then ?_
            refine wp_seq ?_
            refine r_lit ?_
            refine s_build0 wkP F61 rfl rfl rfl elemMark rfl H60 ?_; intro s93 w93 a93 H93 F93; clear F61
            refine s_val wkP F93 rfl rfl rfl rfl (y_assign F93 rfl rfl) ?_; intro a94 F94; clear F93
            refine wpList_nil ?_
            refine c_then ?_
            refine wp_seq ?_
            refine wp_seq ?_
            refine r_lit ?_
            refine s_val wkP F94 rfl rfl rfl rfl (y_move F94 rfl rfl) ?_; intro a95 F95; clear F94
            refine s_val wkP F95 rfl rfl rfl rfl (y_lenS F95 rfl Try.underlying22 rfl) ?_; intro a96 F96; clear F95
            refine s_val wkP F96 rfl rfl rfl rfl (y_move F96 rfl rfl) ?_; intro a97 F97; clear F96
            refine wpList_nil ?_
            refine c_then ?_
            refine wp_block ?_
            refine x_loop (G := Nat × List Mrk × Value) (fun gg aa ww => match gg with | (k2, M, t) => Fr ⟨117, []⟩ aa [(2, .int .i64 (((nn : Nat) : Int))), (7, s), (8, .int .u64 (last)), (63, .slice q ys.length cq), (64, .int .i64 (((ys.length : Nat) : Int))), (12, t), (65, .int .i64 (((k2 : Nat) : Int)))] ∧ St w ww [HP.own 28 2 t (M.length) (rows Mrk.cells M), HP.own 28 2 s (L.length) (rows Mrk.cells L)] ∧ (k2 ≤ ys.length) ∧ (M.length ≤ k2) ∧ (Up M) ∧ (∀ x ∈ M, x.wf) ∧ (Bnd nn M)) (fun gg => match gg with | (k2, M, t) => ys.length - k2) (0, [], s93) ⟨F97.cut _ ⟨rfl, rfl, rfl, rfl, rfl, rfl, rfl, trivial⟩, H93, Nat.zero_le _, Nat.le_refl _, List.Pairwise.nil, (fun x hx => by cases hx), (fun x hx => by cases hx)⟩ ?_
            clear F97
            rintro ⟨k2, M, t⟩ a98 w98 ⟨F98, H98, hk2, hMl, hu2, hwM, hb2⟩
            refine wp_seq ?_
            refine r_lit ?_
            refine s_val wkP F98 rfl rfl rfl rfl (y_lss F98 rfl rfl rfl) ?_; intro a99 F99; clear F98
            refine wpList_nil ?_
            refine c_then ?_
            refine wp_seq ?_
            refine x_condP F99 rfl (fun hlt2 => ?_) (fun hlt2 => ?_)
            · skip
              refine wp_skip ?_
              refine c_then ?_
              refine wp_seq ?_
              refine wp_block ?_
              refine wp_seq ?_
              refine r_lit ?_
              obtain ⟨bb101, of101, hpe101, hrow101⟩ := hq (by omega)
              obtain ⟨x, mx⟩ : ∃ x, (ys)[k2]? = some x := ⟨_, List.getElem?_eq_getElem (by first | omega | (simp only [List.length_set]; omega))⟩
              have hx := hwy x (List.mem_of_getElem? mx)
              refine s_val wkP F99 rfl rfl rfl rfl (y_indexP F99 elemMark rfl rfl rfl hpe101 (by omega)) ?_; intro a103 F103; clear F99
              refine s_val wkP F103 rfl rfl rfl rfl (y_loadA F103 aggMark rfl rfl (Row.elem Mrk.len (hrow101.st H98) hwy mx) (Mrk.len_cells hx)) ?_; intro a104 F104; clear F103
              refine s_allocA wkP F104 rfl rfl rfl aggMark rfl H98 ?_; intro b105 w105 a105 H105 F105; clear F104
              refine s_storeA wkP F105 rfl rfl aggMark rfl rfl rfl H105 0 rfl (Mrk.len_cells hx) (rfl) (Mrk.flat x) ?_; intro w106 h106
              have H106 : St w w106 [HP.blk b105 (x.cells) 28, HP.own 28 2 t (M.length) (rows Mrk.cells M), HP.own 28 2 s (L.length) (rows Mrk.cells L)] := h106
              clear h106
              refine wpList_nil ?_
              refine c_then ?_
              refine wp_seq ?_
              refine r_lit ?_
              refine s_val wkP F105 rfl rfl rfl rfl (y_fieldAddr F105 mfld0 rfl rfl) ?_; intro a107 F107; clear F105
              refine s_val wkP F107 rfl rfl rfl rfl (y_load1 F107 plInt rfl rfl (((H106.blk 0 rfl).cell _).trans rfl)) ?_; intro a108 F108; clear F107
              refine s_andLow (m := 1023) wkP F108 rfl rfl rfl rfl rfl rfl (by decide) ?_; intro r a109 hr F109; clear F108
              refine s_val wkP F109 rfl rfl rfl rfl (y_move F109 rfl rfl) ?_; intro a110 F110; clear F109
              refine s_val wkP F110 rfl rfl rfl rfl (y_rem F110 rfl rfl rfl (by omega) (r := (((r : Nat) : Int)) % (((nn : Nat) : Int))) ((by rw [Int.tmod_eq_emod_of_nonneg (by omega)]; try omega))) ?_; intro a111 F111; clear F110
              refine s_val wkP F111 rfl rfl rfl rfl (y_fieldAddr F111 mfld0 rfl rfl) ?_; intro a112 F112; clear F111
              refine s_store1 wkP F112 rfl rfl z1Int rfl rfl rfl rfl rfl H106 0 rfl (by simp [Mrk.cells]) ?_; intro w114 h114
              have hr1 : 0 ≤ (((r : Nat) : Int)) % (((nn : Nat) : Int)) := Int.emod_nonneg _ (by omega)
              have hr2 : (((r : Nat) : Int)) % (((nn : Nat) : Int)) < ((nn : Nat) : Int) := Int.emod_lt_of_pos _ (by omega)
              have hxg := Mrk.genB hx
              obtain ⟨y, eqy⟩ : ∃ qq, qq = Mrk.mk ((((r : Nat) : Int)) % (((nn : Nat) : Int))) (x.gen) := ⟨_, rfl⟩
              have hy : y.wf := by rw [eqy]; exact mrk_wf (by omega) (by omega) (by omega) (by omega)
              have hyn : 0 ≤ y.node ∧ y.node < ((nn : Nat) : Int) := by rw [eqy]; exact ⟨hr1, hr2⟩
              have H114 : St w w114 [HP.blk b105 (y.cells) 28, HP.own 28 2 t (M.length) (rows Mrk.cells M), HP.own 28 2 s (L.length) (rows Mrk.cells L)] := by rw [eqy]; exact h114
              clear h114
              refine wpList_nil ?_
              refine c_then ?_
              refine r_lit ?_
              refine s_val wkP F112 rfl rfl rfl rfl (y_move F112 rfl rfl) ?_; intro a115 F115; clear F112
              refine s_val wkP F115 rfl rfl rfl rfl (y_loadA F115 aggMark rfl rfl ((H114.blk 0 rfl).row) (Mrk.len_cells hy)) ?_; intro a116 F116; clear F115
              refine s_call wkP F116 rfl rfl rfl rfl (y_call F116 rfl rfl ent11) (add _ hwM (by omega) _ y hy _ (H114.sl 1 rfl)) ?_; intro t2 w117 a117 hR117 F117; clear F116
              have hal := (addM_len M y).2
              have H117 : St w w117 [HP.own 28 2 t2 ((addM M y).length) (rows Mrk.cells (addM M y)), HP.blk b105 (y.cells) 28, HP.own 28 2 s (L.length) (rows Mrk.cells L)] := (H114.call hR117).pick [0, 1, 3] (by decide) rfl
              refine s_val wkP F117 rfl rfl rfl rfl (y_assign F117 rfl rfl) ?_; intro a118 F118; clear F117
              refine wpList_nil ?_
              refine c_blkN ?_
              refine c_then ?_
              refine r_lit ?_
              refine s_val wkP F118 rfl rfl rfl rfl (y_add F118 rfl rfl rfl (r := (((k2 : Nat) : Int)) + (1)) (wrap_i64 (by omega) (by omega) (by omega))) ?_; intro a119 F119; clear F118
              refine s_val wkP F119 rfl rfl rfl rfl (y_move F119 rfl rfl) ?_; intro a120 F120; clear F119
              refine wpList_nil ?_
              refine c_then ?_
              exact ⟨(k2 + 1, addM M y, t2), ⟨F120.cut _ ⟨rfl, rfl, rfl, rfl, rfl, rfl, rfl, trivial⟩, H117.pick [0, 2] (by decide) rfl, by omega, by omega, addM_up hu2 y, addM_wf hwM hy, addM_bnd hu2 hb2 hyn⟩, by first | omega | (dsimp only; omega)⟩
            · skip
              refine wp_exit ?_
              refine c_thenX ?_
              refine c_thenX ?_
              refine c_hit ?_
              refine c_then ?_
              refine wp_seq ?_
              refine r_lit ?_
              refine s_val wkP F99 rfl rfl rfl rfl (y_move F99 rfl rfl) ?_; intro a121 F121; clear F99
              refine s_val wkP F121 rfl rfl rfl rfl (y_move F121 rfl rfl) ?_; intro a122 F122; clear F121
              refine s_val wkP F122 rfl rfl rfl rfl (y_move F122 rfl rfl) ?_; intro a123 F123; clear F122
              refine s_call wkP F123 rfl rfl rfl rfl (y_call F123 rfl rfl ent9) (commit M (hwM) (by omega) (by have h1 := cmap_len M; have h2 := Up.few (hu2) (hb2); omega) ((nn : Nat) : Int) (by omega) (by omega) _ _ (H98.sl 0 rfl)) ?_; intro vc2 w124 a124 hR124 F124; clear F123
              obtain ⟨c2, rfl, hc2, hEc2⟩ := hR124
              have H124 : St w w124 [HP.own 28 2 t (M.length) (rows Mrk.cells M), HP.own 28 2 s (L.length) (rows Mrk.cells L)] := H98.call hEc2
              refine s_val wkP F124 rfl rfl rfl rfl (y_min F124 rfl rfl rfl (r := min (last) (c2)) (rfl)) ?_; intro a125 F125; clear F124
              refine s_val wkP F125 rfl rfl rfl rfl (y_assign F125 rfl rfl) ?_; intro a126 F126; clear F125
              refine wpList_nil ?_
              refine c_then ?_
              refine wp_seq ?_
              refine wp_seq ?_
              refine r_lit ?_
              refine s_val wkP F126 rfl rfl rfl rfl (y_move F126 rfl rfl) ?_; intro a127 F127; clear F126
              refine s_val wkP F127 rfl rfl rfl rfl (y_eql F127 rfl rfl rfl) ?_; intro a128 F128; clear F127
              refine wpList_nil ?_
              refine c_then ?_
              refine x_condP F128 rfl (fun hg0 => ?_) (fun hg0 => ?_)
              · skip
                refine wp_seq ?_
                refine r_lit ?_
                refine s_val wkP F128 rfl rfl rfl rfl (y_assign F128 rfl rfl) ?_; intro a130 F130; clear F128
                refine wpList_nil ?_
                refine c_then ?_
                refine wp_ret ?_
                refine c_thenR ?_
                refine x_ret1 F130 rfl rfl ?_
                exact ⟨rfl, H124.below⟩
              · skip
                refine wp_skip ?_
                refine c_then ?_
                refine wp_seq ?_
                refine wp_seq ?_
                refine r_lit ?_
                refine s_val wkP F128 rfl rfl rfl rfl (y_move F128 rfl rfl) ?_; intro a131 F131; clear F128
                obtain ⟨p132, cap132, rfl, hcap132, hp132⟩ := H124.ownForm 1 rfl
                refine s_val wkP F131 rfl rfl rfl rfl (y_lenS F131 rfl Try.underlying22 rfl) ?_; intro a133 F133; clear F131
                refine s_val wkP F133 rfl rfl rfl rfl (y_move F133 rfl rfl) ?_; intro a134 F134; clear F133
                refine wpList_nil ?_
                refine c_then ?_
                refine wp_block ?_
                refine x_loop (G := Nat) (fun k3 aa ww => Fr ⟨117, []⟩ aa [(12, t), (15, .int .u64 (min (last) (c2))), (86, .slice p132 (L.length) cap132), (87, .int .i64 ((((L.length) : Nat) : Int))), (88, .int .i64 (((k3 : Nat) : Int)))] ∧ St w ww [HP.own 28 2 t (M.length) (rows Mrk.cells M), HP.own 28 2 (.slice p132 (L.length) cap132) (L.length) (rows Mrk.cells L)] ∧ (k3 ≤ L.length) ∧ (∀ x ∈ L.take k3, ∀ y ∈ M, ¬ (x.node = y.node ∧ min last c2 ≤ x.gen ∧ min last c2 ≤ y.gen))) (fun k3 => L.length - k3) 0 ⟨F134.cut _ ⟨rfl, rfl, rfl, rfl, rfl, trivial⟩, H124, Nat.zero_le _, (fun x hx => by simp at hx)⟩ ?_
                clear F134
                rintro k3 a135 w135 ⟨F135, H135, hk3, hno3⟩
                refine wp_seq ?_
                refine r_lit ?_
                refine s_val wkP F135 rfl rfl rfl rfl (y_lss F135 rfl rfl rfl) ?_; intro a136 F136; clear F135
                refine wpList_nil ?_
                refine c_then ?_
                refine wp_seq ?_
                refine x_condP F136 rfl (fun hlt3 => ?_) (fun hlt3 => ?_)
                · skip
                  refine wp_skip ?_
                  refine c_then ?_
                  refine wp_seq ?_
                  refine wp_block ?_
                  refine wp_seq ?_
                  refine r_lit ?_
                  obtain ⟨bb138, hpe138⟩ := hp132 (by omega)
                  obtain ⟨x, mx⟩ : ∃ x, (L)[k3]? = some x := ⟨_, List.getElem?_eq_getElem (by first | omega | (simp only [List.length_set]; omega))⟩
                  have hx := hwL x (List.mem_of_getElem? mx)
                  refine s_val wkP F136 rfl rfl rfl rfl (y_indexP F136 elemMark rfl rfl rfl hpe138 (by omega)) ?_; intro a140 F140; clear F136
                  refine s_val wkP F140 rfl rfl rfl rfl (y_loadA F140 aggMark rfl rfl (Row.elem Mrk.len (H135.ownRowP 1 rfl hpe138) hwL mx) (Mrk.len_cells hx)) ?_; intro a141 F141; clear F140
                  refine s_allocA wkP F141 rfl rfl rfl aggMark rfl H135 ?_; intro b142 w142 a142 H142 F142; clear F141
                  refine s_storeA wkP F142 rfl rfl aggMark rfl rfl rfl H142 0 rfl (Mrk.len_cells hx) (rfl) (Mrk.flat x) ?_; intro w143 h143
                  have H143 : St w w143 [HP.blk b142 (x.cells) 28, HP.own 28 2 t (M.length) (rows Mrk.cells M), HP.own 28 2 (.slice p132 (L.length) cap132) (L.length) (rows Mrk.cells L)] := h143
                  clear h143
                  refine wpList_nil ?_
                  refine c_then ?_
                  refine wp_seq ?_
                  refine r_lit ?_
                  refine s_val wkP F142 rfl rfl rfl rfl (y_move F142 rfl rfl) ?_; intro a144 F144; clear F142
                  obtain ⟨p145, cap145, rfl, hcap145, hp145⟩ := H143.ownForm 1 rfl
                  refine s_val wkP F144 rfl rfl rfl rfl (y_lenS F144 rfl Try.underlying22 rfl) ?_; intro a146 F146; clear F144
                  refine s_val wkP F146 rfl rfl rfl rfl (y_move F146 rfl rfl) ?_; intro a147 F147; clear F146
                  refine wpList_nil ?_
                  refine c_then ?_
                  refine wp_block ?_
                  refine x_loop (G := Nat) (fun k4 aa ww => Fr ⟨117, []⟩ aa [(12, .slice p145 (M.length) cap145), (15, .int .u64 (min (last) (c2))), (17, .pointer (some ⟨b142, 0, none⟩)), (86, .slice p132 (L.length) cap132), (87, .int .i64 ((((L.length) : Nat) : Int))), (88, .int .i64 (((k3 : Nat) : Int))), (89, .bool (decide ((((k3 : Nat) : Int)) < ((((L.length) : Nat) : Int))))), (90, .pointer (some ⟨bb138, 0 + k3 * 2, none⟩)), (91, .agg (x.cells).toArray), (92, .slice p145 (M.length) cap145), (93, .int .i64 ((((M.length) : Nat) : Int))), (94, .int .i64 (((k4 : Nat) : Int)))] ∧ St w ww [HP.blk b142 (x.cells) 28, HP.own 28 2 (.slice p145 (M.length) cap145) (M.length) (rows Mrk.cells M), HP.own 28 2 (.slice p132 (L.length) cap132) (L.length) (rows Mrk.cells L)] ∧ (k4 ≤ M.length) ∧ (∀ y ∈ M.take k4, ¬ (x.node = y.node ∧ min last c2 ≤ x.gen ∧ min last c2 ≤ y.gen))) (fun k4 => M.length - k4) 0 ⟨F147.cut _ ⟨rfl, rfl, rfl, rfl, rfl, rfl, rfl, rfl, rfl, rfl, rfl, rfl, trivial⟩, H143, Nat.zero_le _, (fun x hx => by simp at hx)⟩ ?_
                  clear F147
                  rintro k4 a148 w148 ⟨F148, H148, hk4, hno4⟩
                  refine wp_seq ?_
                  refine r_lit ?_
                  refine s_val wkP F148 rfl rfl rfl rfl (y_lss F148 rfl rfl rfl) ?_; intro a149 F149; clear F148
                  refine wpList_nil ?_
                  refine c_then ?_
                  refine wp_seq ?_
                  refine x_condP F149 rfl (fun hlt4 => ?_) (fun hlt4 => ?_)
                  · skip
                    refine wp_skip ?_
                    refine c_then ?_
                    refine wp_seq ?_
                    refine wp_block ?_
                    refine wp_seq ?_
                    refine r_lit ?_
                    obtain ⟨bb151, hpe151⟩ := hp145 (by omega)
                    obtain ⟨y, my⟩ : ∃ x, (M)[k4]? = some x := ⟨_, List.getElem?_eq_getElem (by first | omega | (simp only [List.length_set]; omega))⟩
                    have hy := hwM y (List.mem_of_getElem? my)
                    refine s_val wkP F149 rfl rfl rfl rfl (y_indexP F149 elemMark rfl rfl rfl hpe151 (by omega)) ?_; intro a153 F153; clear F149
                    refine s_val wkP F153 rfl rfl rfl rfl (y_loadA F153 aggMark rfl rfl (Row.elem Mrk.len (H148.ownRowP 1 rfl hpe151) hwM my) (Mrk.len_cells hy)) ?_; intro a154 F154; clear F153
                    refine s_allocA wkP F154 rfl rfl rfl aggMark rfl H148 ?_; intro b155 w155 a155 H155 F155; clear F154
                    refine s_storeA wkP F155 rfl rfl aggMark rfl rfl rfl H155 0 rfl (Mrk.len_cells hy) (rfl) (Mrk.flat y) ?_; intro w156 h156
                    have H156 : St w w156 [HP.blk b155 (y.cells) 28, HP.blk b142 (x.cells) 28, HP.own 28 2 (.slice p145 (M.length) cap145) (M.length) (rows Mrk.cells M), HP.own 28 2 (.slice p132 (L.length) cap132) (L.length) (rows Mrk.cells L)] := h156
                    clear h156
                    refine wpList_nil ?_
                    refine c_then ?_
                    refine wp_seq ?_
                    refine r_lit ?_
                    refine s_val wkP F155 rfl rfl rfl rfl (y_fieldAddr F155 mfld0 rfl rfl) ?_; intro a157 F157; clear F155
                    refine s_val wkP F157 rfl rfl rfl rfl (y_load1 F157 plInt rfl rfl (((H156.blk 1 rfl).cell _).trans rfl)) ?_; intro a158 F158; clear F157
                    refine s_val wkP F158 rfl rfl rfl rfl (y_fieldAddr F158 mfld0 rfl rfl) ?_; intro a159 F159; clear F158
                    refine s_val wkP F159 rfl rfl rfl rfl (y_load1 F159 plInt rfl rfl (((H156.blk 0 rfl).cell _).trans rfl)) ?_; intro a160 F160; clear F159
                    refine s_val wkP F160 rfl rfl rfl rfl (y_eql F160 rfl rfl rfl) ?_; intro a161 F161; clear F160
                    refine s_val wkP F161 rfl rfl rfl rfl (y_move F161 rfl rfl) ?_; intro a162 F162; clear F161
                    refine g_split (k := 103) F162 rfl (fun he1 F163 => ?_) (fun he1 F163 => ?_)
                    · clear F162
                      refine g_onP F163 rfl rfl rfl rfl ?_
                      refine s_val wkP F163 rfl rfl rfl rfl (y_fieldAddr F163 mfld1 rfl rfl) ?_; intro a164 F164; clear F163
                      refine g_onP F164 rfl rfl rfl rfl ?_
                      refine s_val wkP F164 rfl rfl rfl rfl (y_load1 F164 plU64 rfl rfl (((H156.blk 1 rfl).cell _).trans rfl)) ?_; intro a165 F165; clear F164
                      refine g_onP F165 rfl rfl rfl rfl ?_
                      refine s_val wkP F165 rfl rfl rfl rfl (y_move F165 rfl rfl) ?_; intro a166 F166; clear F165
                      refine g_onP F166 rfl rfl rfl rfl ?_
                      refine s_val wkP F166 rfl rfl rfl rfl (y_geq F166 rfl rfl rfl) ?_; intro a167 F167; clear F166
                      refine s_val wkP F167 rfl rfl rfl rfl (y_pickT F167 rfl rfl rfl) ?_; intro a168 F168; clear F167
                      refine s_val wkP F168 rfl rfl rfl rfl (y_move F168 rfl rfl) ?_; intro a169 F169; clear F168
                      refine g_split (k := 109) F169 rfl (fun he2 F170 => ?_) (fun he2 F170 => ?_)
                      · clear F169
                        refine g_onP F170 rfl rfl rfl rfl ?_
                        refine s_val wkP F170 rfl rfl rfl rfl (y_fieldAddr F170 mfld1 rfl rfl) ?_; intro a171 F171; clear F170
                        refine g_onP F171 rfl rfl rfl rfl ?_
                        refine s_val wkP F171 rfl rfl rfl rfl (y_load1 F171 plU64 rfl rfl (((H156.blk 0 rfl).cell _).trans rfl)) ?_; intro a172 F172; clear F171
                        refine g_onP F172 rfl rfl rfl rfl ?_
                        refine s_val wkP F172 rfl rfl rfl rfl (y_move F172 rfl rfl) ?_; intro a173 F173; clear F172
                        refine g_onP F173 rfl rfl rfl rfl ?_
                        refine s_val wkP F173 rfl rfl rfl rfl (y_geq F173 rfl rfl rfl) ?_; intro a174 F174; clear F173
                        refine s_val wkP F174 rfl rfl rfl rfl (y_pickT F174 rfl rfl rfl) ?_; intro a175 F175; clear F174
                        refine wpList_nil ?_
                        refine c_then ?_
                        refine x_condP F175 rfl (fun he3 => ?_) (fun he3 => ?_)
                        · skip
                          refine wp_seq ?_
                          refine r_lit ?_
                          refine s_val wkP F175 rfl rfl rfl rfl (y_assign F175 rfl rfl) ?_; intro a177 F177; clear F175
                          refine wpList_nil ?_
                          refine c_then ?_
                          refine wp_ret ?_
                          refine c_blkR ?_
                          refine c_thenR ?_
                          refine c_thenR ?_
                          refine c_blkR ?_
                          refine c_blkR ?_
                          refine c_thenR ?_
                          refine c_thenR ?_
                          refine c_blkR ?_
                          refine c_thenR ?_
                          refine x_ret1 F177 rfl rfl ?_
                          exact ⟨rfl, H156.below⟩
                        · skip
                          refine wp_skip ?_
                          refine c_blkN ?_
                          refine c_then ?_
                          refine r_lit ?_
                          refine s_val wkP F175 rfl rfl rfl rfl (y_add F175 rfl rfl rfl (r := (((k4 : Nat) : Int)) + (1)) (wrap_i64 (by omega) (by omega) (by omega))) ?_; intro a178 F178; clear F175
                          refine s_val wkP F178 rfl rfl rfl rfl (y_move F178 rfl rfl) ?_; intro a179 F179; clear F178
                          refine wpList_nil ?_
                          refine c_then ?_
                          exact ⟨k4 + 1, ⟨F179.cut _ ⟨rfl, rfl, rfl, rfl, rfl, rfl, rfl, rfl, rfl, rfl, rfl, rfl, trivial⟩, H156.pick [1, 2, 3] (by decide) rfl, by omega, take_all' my hno4 (by rintro ⟨h1, h2, h3⟩; omega)⟩, by first | omega | (dsimp only; omega)⟩
                      · clear F169
                        refine g_off wkP F170 rfl rfl rfl rfl rfl rfl rfl ?_; intro a180 F180; clear F170
                        refine g_off wkP F180 rfl rfl rfl rfl rfl rfl rfl ?_; intro a181 F181; clear F180
                        refine g_off wkP F181 rfl rfl rfl rfl rfl rfl rfl ?_; intro a182 F182; clear F181
                        refine g_off wkP F182 rfl rfl rfl rfl rfl rfl rfl ?_; intro a183 F183; clear F182
                        refine s_val wkP F183 rfl rfl rfl rfl (y_pickF F183 rfl rfl rfl) ?_; intro a184 F184; clear F183
                        refine wpList_nil ?_
                        refine c_then ?_
                        refine x_condF F184 rfl ?_
                        refine wp_skip ?_
                        refine c_blkN ?_
                        refine c_then ?_
                        refine r_lit ?_
                        refine s_val wkP F184 rfl rfl rfl rfl (y_add F184 rfl rfl rfl (r := (((k4 : Nat) : Int)) + (1)) (wrap_i64 (by omega) (by omega) (by omega))) ?_; intro a186 F186; clear F184
                        refine s_val wkP F186 rfl rfl rfl rfl (y_move F186 rfl rfl) ?_; intro a187 F187; clear F186
                        refine wpList_nil ?_
                        refine c_then ?_
                        exact ⟨k4 + 1, ⟨F187.cut _ ⟨rfl, rfl, rfl, rfl, rfl, rfl, rfl, rfl, rfl, rfl, rfl, rfl, trivial⟩, H156.pick [1, 2, 3] (by decide) rfl, by omega, take_all' my hno4 (by rintro ⟨h1, h2, h3⟩; omega)⟩, by first | omega | (dsimp only; omega)⟩
                    · clear F162
                      refine g_off wkP F163 rfl rfl rfl rfl rfl rfl rfl ?_; intro a188 F188; clear F163
                      refine g_off wkP F188 rfl rfl rfl rfl rfl rfl rfl ?_; intro a189 F189; clear F188
                      refine g_off wkP F189 rfl rfl rfl rfl rfl rfl rfl ?_; intro a190 F190; clear F189
                      refine g_off wkP F190 rfl rfl rfl rfl rfl rfl rfl ?_; intro a191 F191; clear F190
                      refine s_val wkP F191 rfl rfl rfl rfl (y_pickF F191 rfl rfl rfl) ?_; intro a192 F192; clear F191
                      refine s_val wkP F192 rfl rfl rfl rfl (y_move F192 rfl rfl) ?_; intro a193 F193; clear F192
                      refine g_off wkP F193 rfl rfl rfl rfl rfl rfl rfl ?_; intro a194 F194; clear F193
                      refine g_off wkP F194 rfl rfl rfl rfl rfl rfl rfl ?_; intro a195 F195; clear F194
                      refine g_off wkP F195 rfl rfl rfl rfl rfl rfl rfl ?_; intro a196 F196; clear F195
                      refine g_off wkP F196 rfl rfl rfl rfl rfl rfl rfl ?_; intro a197 F197; clear F196
                      refine s_val wkP F197 rfl rfl rfl rfl (y_pickF F197 rfl rfl rfl) ?_; intro a198 F198; clear F197
                      refine wpList_nil ?_
                      refine c_then ?_
                      refine x_condF F198 rfl ?_
                      refine wp_skip ?_
                      refine c_blkN ?_
                      refine c_then ?_
                      refine r_lit ?_
                      refine s_val wkP F198 rfl rfl rfl rfl (y_add F198 rfl rfl rfl (r := (((k4 : Nat) : Int)) + (1)) (wrap_i64 (by omega) (by omega) (by omega))) ?_; intro a200 F200; clear F198
                      refine s_val wkP F200 rfl rfl rfl rfl (y_move F200 rfl rfl) ?_; intro a201 F201; clear F200
                      refine wpList_nil ?_
                      refine c_then ?_
                      exact ⟨k4 + 1, ⟨F201.cut _ ⟨rfl, rfl, rfl, rfl, rfl, rfl, rfl, rfl, rfl, rfl, rfl, rfl, trivial⟩, H156.pick [1, 2, 3] (by decide) rfl, by omega, take_all' my hno4 (by rintro ⟨h1, h2, h3⟩; omega)⟩, by first | omega | (dsimp only; omega)⟩
                  · skip
                    refine wp_exit ?_
                    refine c_thenX ?_
                    refine c_thenX ?_
                    refine c_hit ?_
                    refine c_blkN ?_
                    refine c_then ?_
                    refine r_lit ?_
                    refine s_val wkP F149 rfl rfl rfl rfl (y_add F149 rfl rfl rfl (r := (((k3 : Nat) : Int)) + (1)) (wrap_i64 (by omega) (by omega) (by omega))) ?_; intro a202 F202; clear F149
                    refine s_val wkP F202 rfl rfl rfl rfl (y_move F202 rfl rfl) ?_; intro a203 F203; clear F202
                    refine wpList_nil ?_
                    refine c_then ?_
                    exact ⟨k3 + 1, ⟨F203.cut _ ⟨rfl, rfl, rfl, rfl, rfl, trivial⟩, H148.pick [1, 2] (by decide) rfl, by omega, take_all' mx hno3 (by obtain rfl : k4 = M.length := (by omega); rw [List.take_length] at hno4; exact hno4)⟩, by first | omega | (dsimp only; omega)⟩
                · skip
                  refine wp_exit ?_
                  refine c_thenX ?_
                  refine c_thenX ?_
                  refine c_hit ?_
                  refine c_then ?_
                  refine wp_seq ?_
                  refine r_lit ?_
                  refine s_val wkP F136 rfl rfl rfl rfl (y_assign F136 rfl rfl) ?_; intro a204 F204; clear F136
                  refine wpList_nil ?_
                  refine c_then ?_
                  refine wp_ret ?_
                  refine x_ret1 F204 rfl rfl ?_
                  exfalso
                  obtain rfl : k3 = L.length := by omega
                  rw [List.take_length] at hno3
                  rw [vals_up hu hwL] at hcm
                  rw [vals_up hu2 hwM] at hc2
                  refine common hu hu2 hb hb2 (com_pos hcm (g := min last c2) ?_ (Int.min_le_left _ _)) (com_pos hc2 (g := min last c2) ?_ (Int.min_le_right _ _)) hno3
                  all_goals (
                    have h1 : 0 ≤ min last c2 := by
                      have := com_nonneg hcm (fun u hu' => by obtain ⟨x, hx, rfl⟩ := List.mem_map.1 hu'; exact (Mrk.genB (hwL x hx)).1)
                      have := com_nonneg hc2 (fun u hu' => by obtain ⟨x, hx, rfl⟩ := List.mem_map.1 hu'; exact (Mrk.genB (hwM x hx)).1)
                      omega
                    omega)
end Go.Proofs.Ytchcoenpnmgnhaa
