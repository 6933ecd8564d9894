/- pdqsort. -/
import Derived.Test.YtchcoenpnmgnhaaTalF
import Derived.Test.YtchcoenpnmgnhaaSortP
set_option linter.unusedSimpArgs false
set_option linter.unusedVariables false
namespace Go.Proofs.Ytchcoenpnmgnhaa
open Go.ChangeShapes Go.WideShapes Go.ChangeAt Go.RowKit Go.Tri
set_option maxRecDepth 100000 in
set_option maxHeartbeats 2000000 in
theorem siftDown {w0 w : World} {ls : List HP} {p : Option Addr} {n cap : Nat} (xs : List Int) (hn : xs.length = n) (hn1 : n ≤ 1000000) (lo hi f : Nat) (hfn : f + hi ≤ n) (hln : lo ≤ n) (hh : Heap ltI f (lo + 1) hi xs) (H : St w0 w (HP.own 24 1 (.slice p n cap) (n) (rows (inC .u64) xs) :: ls)) :
    Calls Try.prog 47 [.slice p n cap, .int .i64 (lo : Int), .int .i64 (hi : Int), .int .i64 (f : Int)].toArray w (fun e w' => ∃ v, e = .returned v ∧ ∃ ys, v = .tuple #[] ∧ (Seg (f + lo) (f + hi) xs ys ∧ Heap ltI f lo hi ys) ∧ St w0 w' (HP.own 24 1 (.slice p n cap) (n) (rows (inC .u64) ys) :: ls)) := by
  have hp := (H.ownP 0 rfl).2.2
  refine x_enter Try.func47 rfl rfl rfl ?_
  intro a0 F0
  replace F0 : Fr ⟨76, []⟩ a0 [(0, .slice p n cap), (1, .int .i64 (lo : Int)), (2, .int .i64 (hi : Int)), (3, .int .i64 (f : Int))] := F0
  have H0 : St w0 w ([HP.own 24 1 (.slice p n cap) (n) (rows (inC .u64) xs)] ++ ls) := H
  refine wp_seq ?_
  refine r_lit ?_
  refine s_val wkP F0 rfl rfl rfl rfl (y_move F0 rfl rfl) ?_; intro a1 F1; clear F0
  refine s_val wkP F1 rfl rfl rfl rfl (y_assign F1 rfl rfl) ?_; intro a2 F2; clear F1
  refine wpList_nil ?_
  refine c_then ?_
  refine wp_block ?_
  refine x_loop (G := Nat × List Int) (fun gg aa ww => match gg with | (r, ys) => Fr ⟨76, []⟩ aa [(0, .slice p n cap), (2, .int .i64 (((hi : Nat) : Int))), (3, .int .i64 (((f : Nat) : Int))), (8, .int .i64 (((r : Nat) : Int)))] ∧ St w0 ww ([HP.own 24 1 (.slice p n cap) (n) (rows (inC .u64) ys)] ++ ls) ∧ (lo ≤ r ∧ r ≤ n) ∧ (Seg (f + lo) (f + hi) xs ys) ∧ (ys.length = n) ∧ (Sift ltI f lo hi r ys)) (fun gg => match gg with | (r, ys) => hi - r) (lo, xs) ⟨F2.cut _ ⟨rfl, rfl, rfl, rfl, trivial⟩, H0, by omega, Seg.refl _ _ _, hn, Sift.start hh⟩ ?_
  clear F2
  rintro ⟨r, ys⟩ a3 w3 ⟨F3, H3, hr, hsg, hyl, hsf⟩
  refine wp_block ?_
  refine wp_seq ?_
  refine r_lit ?_
  refine s_val wkP F3 rfl rfl rfl rfl (y_move F3 rfl rfl) ?_; intro a4 F4; clear F3
  refine s_val wkP F4 rfl rfl rfl rfl (y_mul F4 rfl rfl rfl (r := ((2 * r : Nat) : Int)) (wrap_i64 (by omega) (by omega) (by omega))) ?_; intro a5 F5; clear F4
  refine s_val wkP F5 rfl rfl rfl rfl (y_add F5 rfl rfl rfl (r := ((2 * r + 1 : Nat) : Int)) (wrap_i64 (by omega) (by omega) (by omega))) ?_; intro a6 F6; clear F5
  refine s_val wkP F6 rfl rfl rfl rfl (y_assign F6 rfl rfl) ?_; intro a7 F7; clear F6
  refine wpList_nil ?_
  refine c_then ?_
  refine wp_seq ?_
  refine wp_seq ?_
  refine r_lit ?_
  refine s_val wkP F7 rfl rfl rfl rfl (y_move F7 rfl rfl) ?_; intro a8 F8; clear F7
  refine s_val wkP F8 rfl rfl rfl rfl (y_move F8 rfl rfl) ?_; intro a9 F9; clear F8
  refine s_val wkP F9 rfl rfl rfl rfl (y_geq F9 rfl rfl rfl) ?_; intro a10 F10; clear F9
  refine wpList_nil ?_
  refine c_then ?_
  refine x_condP F10 rfl (fun hlf => ?_) (fun hlf => ?_)
  · skip
    have hfin := hsf.leaf (by omega)
    refine wp_exit ?_
    refine c_thenX ?_
    refine c_miss rfl ?_
    refine c_thenX ?_
    refine c_hit ?_
    refine x_end0 F10 rfl ?_
    exact ⟨_, rfl, _, rfl, ⟨hsg, hfin⟩, H3⟩
  · skip
    refine wp_skip ?_
    refine c_then ?_
    refine x_seqM (fun aa ww => ∃ c : Nat, Fr ⟨76, []⟩ aa [(0, .slice p n cap), (2, .int .i64 (((hi : Nat) : Int))), (3, .int .i64 (((f : Nat) : Int))), (8, .int .i64 (((r : Nat) : Int))), (11, .int .i64 (((r : Nat) : Int))), (12, .int .i64 (((2 * r : Nat) : Int))), (13, .int .i64 (((2 * r + 1 : Nat) : Int))), (14, .int .i64 (((2 * r + 1 : Nat) : Int))), (15, .int .i64 (((hi : Nat) : Int))), (16, .bool (decide ((((hi : Nat) : Int)) ≤ (((2 * r + 1 : Nat) : Int))))), (9, .int .i64 (((c : Nat) : Int)))] ∧ St w0 ww ([HP.own 24 1 (.slice p n cap) (n) (rows (inC .u64) ys)] ++ ls) ∧ (c = 2 * r + 1 ∨ c = 2 * r + 2) ∧ (c < hi) ∧ (∀ z, ys[f + c]? = some z → ∀ oo y, (oo = 2 * r + 1 ∨ oo = 2 * r + 2) → oo < hi → ys[f + oo]? = some y → ltI z y = false)) ?_ ?_
    · skip
      refine wp_seq ?_
      refine q_region (fun u => St w0 u ([HP.own 24 1 (.slice p n cap) (n) (rows (inC .u64) ys)] ++ ls)) (by kernel_rfl) (by kernel_rfl) H3.drew ?_
      refine q_val F10 rfl rfl rfl (fun u hu => y_move F10 rfl rfl) ?_; intro a13 F13; clear F10
      refine q_val F13 rfl rfl rfl (fun u hu => y_add F13 rfl rfl rfl (r := ((2 * r + 1 + 1 : Nat) : Int)) (wrap_i64 (by omega) (by omega) (by omega))) ?_; intro a14 F14; clear F13
      refine q_val F14 rfl rfl rfl (fun u hu => y_move F14 rfl rfl) ?_; intro a15 F15; clear F14
      refine q_val F15 rfl rfl rfl (fun u hu => y_lss F15 rfl rfl rfl) ?_; intro a16 F16; clear F15
      refine q_val F16 rfl rfl rfl (fun u hu => y_move F16 rfl rfl) ?_; intro a17 F17; clear F16
      refine g_split (k := 21) F17 rfl (fun hgd F18 => ?_) (fun hgd F18 => ?_)
      · clear F17
        refine qg_on F18 rfl rfl rfl rfl ?_
        refine q_val F18 rfl rfl rfl (fun u hu => y_move F18 rfl rfl) ?_; intro a19 F19; clear F18
        refine qg_on F19 rfl rfl rfl rfl ?_
        refine q_val F19 rfl rfl rfl (fun u hu => y_move F19 rfl rfl) ?_; intro a20 F20; clear F19
        refine qg_on F20 rfl rfl rfl rfl ?_
        refine q_val F20 rfl rfl rfl (fun u hu => y_move F20 rfl rfl) ?_; intro a21 F21; clear F20
        refine qg_on F21 rfl rfl rfl rfl ?_
        refine q_val F21 rfl rfl rfl (fun u hu => y_add F21 rfl rfl rfl (r := ((f + (2 * r + 1) : Nat) : Int)) (wrap_i64 (by omega) (by omega) (by omega))) ?_; intro a22 F22; clear F21
        refine qg_on F22 rfl rfl rfl rfl ?_
        obtain ⟨bb23, hpe23⟩ := hp (by omega)
        obtain ⟨x1, mx1⟩ : ∃ x, (ys)[f + (2 * r + 1)]? = some x := ⟨_, List.getElem?_eq_getElem (by first | omega | (simp only [List.length_set]; omega))⟩
        refine q_val F22 rfl rfl rfl (fun u hu => y_indexP F22 elemU64 rfl rfl rfl hpe23 (by omega)) ?_; intro a25 F25; clear F22
        refine qg_on F25 rfl rfl rfl rfl ?_
        refine q_val F25 rfl rfl rfl (fun u hu => y_load1 F25 plU64 rfl rfl (Row.elem (inC_len .u64) (hu.ownRowP 0 rfl hpe23) (fun _ _ => trivial) mx1 0 _ rfl)) ?_; intro a26 F26; clear F25
        refine qg_on F26 rfl rfl rfl rfl ?_
        refine q_val F26 rfl rfl rfl (fun u hu => y_move F26 rfl rfl) ?_; intro a27 F27; clear F26
        refine qg_on F27 rfl rfl rfl rfl ?_
        refine q_val F27 rfl rfl rfl (fun u hu => y_move F27 rfl rfl) ?_; intro a28 F28; clear F27
        refine qg_on F28 rfl rfl rfl rfl ?_
        refine q_val F28 rfl rfl rfl (fun u hu => y_move F28 rfl rfl) ?_; intro a29 F29; clear F28
        refine qg_on F29 rfl rfl rfl rfl ?_
        refine q_val F29 rfl rfl rfl (fun u hu => y_add F29 rfl rfl rfl (r := ((f + (2 * r + 1) : Nat) : Int)) (wrap_i64 (by omega) (by omega) (by omega))) ?_; intro a30 F30; clear F29
        refine qg_on F30 rfl rfl rfl rfl ?_
        refine q_val F30 rfl rfl rfl (fun u hu => y_add F30 rfl rfl rfl (r := ((f + (2 * r + 1 + 1) : Nat) : Int)) (wrap_i64 (by omega) (by omega) (by omega))) ?_; intro a31 F31; clear F30
        refine qg_on F31 rfl rfl rfl rfl ?_
        obtain ⟨x2, mx2⟩ : ∃ x, (ys)[f + (2 * r + 1 + 1)]? = some x := ⟨_, List.getElem?_eq_getElem (by first | omega | (simp only [List.length_set]; omega))⟩
        refine q_val F31 rfl rfl rfl (fun u hu => y_indexP F31 elemU64 rfl rfl rfl hpe23 (by omega)) ?_; intro a33 F33; clear F31
        refine qg_on F33 rfl rfl rfl rfl ?_
        refine q_val F33 rfl rfl rfl (fun u hu => y_load1 F33 plU64 rfl rfl (Row.elem (inC_len .u64) (hu.ownRowP 0 rfl hpe23) (fun _ _ => trivial) mx2 0 _ rfl)) ?_; intro a34 F34; clear F33
        refine qg_on F34 rfl rfl rfl rfl ?_
        refine q_call F34 rfl rfl rfl (fun u hu => y_call F34 rfl rfl ent41) (fun u hu => (lessU _ _ _).mono fun e u2 he => ⟨he.1, hu.call0 he.2⟩) ?_; intro a35 F35; clear F34
        refine q_val F35 rfl rfl rfl (fun u hu => y_pickT F35 rfl rfl rfl) ?_; intro a36 F36; clear F35
        refine q_nil ?_; intro w37 H37
        refine c_then ?_
        refine x_cond F36 rfl (fun hls => ?_) (fun hls => ?_)
        · skip
          refine r_lit ?_
          refine s_val wkP F36 rfl rfl rfl rfl (y_move F36 rfl rfl) ?_; intro a39 F39; clear F36
          refine s_val wkP F39 rfl rfl rfl rfl (y_add F39 rfl rfl rfl (r := ((2 * r + 1 + 1 : Nat) : Int)) (wrap_i64 (by omega) (by omega) (by omega))) ?_; intro a40 F40; clear F39
          refine s_val wkP F40 rfl rfl rfl rfl (y_assign F40 rfl rfl) ?_; intro a41 F41; clear F40
          refine wpList_nil ?_
          refine c_then ?_
          exact ⟨2 * r + 1 + 1, F41.cut _ ⟨rfl, rfl, rfl, rfl, rfl, rfl, rfl, rfl, rfl, rfl, rfl, trivial⟩, H37, by omega, by omega, Sift.max2 swoI mx1 mx2 hls⟩
        · skip
          refine wp_skip ?_
          refine c_then ?_
          exact ⟨2 * r + 1, F36.cut _ ⟨rfl, rfl, rfl, rfl, rfl, rfl, rfl, rfl, rfl, rfl, rfl, trivial⟩, H37, by omega, by omega, Sift.max1 swoI mx1 mx2 hls⟩
      · clear F17
        refine qg_off F18 rfl rfl rfl rfl rfl rfl rfl ?_; intro a42 F42; clear F18
        refine qg_off F42 rfl rfl rfl rfl rfl rfl rfl ?_; intro a43 F43; clear F42
        refine qg_off F43 rfl rfl rfl rfl rfl rfl rfl ?_; intro a44 F44; clear F43
        refine qg_off F44 rfl rfl rfl rfl rfl rfl rfl ?_; intro a45 F45; clear F44
        refine qg_off F45 rfl rfl rfl rfl rfl rfl rfl ?_; intro a46 F46; clear F45
        refine qg_off F46 rfl rfl rfl rfl rfl rfl rfl ?_; intro a47 F47; clear F46
        refine qg_off F47 rfl rfl rfl rfl rfl rfl rfl ?_; intro a48 F48; clear F47
        refine qg_off F48 rfl rfl rfl rfl rfl rfl rfl ?_; intro a49 F49; clear F48
        refine qg_off F49 rfl rfl rfl rfl rfl rfl rfl ?_; intro a50 F50; clear F49
        refine qg_off F50 rfl rfl rfl rfl rfl rfl rfl ?_; intro a51 F51; clear F50
        refine qg_off F51 rfl rfl rfl rfl rfl rfl rfl ?_; intro a52 F52; clear F51
        refine qg_off F52 rfl rfl rfl rfl rfl rfl rfl ?_; intro a53 F53; clear F52
        refine qg_off F53 rfl rfl rfl rfl rfl rfl rfl ?_; intro a54 F54; clear F53
        refine qg_off F54 rfl rfl rfl rfl rfl rfl rfl ?_; intro a55 F55; clear F54
        refine q_val F55 rfl rfl rfl (fun u hu => y_pickF F55 rfl rfl rfl) ?_; intro a56 F56; clear F55
        refine q_nil ?_; intro w57 H57
        refine c_then ?_
        refine x_condF F56 rfl ?_
        refine wp_skip ?_
        refine c_then ?_
        exact ⟨2 * r + 1, F56.cut _ ⟨rfl, rfl, rfl, rfl, rfl, rfl, rfl, rfl, rfl, rfl, rfl, trivial⟩, H57, by omega, by omega, Sift.max0 swoI (by omega)⟩
    · skip
      clear F10
      rintro a12 w12 ⟨c, F12, H12, hc, hch, hmax⟩
      refine wp_seq ?_
      refine wp_seq ?_
      refine q_region (fun u => St w0 u ([HP.own 24 1 (.slice p n cap) (n) (rows (inC .u64) ys)] ++ ls)) (by kernel_rfl) (by kernel_rfl) H12.drew ?_
      refine q_val F12 rfl rfl rfl (fun u hu => y_move F12 rfl rfl) ?_; intro a59 F59; clear F12
      refine q_val F59 rfl rfl rfl (fun u hu => y_move F59 rfl rfl) ?_; intro a60 F60; clear F59
      refine q_val F60 rfl rfl rfl (fun u hu => y_move F60 rfl rfl) ?_; intro a61 F61; clear F60
      refine q_val F61 rfl rfl rfl (fun u hu => y_add F61 rfl rfl rfl (r := ((f + r : Nat) : Int)) (wrap_i64 (by omega) (by omega) (by omega))) ?_; intro a62 F62; clear F61
      obtain ⟨bb63, hpe63⟩ := hp (by omega)
      obtain ⟨x, mx⟩ : ∃ x, (ys)[f + r]? = some x := ⟨_, List.getElem?_eq_getElem (by first | omega | (simp only [List.length_set]; omega))⟩
      refine q_val F62 rfl rfl rfl (fun u hu => y_indexP F62 elemU64 rfl rfl rfl hpe63 (by omega)) ?_; intro a65 F65; clear F62
      refine q_val F65 rfl rfl rfl (fun u hu => y_load1 F65 plU64 rfl rfl (Row.elem (inC_len .u64) (hu.ownRowP 0 rfl hpe63) (fun _ _ => trivial) mx 0 _ rfl)) ?_; intro a66 F66; clear F65
      refine q_val F66 rfl rfl rfl (fun u hu => y_move F66 rfl rfl) ?_; intro a67 F67; clear F66
      refine q_val F67 rfl rfl rfl (fun u hu => y_move F67 rfl rfl) ?_; intro a68 F68; clear F67
      refine q_val F68 rfl rfl rfl (fun u hu => y_move F68 rfl rfl) ?_; intro a69 F69; clear F68
      refine q_val F69 rfl rfl rfl (fun u hu => y_add F69 rfl rfl rfl (r := ((f + c : Nat) : Int)) (wrap_i64 (by omega) (by omega) (by omega))) ?_; intro a70 F70; clear F69
      obtain ⟨z, mz⟩ : ∃ x, (ys)[f + c]? = some x := ⟨_, List.getElem?_eq_getElem (by first | omega | (simp only [List.length_set]; omega))⟩
      refine q_val F70 rfl rfl rfl (fun u hu => y_indexP F70 elemU64 rfl rfl rfl hpe63 (by omega)) ?_; intro a72 F72; clear F70
      refine q_val F72 rfl rfl rfl (fun u hu => y_load1 F72 plU64 rfl rfl (Row.elem (inC_len .u64) (hu.ownRowP 0 rfl hpe63) (fun _ _ => trivial) mz 0 _ rfl)) ?_; intro a73 F73; clear F72
      refine q_call F73 rfl rfl rfl (fun u hu => y_call F73 rfl rfl ent41) (fun u hu => (lessU _ _ _).mono fun e u2 he => ⟨he.1, hu.call0 he.2⟩) ?_; intro a74 F74; clear F73
      refine q_val F74 rfl rfl rfl (fun u hu => y_not F74 rfl rfl) ?_; intro a75 F75; clear F74
      refine q_nil ?_; intro w76 H76
      refine c_then ?_
      refine x_cond F75 rfl (fun hst => ?_) (fun hst => ?_)
      · skip
        replace hst : ltI x z = false := by simpa using hst
        have hfin := hsf.stop swoI hc hch mx mz (hmax z mz) hst
        refine wp_ret ?_
        refine c_thenR ?_
        refine c_blkR ?_
        refine c_thenR ?_
        refine c_blkR ?_
        refine x_ret0 F75 rfl ?_
        exact ⟨_, rfl, _, rfl, ⟨hsg, hfin⟩, H76⟩
      · skip
        replace hst : ltI x z = true := by simpa using hst
        refine wp_skip ?_
        refine c_then ?_
        refine wp_seq ?_
        refine mix_region [21, 23] [(0, 0), (0, 1), (0, 2), (0, 3), (0, 4), (0, 5), (0, 6), (0, 7), (0, 8), (0, 9), (0, 10), (0, 11), (0, 12), (1, 13), (0, 14), (0, 15), (0, 16), (0, 17), (0, 18), (1, 19), (0, 20), (2, 21), (0, 22), (2, 23)] (fun u => ∃ ls, St w0 u ls) (by kernel_rfl) (by kernel_rfl) ⟨_, H76.drew⟩ ?_
        have H78 := H76.drew
        generalize w76.drew = w78 at H78 ⊢
        refine m_pure F75 rfl rfl rfl rfl (fun u hu => y_move F75 rfl rfl) ?_; intro a79 F79; clear F75
        refine m_pure F79 rfl rfl rfl rfl (fun u hu => y_move F79 rfl rfl) ?_; intro a80 F80; clear F79
        refine m_pure F80 rfl rfl rfl rfl (fun u hu => y_move F80 rfl rfl) ?_; intro a81 F81; clear F80
        refine m_pure F81 rfl rfl rfl rfl (fun u hu => y_add F81 rfl rfl rfl (r := ((f + r : Nat) : Int)) (wrap_i64 (by omega) (by omega) (by omega))) ?_; intro a82 F82; clear F81
        refine m_pure F82 rfl rfl rfl rfl (fun u hu => y_move F82 rfl rfl) ?_; intro a83 F83; clear F82
        refine m_pure F83 rfl rfl rfl rfl (fun u hu => y_move F83 rfl rfl) ?_; intro a84 F84; clear F83
        refine m_pure F84 rfl rfl rfl rfl (fun u hu => y_move F84 rfl rfl) ?_; intro a85 F85; clear F84
        refine m_pure F85 rfl rfl rfl rfl (fun u hu => y_add F85 rfl rfl rfl (r := ((f + c : Nat) : Int)) (wrap_i64 (by omega) (by omega) (by omega))) ?_; intro a86 F86; clear F85
        refine m_pure F86 rfl rfl rfl rfl (fun u hu => y_move F86 rfl rfl) ?_; intro a87 F87; clear F86
        refine m_pure F87 rfl rfl rfl rfl (fun u hu => y_move F87 rfl rfl) ?_; intro a88 F88; clear F87
        refine m_pure F88 rfl rfl rfl rfl (fun u hu => y_move F88 rfl rfl) ?_; intro a89 F89; clear F88
        refine m_pure F89 rfl rfl rfl rfl (fun u hu => y_add F89 rfl rfl rfl (r := ((f + c : Nat) : Int)) (wrap_i64 (by omega) (by omega) (by omega))) ?_; intro a90 F90; clear F89
        refine m_pure F90 rfl rfl rfl rfl (fun u hu => y_indexP F90 elemU64 rfl rfl rfl hpe63 (by omega)) ?_; intro a91 F91; clear F90
        refine m_read F91 rfl rfl rfl rfl (y_load1 F91 plU64 rfl rfl (Row.elem (inC_len .u64) (H78.ownRowP 0 rfl hpe63) (fun _ _ => trivial) mz 0 _ rfl)) ?_; intro a92 F92; clear F91
        refine m_pure F92 rfl rfl rfl rfl (fun u hu => y_move F92 rfl rfl) ?_; intro a93 F93; clear F92
        refine m_pure F93 rfl rfl rfl rfl (fun u hu => y_move F93 rfl rfl) ?_; intro a94 F94; clear F93
        refine m_pure F94 rfl rfl rfl rfl (fun u hu => y_move F94 rfl rfl) ?_; intro a95 F95; clear F94
        refine m_pure F95 rfl rfl rfl rfl (fun u hu => y_add F95 rfl rfl rfl (r := ((f + r : Nat) : Int)) (wrap_i64 (by omega) (by omega) (by omega))) ?_; intro a96 F96; clear F95
        refine m_pure F96 rfl rfl rfl rfl (fun u hu => y_indexP F96 elemU64 rfl rfl rfl hpe63 (by omega)) ?_; intro a97 F97; clear F96
        refine m_read F97 rfl rfl rfl rfl (y_load1 F97 plU64 rfl rfl (Row.elem (inC_len .u64) (H78.ownRowP 0 rfl hpe63) (fun _ _ => trivial) mx 0 _ rfl)) ?_; intro a98 F98; clear F97
        refine m_pure F98 rfl rfl rfl rfl (fun u hu => y_indexP F98 elemU64 rfl rfl rfl hpe63 (by omega)) ?_; intro a99 F99; clear F98
        refine m_heavy rfl rfl ?_
        refine s_setElem wkP F99 rfl rfl z1U64 rfl hpe63 rfl rfl z rfl rfl rfl H78 0 rfl (fun _ => rfl) (by first | omega | (simp only [List.length_set]; omega)) (by omega) ?_; intro w100 h100
        have H100 : St w0 w100 ([HP.own 24 1 (.slice p n cap) (n) (rows (inC .u64) (ys.set (f + r) z))] ++ ls) := h100
        clear h100
        refine wpList_nil ?_; refine c_then ⟨⟨_, H100⟩, ?_⟩
        obtain ⟨x101, mx101⟩ : ∃ x, ((ys.set (f + r) z))[f + c]? = some x := ⟨_, List.getElem?_eq_getElem (by first | omega | (simp only [List.length_set]; omega))⟩
        refine m_pure F99 rfl rfl rfl rfl (fun u hu => y_indexP F99 elemU64 rfl rfl rfl hpe63 (by omega)) ?_; intro a102 F102; clear F99
        refine m_heavy rfl rfl ?_
        refine s_setElem wkP F102 rfl rfl z1U64 rfl hpe63 rfl rfl x rfl rfl rfl H100 0 rfl (fun _ => rfl) (by first | omega | (simp only [List.length_set]; omega)) (by omega) ?_; intro w103 h103
        have H103 : St w0 w103 ([HP.own 24 1 (.slice p n cap) (n) (rows (inC .u64) ((ys.set (f + r) z).set (f + c) x))] ++ ls) := h103
        clear h103
        refine wpList_nil ?_; refine c_then ⟨⟨_, H103⟩, ?_⟩
        refine m_nil ?_
        refine c_then ?_
        refine r_lit ?_
        refine s_val wkP F102 rfl rfl rfl rfl (y_move F102 rfl rfl) ?_; intro a104 F104; clear F102
        refine s_val wkP F104 rfl rfl rfl rfl (y_assign F104 rfl rfl) ?_; intro a105 F105; clear F104
        refine wpList_nil ?_
        refine c_blkN ?_
        refine c_then ?_
        exact ⟨(c, ((ys.set (f + r) z).set (f + c) x)), ⟨F105.cut _ ⟨rfl, rfl, rfl, rfl, trivial⟩, H103, by omega, hsg.swap mx mz (by omega) (by omega) (by omega) (by omega), by simp only [List.length_set]; exact hyl, hsf.step swoI hr.1 hc hch mx mz (hmax z mz) hst⟩, by first | omega | (dsimp only; omega)⟩
theorem ent47 : ∀ args w, (callFunc 47 args).run Try.prog w = .ok (.enter 47 args) w := enters Try.func47 (by kernel_rfl) rfl
set_option maxRecDepth 100000 in
set_option maxHeartbeats 2000000 in
theorem heapSort {w0 w : World} {ls : List HP} {p : Option Addr} {n cap : Nat} (xs : List Int) (hn : xs.length = n) (hn1 : n ≤ 1000000) (a b : Nat) (hab : a < b) (hbn : b ≤ n) (H : St w0 w (HP.own 24 1 (.slice p n cap) (n) (rows (inC .u64) xs) :: ls)) :
    Calls Try.prog 36 [.slice p n cap, .int .i64 (a : Int), .int .i64 (b : Int)].toArray w (fun e w' => ∃ v, e = .returned v ∧ ∃ ys, v = .tuple #[] ∧ (Seg a b xs ys ∧ Srt ltI a b ys) ∧ St w0 w' (HP.own 24 1 (.slice p n cap) (n) (rows (inC .u64) ys) :: ls)) := by
  have hp := (H.ownP 0 rfl).2.2
  refine x_enter Try.func36 rfl rfl rfl ?_
  intro a0 F0
  replace F0 : Fr ⟨56, []⟩ a0 [(0, .slice p n cap), (1, .int .i64 (a : Int)), (2, .int .i64 (b : Int))] := F0
  have H0 : St w0 w ([HP.own 24 1 (.slice p n cap) (n) (rows (inC .u64) xs)] ++ ls) := H
  refine wp_seq ?_
  refine r_lit ?_
  refine s_val wkP F0 rfl rfl rfl rfl (y_move F0 rfl rfl) ?_; intro a1 F1; clear F0
  refine s_val wkP F1 rfl rfl rfl rfl (y_assign F1 rfl rfl) ?_; intro a2 F2; clear F1
  refine wpList_nil ?_
  refine c_then ?_
  refine wp_seq ?_
  refine r_lit ?_
  refine s_val wkP F2 rfl rfl rfl rfl (y_assign F2 rfl rfl) ?_; intro a3 F3; clear F2
  refine wpList_nil ?_
  refine c_then ?_
  refine wp_seq ?_
  refine r_lit ?_
  refine s_val wkP F3 rfl rfl rfl rfl (y_move F3 rfl rfl) ?_; intro a4 F4; clear F3
  refine s_val wkP F4 rfl rfl rfl rfl (y_move F4 rfl rfl) ?_; intro a5 F5; clear F4
  refine s_val wkP F5 rfl rfl rfl rfl (y_sub F5 rfl rfl rfl (r := ((b - a : Nat) : Int)) (wrap_i64 (by omega) (by omega) (by omega))) ?_; intro a6 F6; clear F5
  refine s_val wkP F6 rfl rfl rfl rfl (y_assign F6 rfl rfl) ?_; intro a7 F7; clear F6
  refine wpList_nil ?_
  refine c_then ?_
  refine wp_seq ?_
  refine wp_seq ?_
  refine r_lit ?_
  refine s_val wkP F7 rfl rfl rfl rfl (y_move F7 rfl rfl) ?_; intro a8 F8; clear F7
  refine s_val wkP F8 rfl rfl rfl rfl (y_sub F8 rfl rfl rfl (r := ((b - a - 1 : Nat) : Int)) (wrap_i64 (by omega) (by omega) (by omega))) ?_; intro a9 F9; clear F8
  refine s_val wkP F9 rfl rfl rfl rfl (y_quo F9 rfl rfl rfl (by omega) (r := (((b - a - 1) / 2 : Nat) : Int)) (wrap_i64 (by rw [Int.tdiv_eq_ediv_of_nonneg (by omega)]; try omega) (by omega) (by omega))) ?_; intro a10 F10; clear F9
  refine s_val wkP F10 rfl rfl rfl rfl (y_assign F10 rfl rfl) ?_; intro a11 F11; clear F10
  refine wpList_nil ?_
  refine c_then ?_
  refine wp_block ?_
  refine x_loop (G := Int × List Int) (fun gg aa ww => match gg with | (i, ys) => Fr ⟨56, []⟩ aa [(0, .slice p n cap), (6, .int .i64 (((a : Nat) : Int))), (7, .int .i64 (0)), (8, .int .i64 (((b - a : Nat) : Int))), (9, .int .i64 (i))] ∧ St w0 ww ([HP.own 24 1 (.slice p n cap) (n) (rows (inC .u64) ys)] ++ ls) ∧ (-1 ≤ i ∧ i < ((b - a : Nat) : Int)) ∧ (Seg a b xs ys) ∧ (ys.length = n) ∧ (Heap ltI a (i + 1).toNat (b - a) ys)) (fun gg => match gg with | (i, ys) => (i + 1).toNat) ((((b - a - 1) / 2 : Nat) : Int), xs) ⟨F11.cut _ ⟨rfl, rfl, rfl, rfl, rfl, trivial⟩, H0, by omega, Seg.refl _ _ _, hn, Heap.leaves _ (by omega)⟩ ?_
  clear F11
  rintro ⟨i, ys⟩ a12 w12 ⟨F12, H12, hi, hsg, hyl, hh⟩
  refine wp_seq ?_
  refine wp_seq ?_
  refine r_lit ?_
  refine s_val wkP F12 rfl rfl rfl rfl (y_move F12 rfl rfl) ?_; intro a13 F13; clear F12
  refine s_val wkP F13 rfl rfl rfl rfl (y_geq F13 rfl rfl rfl) ?_; intro a14 F14; clear F13
  refine wpList_nil ?_
  refine c_then ?_
  refine x_condP F14 rfl (fun hi0 => ?_) (fun hi0 => ?_)
  · skip
    obtain ⟨q, rfl⟩ : ∃ q : Nat, i = ((q : Nat) : Int) := ⟨i.toNat, by omega⟩
    have eq1 : (((q : Nat) : Int) + 1).toNat = q + 1 := by omega
    rw [eq1] at hh
    refine wp_skip ?_
    refine c_then ?_
    refine wp_seq ?_
    refine wp_block ?_
    refine r_lit ?_
    refine s_val wkP F14 rfl rfl rfl rfl (y_move F14 rfl rfl) ?_; intro a16 F16; clear F14
    refine s_val wkP F16 rfl rfl rfl rfl (y_move F16 rfl rfl) ?_; intro a17 F17; clear F16
    refine s_val wkP F17 rfl rfl rfl rfl (y_move F17 rfl rfl) ?_; intro a18 F18; clear F17
    refine s_val wkP F18 rfl rfl rfl rfl (y_move F18 rfl rfl) ?_; intro a19 F19; clear F18
    refine s_call wkP F19 rfl rfl rfl rfl (y_call F19 rfl rfl ent47) (siftDown (ls := ls) ys hyl hn1 q (b - a) a (by omega) (by omega) hh H12) ?_; intro v20 w20 a20 hR20 F20; clear F19
    obtain ⟨ys20, rfl, ⟨hs20, hr20⟩, H20⟩ := hR20
    replace H20 : St w0 w20 ([HP.own 24 1 (.slice p n cap) (n) (rows (inC .u64) ys20)] ++ ls) := H20
    have hl20 : ys20.length = n := hs20.len.trans hyl
    refine wpList_nil ?_
    refine c_blkN ?_
    refine c_then ?_
    refine r_lit ?_
    refine s_val wkP F20 rfl rfl rfl rfl (y_move F20 rfl rfl) ?_; intro a21 F21; clear F20
    refine s_val wkP F21 rfl rfl rfl rfl (y_sub F21 rfl rfl rfl (r := (((q : Nat) : Int)) - (1)) (wrap_i64 (by omega) (by omega) (by omega))) ?_; intro a22 F22; clear F21
    refine s_val wkP F22 rfl rfl rfl rfl (y_assign F22 rfl rfl) ?_; intro a23 F23; clear F22
    refine wpList_nil ?_
    refine c_then ?_
    exact ⟨(((q : Nat) : Int) - 1, ys20), ⟨F23.cut _ ⟨rfl, rfl, rfl, rfl, rfl, trivial⟩, H20, by omega, hsg.trans (hs20.wide (by omega) (by omega)), hl20, (by rw [show (((q : Nat) : Int) - 1 + 1).toNat = q from (by omega)]; exact hr20)⟩, by first | omega | (dsimp only; omega)⟩
  · skip
    refine wp_exit ?_
    refine c_thenX ?_
    refine c_thenX ?_
    refine c_hit ?_
    refine c_then ?_
    refine wp_seq ?_
    have hh0 : Heap ltI a 0 (b - a) ys := by have e : (i + 1).toNat = 0 := (by omega); rw [e] at hh; exact hh
    refine r_lit ?_
    refine s_val wkP F14 rfl rfl rfl rfl (y_move F14 rfl rfl) ?_; intro a24 F24; clear F14
    refine s_val wkP F24 rfl rfl rfl rfl (y_sub F24 rfl rfl rfl (r := ((b - a - 1 : Nat) : Int)) (wrap_i64 (by omega) (by omega) (by omega))) ?_; intro a25 F25; clear F24
    refine s_val wkP F25 rfl rfl rfl rfl (y_assign F25 rfl rfl) ?_; intro a26 F26; clear F25
    refine wpList_nil ?_
    refine c_then ?_
    refine wp_block ?_
    refine x_loop (G := Int × List Int) (fun gg aa ww => match gg with | (i2, zs) => Fr ⟨56, []⟩ aa [(0, .slice p n cap), (6, .int .i64 (((a : Nat) : Int))), (7, .int .i64 (0)), (10, .int .i64 (i2))] ∧ St w0 ww ([HP.own 24 1 (.slice p n cap) (n) (rows (inC .u64) zs)] ++ ls) ∧ (-1 ≤ i2 ∧ i2 < ((b - a : Nat) : Int)) ∧ (Seg a b xs zs) ∧ (zs.length = n) ∧ (Heap ltI a 0 (i2 + 1).toNat zs) ∧ (Done ltI a b a (a + (i2 + 1).toNat) zs)) (fun gg => match gg with | (i2, zs) => (i2 + 1).toNat) (((b - a - 1 : Nat) : Int), ys) ⟨F26.cut _ ⟨rfl, rfl, rfl, rfl, trivial⟩, H12, by omega, hsg, hyl, (by rw [show (((b - a - 1 : Nat) : Int) + 1).toNat = b - a from (by omega)]; exact hh0), (by rw [show a + (((b - a - 1 : Nat) : Int) + 1).toNat = b from (by omega)]; exact Done.start)⟩ ?_
    clear F26
    rintro ⟨i2, zs⟩ a27 w27 ⟨F27, H27, hi2, hsg2, hzl, hh2, hd2⟩
    refine wp_seq ?_
    refine wp_seq ?_
    refine r_lit ?_
    refine s_val wkP F27 rfl rfl rfl rfl (y_move F27 rfl rfl) ?_; intro a28 F28; clear F27
    refine s_val wkP F28 rfl rfl rfl rfl (y_geq F28 rfl rfl rfl) ?_; intro a29 F29; clear F28
    refine wpList_nil ?_
    refine c_then ?_
    refine x_condP F29 rfl (fun hi1 => ?_) (fun hi1 => ?_)
    · skip
      obtain ⟨q, rfl⟩ : ∃ q : Nat, i2 = ((q : Nat) : Int) := ⟨i2.toNat, by omega⟩
      have eq1 : (((q : Nat) : Int) + 1).toNat = q + 1 := by omega
      rw [eq1] at hh2 hd2
      refine wp_skip ?_
      refine c_then ?_
      refine wp_seq ?_
      refine wp_block ?_
      refine wp_seq ?_
      refine mix_region [17, 19] [(0, 0), (0, 1), (0, 2), (0, 3), (0, 4), (0, 5), (0, 6), (0, 7), (0, 8), (0, 9), (0, 10), (1, 11), (0, 12), (0, 13), (0, 14), (1, 15), (0, 16), (2, 17), (0, 18), (2, 19)] (fun u => ∃ ls, St w0 u ls) (by kernel_rfl) (by kernel_rfl) ⟨_, H27.drew⟩ ?_
      have H31 := H27.drew
      generalize w27.drew = w31 at H31 ⊢
      refine m_pure F29 rfl rfl rfl rfl (fun u hu => y_move F29 rfl rfl) ?_; intro a32 F32; clear F29
      refine m_pure F32 rfl rfl rfl rfl (fun u hu => y_move F32 rfl rfl) ?_; intro a33 F33; clear F32
      refine m_pure F33 rfl rfl rfl rfl (fun u hu => y_move F33 rfl rfl) ?_; intro a34 F34; clear F33
      refine m_pure F34 rfl rfl rfl rfl (fun u hu => y_move F34 rfl rfl) ?_; intro a35 F35; clear F34
      refine m_pure F35 rfl rfl rfl rfl (fun u hu => y_move F35 rfl rfl) ?_; intro a36 F36; clear F35
      refine m_pure F36 rfl rfl rfl rfl (fun u hu => y_add F36 rfl rfl rfl (r := ((a + q : Nat) : Int)) (wrap_i64 (by omega) (by omega) (by omega))) ?_; intro a37 F37; clear F36
      refine m_pure F37 rfl rfl rfl rfl (fun u hu => y_move F37 rfl rfl) ?_; intro a38 F38; clear F37
      refine m_pure F38 rfl rfl rfl rfl (fun u hu => y_move F38 rfl rfl) ?_; intro a39 F39; clear F38
      refine m_pure F39 rfl rfl rfl rfl (fun u hu => y_move F39 rfl rfl) ?_; intro a40 F40; clear F39
      refine m_pure F40 rfl rfl rfl rfl (fun u hu => y_add F40 rfl rfl rfl (r := ((a + q : Nat) : Int)) (wrap_i64 (by omega) (by omega) (by omega))) ?_; intro a41 F41; clear F40
      obtain ⟨bb42, hpe42⟩ := hp (by omega)
      obtain ⟨z, mz⟩ : ∃ x, (zs)[a + q]? = some x := ⟨_, List.getElem?_eq_getElem (by first | omega | (simp only [List.length_set]; omega))⟩
      refine m_pure F41 rfl rfl rfl rfl (fun u hu => y_indexP F41 elemU64 rfl rfl rfl hpe42 (by omega)) ?_; intro a44 F44; clear F41
      refine m_read F44 rfl rfl rfl rfl (y_load1 F44 plU64 rfl rfl (Row.elem (inC_len .u64) (H31.ownRowP 0 rfl hpe42) (fun _ _ => trivial) mz 0 _ rfl)) ?_; intro a45 F45; clear F44
      refine m_pure F45 rfl rfl rfl rfl (fun u hu => y_move F45 rfl rfl) ?_; intro a46 F46; clear F45
      refine m_pure F46 rfl rfl rfl rfl (fun u hu => y_move F46 rfl rfl) ?_; intro a47 F47; clear F46
      obtain ⟨x, mx⟩ : ∃ x, (zs)[a]? = some x := ⟨_, List.getElem?_eq_getElem (by first | omega | (simp only [List.length_set]; omega))⟩
      refine m_pure F47 rfl rfl rfl rfl (fun u hu => y_indexP F47 elemU64 rfl rfl rfl hpe42 (by omega)) ?_; intro a49 F49; clear F47
      refine m_read F49 rfl rfl rfl rfl (y_load1 F49 plU64 rfl rfl (Row.elem (inC_len .u64) (H31.ownRowP 0 rfl hpe42) (fun _ _ => trivial) mx 0 _ rfl)) ?_; intro a50 F50; clear F49
      refine m_pure F50 rfl rfl rfl rfl (fun u hu => y_indexP F50 elemU64 rfl rfl rfl hpe42 (by omega)) ?_; intro a51 F51; clear F50
      refine m_heavy rfl rfl ?_
      refine s_setElem wkP F51 rfl rfl z1U64 rfl hpe42 rfl rfl z rfl rfl rfl H31 0 rfl (fun _ => rfl) (by first | omega | (simp only [List.length_set]; omega)) (by omega) ?_; intro w52 h52
      have H52 : St w0 w52 ([HP.own 24 1 (.slice p n cap) (n) (rows (inC .u64) (zs.set (a) z))] ++ ls) := h52
      clear h52
      refine wpList_nil ?_; refine c_then ⟨⟨_, H52⟩, ?_⟩
      obtain ⟨x53, mx53⟩ : ∃ x, ((zs.set (a) z))[a + q]? = some x := ⟨_, List.getElem?_eq_getElem (by first | omega | (simp only [List.length_set]; omega))⟩
      refine m_pure F51 rfl rfl rfl rfl (fun u hu => y_indexP F51 elemU64 rfl rfl rfl hpe42 (by omega)) ?_; intro a54 F54; clear F51
      refine m_heavy rfl rfl ?_
      refine s_setElem wkP F54 rfl rfl z1U64 rfl hpe42 rfl rfl x rfl rfl rfl H52 0 rfl (fun _ => rfl) (by first | omega | (simp only [List.length_set]; omega)) (by omega) ?_; intro w55 h55
      have H55 : St w0 w55 ([HP.own 24 1 (.slice p n cap) (n) (rows (inC .u64) ((zs.set (a) z).set (a + q) x))] ++ ls) := h55
      clear h55
      refine wpList_nil ?_; refine c_then ⟨⟨_, H55⟩, ?_⟩
      refine m_nil ?_
      refine c_then ?_
      have hpop := Heap.pop swoI (f := a) (k := q) hh2 (by omega) mx mz hd2
      refine r_lit ?_
      refine s_val wkP F54 rfl rfl rfl rfl (y_move F54 rfl rfl) ?_; intro a56 F56; clear F54
      refine s_val wkP F56 rfl rfl rfl rfl (y_move F56 rfl rfl) ?_; intro a57 F57; clear F56
      refine s_val wkP F57 rfl rfl rfl rfl (y_move F57 rfl rfl) ?_; intro a58 F58; clear F57
      refine s_val wkP F58 rfl rfl rfl rfl (y_move F58 rfl rfl) ?_; intro a59 F59; clear F58
      refine s_call wkP F59 rfl rfl rfl rfl (y_call F59 rfl rfl ent47) (siftDown (ls := ls) ((zs.set (a) z).set (a + q) x) (by simp only [List.length_set]; exact hzl) hn1 0 q a (by omega) (by omega) hpop.1 H55) ?_; intro v60 w60 a60 hR60 F60; clear F59
      obtain ⟨ys60, rfl, ⟨hs60, hr60⟩, H60⟩ := hR60
      replace H60 : St w0 w60 ([HP.own 24 1 (.slice p n cap) (n) (rows (inC .u64) ys60)] ++ ls) := H60
      have hl60 : ys60.length = n := hs60.len.trans (by simp only [List.length_set]; exact hzl)
      refine wpList_nil ?_
      refine c_blkN ?_
      refine c_then ?_
      refine r_lit ?_
      refine s_val wkP F60 rfl rfl rfl rfl (y_move F60 rfl rfl) ?_; intro a61 F61; clear F60
      refine s_val wkP F61 rfl rfl rfl rfl (y_sub F61 rfl rfl rfl (r := (((q : Nat) : Int)) - (1)) (wrap_i64 (by omega) (by omega) (by omega))) ?_; intro a62 F62; clear F61
      refine s_val wkP F62 rfl rfl rfl rfl (y_assign F62 rfl rfl) ?_; intro a63 F63; clear F62
      refine wpList_nil ?_
      refine c_then ?_
      exact ⟨(((q : Nat) : Int) - 1, ys60), ⟨F63.cut _ ⟨rfl, rfl, rfl, rfl, trivial⟩, H60, by omega, (hsg2.swap mx mz (by omega) (by omega) (by omega) (by omega)).trans (hs60.wide (by omega) (by omega)), hl60, (by rw [show (((q : Nat) : Int) - 1 + 1).toNat = q from (by omega)]; exact hr60), (by rw [show (((q : Nat) : Int) - 1 + 1).toNat = q from (by omega)]; exact hpop.2.seg hs60 (by omega) (by omega))⟩, by first | omega | (dsimp only; omega)⟩
    · skip
      refine wp_exit ?_
      refine c_thenX ?_
      refine c_thenX ?_
      refine c_hit ?_
      refine x_end0 F29 rfl ?_
      have e : (i2 + 1).toNat = 0 := by omega
      rw [e] at hd2
      exact ⟨_, rfl, _, rfl, ⟨hsg2, hd2.full (Srt.short (by omega) _)⟩, H27⟩
theorem ent36 : ∀ args w, (callFunc 36 args).run Try.prog w = .ok (.enter 36 args) w := enters Try.func36 (by kernel_rfl) rfl
set_option maxRecDepth 100000 in
set_option maxHeartbeats 2000000 in
theorem reverseRange {w0 w : World} {ls : List HP} {p : Option Addr} {n cap : Nat} (xs : List Int) (hn : xs.length = n) (hn1 : n ≤ 1000000) (a b : Nat) (hab : a < b) (hbn : b ≤ n) (H : St w0 w (HP.own 24 1 (.slice p n cap) (n) (rows (inC .u64) xs) :: ls)) :
    Calls Try.prog 39 [.slice p n cap, .int .i64 (a : Int), .int .i64 (b : Int)].toArray w (fun e w' => ∃ v, e = .returned v ∧ ∃ ys, v = .tuple #[] ∧ Seg a b xs ys ∧ St w0 w' (HP.own 24 1 (.slice p n cap) (n) (rows (inC .u64) ys) :: ls)) := by
  have hp := (H.ownP 0 rfl).2.2
  refine x_enter Try.func39 rfl rfl rfl ?_
  intro a0 F0
  replace F0 : Fr ⟨32, []⟩ a0 [(0, .slice p n cap), (1, .int .i64 (a : Int)), (2, .int .i64 (b : Int))] := F0
  have H0 : St w0 w ([HP.own 24 1 (.slice p n cap) (n) (rows (inC .u64) xs)] ++ ls) := H
  refine wp_seq ?_
  refine r_lit ?_
  refine s_val wkP F0 rfl rfl rfl rfl (y_move F0 rfl rfl) ?_; intro a1 F1; clear F0
  refine s_val wkP F1 rfl rfl rfl rfl (y_assign F1 rfl rfl) ?_; intro a2 F2; clear F1
  refine wpList_nil ?_
  refine c_then ?_
  refine wp_seq ?_
  refine r_lit ?_
  refine s_val wkP F2 rfl rfl rfl rfl (y_move F2 rfl rfl) ?_; intro a3 F3; clear F2
  refine s_val wkP F3 rfl rfl rfl rfl (y_sub F3 rfl rfl rfl (r := ((b - 1 : Nat) : Int)) (wrap_i64 (by omega) (by omega) (by omega))) ?_; intro a4 F4; clear F3
  refine s_val wkP F4 rfl rfl rfl rfl (y_assign F4 rfl rfl) ?_; intro a5 F5; clear F4
  refine wpList_nil ?_
  refine c_then ?_
  refine wp_block ?_
  refine x_loop (G := Nat × Nat × List Int) (fun gg aa ww => match gg with | (i, j, ys) => Fr ⟨32, []⟩ aa [(0, .slice p n cap), (6, .int .i64 (((i : Nat) : Int))), (7, .int .i64 (((j : Nat) : Int)))] ∧ St w0 ww ([HP.own 24 1 (.slice p n cap) (n) (rows (inC .u64) ys)] ++ ls) ∧ (a ≤ i ∧ j < b) ∧ (Seg a b xs ys) ∧ (ys.length = n)) (fun gg => match gg with | (i, j, ys) => j - i) (a, b - 1, xs) ⟨F5.cut _ ⟨rfl, rfl, rfl, trivial⟩, H0, by omega, Seg.refl _ _ _, hn⟩ ?_
  clear F5
  rintro ⟨i, j, ys⟩ a6 w6 ⟨F6, H6, hi, hsg, hyl⟩
  refine wp_seq ?_
  refine wp_seq ?_
  refine r_lit ?_
  refine s_val wkP F6 rfl rfl rfl rfl (y_move F6 rfl rfl) ?_; intro a7 F7; clear F6
  refine s_val wkP F7 rfl rfl rfl rfl (y_move F7 rfl rfl) ?_; intro a8 F8; clear F7
  refine s_val wkP F8 rfl rfl rfl rfl (y_lss F8 rfl rfl rfl) ?_; intro a9 F9; clear F8
  refine wpList_nil ?_
  refine c_then ?_
  refine x_condP F9 rfl (fun hij => ?_) (fun hij => ?_)
  · skip
    refine wp_skip ?_
    refine c_then ?_
    refine wp_block ?_
    refine wp_seq ?_
    refine mix_region [13, 15] [(0, 0), (0, 1), (0, 2), (0, 3), (0, 4), (0, 5), (0, 6), (1, 7), (0, 8), (0, 9), (0, 10), (1, 11), (0, 12), (2, 13), (0, 14), (2, 15)] (fun u => ∃ ls, St w0 u ls) (by kernel_rfl) (by kernel_rfl) ⟨_, H6.drew⟩ ?_
    have H11 := H6.drew
    generalize w6.drew = w11 at H11 ⊢
    refine m_pure F9 rfl rfl rfl rfl (fun u hu => y_move F9 rfl rfl) ?_; intro a12 F12; clear F9
    refine m_pure F12 rfl rfl rfl rfl (fun u hu => y_move F12 rfl rfl) ?_; intro a13 F13; clear F12
    refine m_pure F13 rfl rfl rfl rfl (fun u hu => y_move F13 rfl rfl) ?_; intro a14 F14; clear F13
    refine m_pure F14 rfl rfl rfl rfl (fun u hu => y_move F14 rfl rfl) ?_; intro a15 F15; clear F14
    refine m_pure F15 rfl rfl rfl rfl (fun u hu => y_move F15 rfl rfl) ?_; intro a16 F16; clear F15
    refine m_pure F16 rfl rfl rfl rfl (fun u hu => y_move F16 rfl rfl) ?_; intro a17 F17; clear F16
    obtain ⟨bb18, hpe18⟩ := hp (by omega)
    obtain ⟨y, my⟩ : ∃ x, (ys)[j]? = some x := ⟨_, List.getElem?_eq_getElem (by first | omega | (simp only [List.length_set]; omega))⟩
    refine m_pure F17 rfl rfl rfl rfl (fun u hu => y_indexP F17 elemU64 rfl rfl rfl hpe18 (by omega)) ?_; intro a20 F20; clear F17
    refine m_read F20 rfl rfl rfl rfl (y_load1 F20 plU64 rfl rfl (Row.elem (inC_len .u64) (H11.ownRowP 0 rfl hpe18) (fun _ _ => trivial) my 0 _ rfl)) ?_; intro a21 F21; clear F20
    refine m_pure F21 rfl rfl rfl rfl (fun u hu => y_move F21 rfl rfl) ?_; intro a22 F22; clear F21
    refine m_pure F22 rfl rfl rfl rfl (fun u hu => y_move F22 rfl rfl) ?_; intro a23 F23; clear F22
    obtain ⟨x, mx⟩ : ∃ x, (ys)[i]? = some x := ⟨_, List.getElem?_eq_getElem (by first | omega | (simp only [List.length_set]; omega))⟩
    refine m_pure F23 rfl rfl rfl rfl (fun u hu => y_indexP F23 elemU64 rfl rfl rfl hpe18 (by omega)) ?_; intro a25 F25; clear F23
    refine m_read F25 rfl rfl rfl rfl (y_load1 F25 plU64 rfl rfl (Row.elem (inC_len .u64) (H11.ownRowP 0 rfl hpe18) (fun _ _ => trivial) mx 0 _ rfl)) ?_; intro a26 F26; clear F25
    refine m_pure F26 rfl rfl rfl rfl (fun u hu => y_indexP F26 elemU64 rfl rfl rfl hpe18 (by omega)) ?_; intro a27 F27; clear F26
    refine m_heavy rfl rfl ?_
    refine s_setElem wkP F27 rfl rfl z1U64 rfl hpe18 rfl rfl y rfl rfl rfl H11 0 rfl (fun _ => rfl) (by first | omega | (simp only [List.length_set]; omega)) (by omega) ?_; intro w28 h28
    have H28 : St w0 w28 ([HP.own 24 1 (.slice p n cap) (n) (rows (inC .u64) (ys.set (i) y))] ++ ls) := h28
    clear h28
    refine wpList_nil ?_; refine c_then ⟨⟨_, H28⟩, ?_⟩
    obtain ⟨x29, mx29⟩ : ∃ x, ((ys.set (i) y))[j]? = some x := ⟨_, List.getElem?_eq_getElem (by first | omega | (simp only [List.length_set]; omega))⟩
    refine m_pure F27 rfl rfl rfl rfl (fun u hu => y_indexP F27 elemU64 rfl rfl rfl hpe18 (by omega)) ?_; intro a30 F30; clear F27
    refine m_heavy rfl rfl ?_
    refine s_setElem wkP F30 rfl rfl z1U64 rfl hpe18 rfl rfl x rfl rfl rfl H28 0 rfl (fun _ => rfl) (by first | omega | (simp only [List.length_set]; omega)) (by omega) ?_; intro w31 h31
    have H31 : St w0 w31 ([HP.own 24 1 (.slice p n cap) (n) (rows (inC .u64) ((ys.set (i) y).set (j) x))] ++ ls) := h31
    clear h31
    refine wpList_nil ?_; refine c_then ⟨⟨_, H31⟩, ?_⟩
    refine m_nil ?_
    refine c_then ?_
    refine wp_seq ?_
    refine r_lit ?_
    refine s_val wkP F30 rfl rfl rfl rfl (y_move F30 rfl rfl) ?_; intro a32 F32; clear F30
    refine s_val wkP F32 rfl rfl rfl rfl (y_add F32 rfl rfl rfl (r := ((i + 1 : Nat) : Int)) (wrap_i64 (by omega) (by omega) (by omega))) ?_; intro a33 F33; clear F32
    refine s_val wkP F33 rfl rfl rfl rfl (y_assign F33 rfl rfl) ?_; intro a34 F34; clear F33
    refine wpList_nil ?_
    refine c_then ?_
    refine r_lit ?_
    refine s_val wkP F34 rfl rfl rfl rfl (y_move F34 rfl rfl) ?_; intro a35 F35; clear F34
    refine s_val wkP F35 rfl rfl rfl rfl (y_sub F35 rfl rfl rfl (r := ((j - 1 : Nat) : Int)) (wrap_i64 (by omega) (by omega) (by omega))) ?_; intro a36 F36; clear F35
    refine s_val wkP F36 rfl rfl rfl rfl (y_assign F36 rfl rfl) ?_; intro a37 F37; clear F36
    refine wpList_nil ?_
    refine c_blkN ?_
    refine c_then ?_
    exact ⟨(i + 1, j - 1, ((ys.set (i) y).set (j) x)), ⟨F37.cut _ ⟨rfl, rfl, rfl, trivial⟩, H31, by omega, hsg.swap mx my (by omega) (by omega) (by omega) (by omega), by simp only [List.length_set]; exact hyl⟩, by first | omega | (dsimp only; omega)⟩
  · skip
    refine wp_exit ?_
    refine c_thenX ?_
    refine c_thenX ?_
    refine c_hit ?_
    refine x_end0 F9 rfl ?_
    exact ⟨_, rfl, _, rfl, hsg, H6⟩
theorem ent39 : ∀ args w, (callFunc 39 args).run Try.prog w = .ok (.enter 39 args) w := enters Try.func39 (by kernel_rfl) rfl
end Go.Proofs.Ytchcoenpnmgnhaa
