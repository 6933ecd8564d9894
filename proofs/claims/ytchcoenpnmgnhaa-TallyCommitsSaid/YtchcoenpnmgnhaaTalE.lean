/- Insertion sort. -/
import Derived.Test.YtchcoenpnmgnhaaTalD
import Derived.Test.YtchcoenpnmgnhaaSort
set_option linter.unusedSimpArgs false
set_option linter.unusedVariables false
namespace Go.Proofs.Ytchcoenpnmgnhaa
open Go.ChangeShapes Go.WideShapes Go.ChangeAt Go.RowKit Go.Tri
set_option maxRecDepth 100000 in
set_option maxHeartbeats 2000000 in
theorem isNaNu (n : Int) (w : World) :
    Calls Try.prog 52 [.int .u64 n].toArray w (fun e w' => e = .returned (.bool false) ∧ St w w' []) := by
  refine x_enter Try.func52 rfl rfl rfl ?_
  intro a0 F0
  replace F0 : Fr ⟨6, []⟩ a0 [(0, .int .u64 n)] := F0
  have H0 := St.nil w
  refine wp_seq ?_
  refine r_lit ?_
  refine s_val wkP F0 rfl rfl rfl rfl (y_assign F0 rfl rfl) ?_; intro a1 F1; clear F0
  refine wpList_nil ?_
  refine c_then ?_
  refine wp_seq ?_
  refine r_lit ?_
  refine s_val wkP F1 rfl rfl rfl rfl (y_move F1 rfl rfl) ?_; intro a2 F2; clear F1
  refine s_val wkP F2 rfl rfl rfl rfl (y_move F2 rfl rfl) ?_; intro a3 F3; clear F2
  refine s_val wkP F3 rfl rfl rfl rfl (y_neq F3 rfl rfl rfl) ?_; intro a4 F4; clear F3
  refine s_val wkP F4 rfl rfl rfl rfl (y_assign F4 rfl rfl) ?_; intro a5 F5; clear F4
  refine wpList_nil ?_
  refine c_then ?_
  refine wp_ret ?_
  refine x_ret1 F5 rfl rfl ?_
  exact ⟨ret_bool (bne_self n), H0⟩
theorem ent52 : ∀ args w, (callFunc 52 args).run Try.prog w = .ok (.enter 52 args) w := enters Try.func52 (by kernel_rfl) rfl
set_option maxRecDepth 100000 in
set_option maxHeartbeats 2000000 in
theorem lessU (x y : Int) (w : World) :
    Calls Try.prog 41 [.int .u64 x, .int .u64 y].toArray w (fun e w' => e = .returned (.bool (ltI x y)) ∧ St w w' []) := by
  refine x_enter Try.func41 rfl rfl rfl ?_
  intro a0 F0
  replace F0 : Fr ⟨17, []⟩ a0 [(0, .int .u64 x), (1, .int .u64 y)] := F0
  have H0 := St.nil w
  refine wp_seq ?_
  refine r_lit ?_
  refine s_val wkP F0 rfl rfl rfl rfl (y_assign F0 rfl rfl) ?_; intro a1 F1; clear F0
  refine wpList_nil ?_
  refine c_then ?_
  refine wp_seq ?_
  refine r_lit ?_
  refine s_val wkP F1 rfl rfl rfl rfl (y_move F1 rfl rfl) ?_; intro a2 F2; clear F1
  refine s_callV wkP F2 rfl rfl rfl rfl (y_call F2 rfl rfl ent52) (isNaNu _ _) ?_; intro w3 a3 hR3 F3; clear F2
  have H3 : St w w3 [] := H0.call hR3
  refine s_val wkP F3 rfl rfl rfl rfl (y_move F3 rfl rfl) ?_; intro a4 F4; clear F3
  refine g_off wkP F4 rfl rfl rfl rfl rfl rfl rfl ?_; intro a5 F5; clear F4
  refine g_off wkP F5 rfl rfl rfl rfl rfl rfl rfl ?_; intro a6 F6; clear F5
  refine g_off wkP F6 rfl rfl rfl rfl rfl rfl rfl ?_; intro a7 F7; clear F6
  refine s_val wkP F7 rfl rfl rfl rfl (y_pickF F7 rfl rfl rfl) ?_; intro a8 F8; clear F7
  refine s_val wkP F8 rfl rfl rfl rfl (y_move F8 rfl rfl) ?_; intro a9 F9; clear F8
  refine g_onP F9 rfl rfl rfl rfl ?_
  refine s_val wkP F9 rfl rfl rfl rfl (y_move F9 rfl rfl) ?_; intro a10 F10; clear F9
  refine g_onP F10 rfl rfl rfl rfl ?_
  refine s_val wkP F10 rfl rfl rfl rfl (y_move F10 rfl rfl) ?_; intro a11 F11; clear F10
  refine g_onP F11 rfl rfl rfl rfl ?_
  refine s_val wkP F11 rfl rfl rfl rfl (y_lss F11 rfl rfl rfl) ?_; intro a12 F12; clear F11
  refine s_val wkP F12 rfl rfl rfl rfl (y_pickF F12 rfl rfl rfl) ?_; intro a13 F13; clear F12
  refine s_val wkP F13 rfl rfl rfl rfl (y_assign F13 rfl rfl) ?_; intro a14 F14; clear F13
  refine wpList_nil ?_
  refine c_then ?_
  refine wp_ret ?_
  refine x_ret1 F14 rfl rfl ?_
  exact ⟨rfl, H3⟩
theorem ent41 : ∀ args w, (callFunc 41 args).run Try.prog w = .ok (.enter 41 args) w := enters Try.func41 (by kernel_rfl) rfl
set_option maxRecDepth 100000 in
set_option maxHeartbeats 2000000 in
theorem insSort {w0 w : World} {ls : List HP} {p : Option Addr} {n cap : Nat} (xs : List Int) (hn : xs.length = n) (hn1 : n ≤ 1000000) (a b : Nat) (hab : a ≤ b) (hbn : b ≤ n) (H : St w0 w (HP.own 24 1 (.slice p n cap) (n) (rows (inC .u64) xs) :: ls)) :
    Calls Try.prog 35 [.slice p n cap, .int .i64 (a : Int), .int .i64 (b : Int)].toArray w (fun e w' => ∃ v, e = .returned v ∧ ∃ ys, v = .tuple #[] ∧ (Seg a b xs ys ∧ Srt ltI a b ys) ∧ St w0 w' (HP.own 24 1 (.slice p n cap) (n) (rows (inC .u64) ys) :: ls)) := by
  have hp := (H.ownP 0 rfl).2.2
  refine x_enter Try.func35 rfl rfl rfl ?_
  intro a0 F0
  replace F0 : Fr ⟨49, []⟩ a0 [(0, .slice p n cap), (1, .int .i64 (a : Int)), (2, .int .i64 (b : Int))] := F0
  have H0 : St w0 w ([HP.own 24 1 (.slice p n cap) (n) (rows (inC .u64) xs)] ++ ls) := H
  refine wp_seq ?_
  refine r_lit ?_
  refine s_val wkP F0 rfl rfl rfl rfl (y_move F0 rfl rfl) ?_; intro a1 F1; clear F0
  refine s_val wkP F1 rfl rfl rfl rfl (y_add F1 rfl rfl rfl (r := (((a : Nat) : Int)) + (1)) (wrap_i64 (by omega) (by omega) (by omega))) ?_; intro a2 F2; clear F1
  refine s_val wkP F2 rfl rfl rfl rfl (y_assign F2 rfl rfl) ?_; intro a3 F3; clear F2
  refine wpList_nil ?_
  refine c_then ?_
  refine wp_block ?_
  refine x_loop (G := Nat × List Int) (fun gg aa ww => match gg with | (i, ys) => Fr ⟨49, []⟩ aa [(0, .slice p n cap), (1, .int .i64 (((a : Nat) : Int))), (2, .int .i64 (((b : Nat) : Int))), (6, .int .i64 (((i : Nat) : Int)))] ∧ St w0 ww ([HP.own 24 1 (.slice p n cap) (n) (rows (inC .u64) ys)] ++ ls) ∧ (a + 1 ≤ i ∧ (i ≤ b ∨ i = a + 1)) ∧ (Seg a b xs ys) ∧ (ys.length = n) ∧ (Srt ltI a i ys)) (fun gg => match gg with | (i, ys) => b - i) (a + 1, xs) ⟨F3.cut _ ⟨rfl, rfl, rfl, rfl, trivial⟩, H0, by omega, Seg.refl _ _ _, hn, Srt.short (by omega) _⟩ ?_
  clear F3
  rintro ⟨i, ys⟩ a4 w4 ⟨F4, H4, hi, hsg, hyl, hsr⟩
  refine wp_seq ?_
  refine wp_seq ?_
  refine r_lit ?_
  refine s_val wkP F4 rfl rfl rfl rfl (y_move F4 rfl rfl) ?_; intro a5 F5; clear F4
  refine s_val wkP F5 rfl rfl rfl rfl (y_move F5 rfl rfl) ?_; intro a6 F6; clear F5
  refine s_val wkP F6 rfl rfl rfl rfl (y_lss F6 rfl rfl rfl) ?_; intro a7 F7; clear F6
  refine wpList_nil ?_
  refine c_then ?_
  refine x_condP F7 rfl (fun hib => ?_) (fun hib => ?_)
  · skip
    refine wp_skip ?_
    refine c_then ?_
    refine wp_seq ?_
    refine wp_block ?_
    refine wp_seq ?_
    refine r_lit ?_
    refine s_val wkP F7 rfl rfl rfl rfl (y_move F7 rfl rfl) ?_; intro a9 F9; clear F7
    refine s_val wkP F9 rfl rfl rfl rfl (y_assign F9 rfl rfl) ?_; intro a10 F10; clear F9
    refine wpList_nil ?_
    refine c_then ?_
    refine wp_block ?_
    refine x_loop (G := Nat × List Int) (fun gg aa ww => match gg with | (j, zs) => Fr ⟨49, []⟩ aa [(0, .slice p n cap), (1, .int .i64 (((a : Nat) : Int))), (2, .int .i64 (((b : Nat) : Int))), (6, .int .i64 (((i : Nat) : Int))), (10, .int .i64 (((i : Nat) : Int))), (11, .int .i64 (((b : Nat) : Int))), (12, .bool (decide ((((i : Nat) : Int)) < (((b : Nat) : Int))))), (15, .int .i64 (((i : Nat) : Int))), (7, .int .i64 (((j : Nat) : Int)))] ∧ St w0 ww ([HP.own 24 1 (.slice p n cap) (n) (rows (inC .u64) zs)] ++ ls) ∧ (a ≤ j) ∧ (j ≤ i) ∧ (Seg a b xs zs) ∧ (zs.length = n) ∧ (Ins ltI a i j zs)) (fun gg => match gg with | (j, zs) => j) (i, ys) ⟨F10.cut _ ⟨rfl, rfl, rfl, rfl, rfl, rfl, rfl, rfl, rfl, trivial⟩, H4, by omega, Nat.le_refl _, hsg, hyl, Ins.start hsr⟩ ?_
    clear F10
    rintro ⟨j, zs⟩ a11 w11 ⟨F11, H11, hja1, hji, hsg2, hzl, hin⟩
    refine wp_seq ?_
    refine wp_seq ?_
    refine q_region (fun u => St w0 u ([HP.own 24 1 (.slice p n cap) (n) (rows (inC .u64) zs)] ++ ls)) (by kernel_rfl) (by kernel_rfl) H11.drew ?_
    refine q_val F11 rfl rfl rfl (fun u hu => y_move F11 rfl rfl) ?_; intro a12 F12; clear F11
    refine q_val F12 rfl rfl rfl (fun u hu => y_move F12 rfl rfl) ?_; intro a13 F13; clear F12
    refine q_val F13 rfl rfl rfl (fun u hu => y_gtr F13 rfl rfl rfl) ?_; intro a14 F14; clear F13
    refine q_val F14 rfl rfl rfl (fun u hu => y_move F14 rfl rfl) ?_; intro a15 F15; clear F14
    refine g_split (k := 19) F15 rfl (fun hja F16 => ?_) (fun hja F16 => ?_)
    · clear F15
      refine qg_on F16 rfl rfl rfl rfl ?_
      refine q_val F16 rfl rfl rfl (fun u hu => y_move F16 rfl rfl) ?_; intro a17 F17; clear F16
      refine qg_on F17 rfl rfl rfl rfl ?_
      refine q_val F17 rfl rfl rfl (fun u hu => y_move F17 rfl rfl) ?_; intro a18 F18; clear F17
      refine qg_on F18 rfl rfl rfl rfl ?_
      obtain ⟨bb19, hpe19⟩ := hp (by omega)
      obtain ⟨x, mx⟩ : ∃ x, (zs)[j]? = some x := ⟨_, List.getElem?_eq_getElem (by first | omega | (simp only [List.length_set]; omega))⟩
      refine q_val F18 rfl rfl rfl (fun u hu => y_indexP F18 elemU64 rfl rfl rfl hpe19 (by omega)) ?_; intro a21 F21; clear F18
      refine qg_on F21 rfl rfl rfl rfl ?_
      refine q_val F21 rfl rfl rfl (fun u hu => y_load1 F21 plU64 rfl rfl (Row.elem (inC_len .u64) (hu.ownRowP 0 rfl hpe19) (fun _ _ => trivial) mx 0 _ rfl)) ?_; intro a22 F22; clear F21
      refine qg_on F22 rfl rfl rfl rfl ?_
      refine q_val F22 rfl rfl rfl (fun u hu => y_move F22 rfl rfl) ?_; intro a23 F23; clear F22
      refine qg_on F23 rfl rfl rfl rfl ?_
      refine q_val F23 rfl rfl rfl (fun u hu => y_move F23 rfl rfl) ?_; intro a24 F24; clear F23
      refine qg_on F24 rfl rfl rfl rfl ?_
      refine q_val F24 rfl rfl rfl (fun u hu => y_sub F24 rfl rfl rfl (r := ((j - 1 : Nat) : Int)) (wrap_i64 (by omega) (by omega) (by omega))) ?_; intro a25 F25; clear F24
      refine qg_on F25 rfl rfl rfl rfl ?_
      obtain ⟨y, my⟩ : ∃ x, (zs)[j - 1]? = some x := ⟨_, List.getElem?_eq_getElem (by first | omega | (simp only [List.length_set]; omega))⟩
      refine q_val F25 rfl rfl rfl (fun u hu => y_indexP F25 elemU64 rfl rfl rfl hpe19 (by omega)) ?_; intro a27 F27; clear F25
      refine qg_on F27 rfl rfl rfl rfl ?_
      refine q_val F27 rfl rfl rfl (fun u hu => y_load1 F27 plU64 rfl rfl (Row.elem (inC_len .u64) (hu.ownRowP 0 rfl hpe19) (fun _ _ => trivial) my 0 _ rfl)) ?_; intro a28 F28; clear F27
      refine qg_on F28 rfl rfl rfl rfl ?_
      refine q_call F28 rfl rfl rfl (fun u hu => y_call F28 rfl rfl ent41) (fun u hu => (lessU _ _ _).mono fun e u2 he => ⟨he.1, hu.call0 he.2⟩) ?_; intro a29 F29; clear F28
      refine q_val F29 rfl rfl rfl (fun u hu => y_pickT F29 rfl rfl rfl) ?_; intro a30 F30; clear F29
      refine q_nil ?_; intro w31 H31
      refine c_then ?_
      refine x_cond F30 rfl (fun hls => ?_) (fun hls => ?_)
      · skip
        refine wp_skip ?_
        refine c_then ?_
        refine wp_seq ?_
        refine wp_block ?_
        refine mix_region [15, 17] [(0, 0), (0, 1), (0, 2), (0, 3), (0, 4), (0, 5), (0, 6), (0, 7), (0, 8), (1, 9), (0, 10), (0, 11), (0, 12), (1, 13), (0, 14), (2, 15), (0, 16), (2, 17)] (fun u => ∃ ls, St w0 u ls) (by kernel_rfl) (by kernel_rfl) ⟨_, H31.drew⟩ ?_
        have H33 := H31.drew
        generalize w31.drew = w33 at H33 ⊢
        refine m_pure F30 rfl rfl rfl rfl (fun u hu => y_move F30 rfl rfl) ?_; intro a34 F34; clear F30
        refine m_pure F34 rfl rfl rfl rfl (fun u hu => y_move F34 rfl rfl) ?_; intro a35 F35; clear F34
        refine m_pure F35 rfl rfl rfl rfl (fun u hu => y_move F35 rfl rfl) ?_; intro a36 F36; clear F35
        refine m_pure F36 rfl rfl rfl rfl (fun u hu => y_move F36 rfl rfl) ?_; intro a37 F37; clear F36
        refine m_pure F37 rfl rfl rfl rfl (fun u hu => y_sub F37 rfl rfl rfl (r := ((j - 1 : Nat) : Int)) (wrap_i64 (by omega) (by omega) (by omega))) ?_; intro a38 F38; clear F37
        refine m_pure F38 rfl rfl rfl rfl (fun u hu => y_move F38 rfl rfl) ?_; intro a39 F39; clear F38
        refine m_pure F39 rfl rfl rfl rfl (fun u hu => y_move F39 rfl rfl) ?_; intro a40 F40; clear F39
        refine m_pure F40 rfl rfl rfl rfl (fun u hu => y_sub F40 rfl rfl rfl (r := ((j - 1 : Nat) : Int)) (wrap_i64 (by omega) (by omega) (by omega))) ?_; intro a41 F41; clear F40
        refine m_pure F41 rfl rfl rfl rfl (fun u hu => y_indexP F41 elemU64 rfl rfl rfl hpe19 (by omega)) ?_; intro a42 F42; clear F41
        refine m_read F42 rfl rfl rfl rfl (y_load1 F42 plU64 rfl rfl (Row.elem (inC_len .u64) (H33.ownRowP 0 rfl hpe19) (fun _ _ => trivial) my 0 _ rfl)) ?_; intro a43 F43; clear F42
        refine m_pure F43 rfl rfl rfl rfl (fun u hu => y_move F43 rfl rfl) ?_; intro a44 F44; clear F43
        refine m_pure F44 rfl rfl rfl rfl (fun u hu => y_move F44 rfl rfl) ?_; intro a45 F45; clear F44
        refine m_pure F45 rfl rfl rfl rfl (fun u hu => y_indexP F45 elemU64 rfl rfl rfl hpe19 (by omega)) ?_; intro a46 F46; clear F45
        refine m_read F46 rfl rfl rfl rfl (y_load1 F46 plU64 rfl rfl (Row.elem (inC_len .u64) (H33.ownRowP 0 rfl hpe19) (fun _ _ => trivial) mx 0 _ rfl)) ?_; intro a47 F47; clear F46
        refine m_pure F47 rfl rfl rfl rfl (fun u hu => y_indexP F47 elemU64 rfl rfl rfl hpe19 (by omega)) ?_; intro a48 F48; clear F47
        refine m_heavy rfl rfl ?_
        refine s_setElem wkP F48 rfl rfl z1U64 rfl hpe19 rfl rfl y rfl rfl rfl H33 0 rfl (fun _ => rfl) (by first | omega | (simp only [List.length_set]; omega)) (by omega) ?_; intro w49 h49
        have H49 : St w0 w49 ([HP.own 24 1 (.slice p n cap) (n) (rows (inC .u64) (zs.set (j) y))] ++ ls) := h49
        clear h49
        refine wpList_nil ?_; refine c_then ⟨⟨_, H49⟩, ?_⟩
        obtain ⟨x50, mx50⟩ : ∃ x, ((zs.set (j) y))[j - 1]? = some x := ⟨_, List.getElem?_eq_getElem (by first | omega | (simp only [List.length_set]; omega))⟩
        refine m_pure F48 rfl rfl rfl rfl (fun u hu => y_indexP F48 elemU64 rfl rfl rfl hpe19 (by omega)) ?_; intro a51 F51; clear F48
        refine m_heavy rfl rfl ?_
        refine s_setElem wkP F51 rfl rfl z1U64 rfl hpe19 rfl rfl x rfl rfl rfl H49 0 rfl (fun _ => rfl) (by first | omega | (simp only [List.length_set]; omega)) (by omega) ?_; intro w52 h52
        have H52 : St w0 w52 ([HP.own 24 1 (.slice p n cap) (n) (rows (inC .u64) ((zs.set (j) y).set (j - 1) x))] ++ ls) := h52
        clear h52
        refine wpList_nil ?_; refine c_then ⟨⟨_, H52⟩, ?_⟩
        refine m_nil ?_
        refine c_blkN ?_
        refine c_then ?_
        refine r_lit ?_
        refine s_val wkP F51 rfl rfl rfl rfl (y_move F51 rfl rfl) ?_; intro a53 F53; clear F51
        refine s_val wkP F53 rfl rfl rfl rfl (y_sub F53 rfl rfl rfl (r := ((j - 1 : Nat) : Int)) (wrap_i64 (by omega) (by omega) (by omega))) ?_; intro a54 F54; clear F53
        refine s_val wkP F54 rfl rfl rfl rfl (y_assign F54 rfl rfl) ?_; intro a55 F55; clear F54
        refine wpList_nil ?_
        refine c_then ?_
        exact ⟨(j - 1, (zs.set j y).set (j - 1) x), ⟨F55.cut _ ⟨rfl, rfl, rfl, rfl, rfl, rfl, rfl, rfl, rfl, trivial⟩, H52, by omega, by omega, hsg2.swap mx my (by omega) (by omega) (by omega) (by omega), by simp only [List.length_set]; exact hzl, hin.step swoI (by omega) (by omega) mx my hls⟩, by first | omega | (dsimp only; omega)⟩
      · skip
        refine wp_exit ?_
        refine c_thenX ?_
        refine c_thenX ?_
        refine c_hit ?_
        refine c_blkN ?_
        refine c_then ?_
        refine r_lit ?_
        refine s_val wkP F30 rfl rfl rfl rfl (y_move F30 rfl rfl) ?_; intro a56 F56; clear F30
        refine s_val wkP F56 rfl rfl rfl rfl (y_add F56 rfl rfl rfl (r := (((i : Nat) : Int)) + (1)) (wrap_i64 (by omega) (by omega) (by omega))) ?_; intro a57 F57; clear F56
        refine s_val wkP F57 rfl rfl rfl rfl (y_assign F57 rfl rfl) ?_; intro a58 F58; clear F57
        refine wpList_nil ?_
        refine c_then ?_
        exact ⟨(i + 1, zs), ⟨F58.cut _ ⟨rfl, rfl, rfl, rfl, trivial⟩, H31, by omega, hsg2, hzl, hin.done swoI hja1 (fun hlt u v hu hv => by rw [mx] at hu; rw [my] at hv; cases hu; cases hv; exact hls) (by omega) (by omega)⟩, by first | omega | (dsimp only; omega)⟩
    · clear F15
      refine qg_off F16 rfl rfl rfl rfl rfl rfl rfl ?_; intro a59 F59; clear F16
      refine qg_off F59 rfl rfl rfl rfl rfl rfl rfl ?_; intro a60 F60; clear F59
      refine qg_off F60 rfl rfl rfl rfl rfl rfl rfl ?_; intro a61 F61; clear F60
      refine qg_off F61 rfl rfl rfl rfl rfl rfl rfl ?_; intro a62 F62; clear F61
      refine qg_off F62 rfl rfl rfl rfl rfl rfl rfl ?_; intro a63 F63; clear F62
      refine qg_off F63 rfl rfl rfl rfl rfl rfl rfl ?_; intro a64 F64; clear F63
      refine qg_off F64 rfl rfl rfl rfl rfl rfl rfl ?_; intro a65 F65; clear F64
      refine qg_off F65 rfl rfl rfl rfl rfl rfl rfl ?_; intro a66 F66; clear F65
      refine qg_off F66 rfl rfl rfl rfl rfl rfl rfl ?_; intro a67 F67; clear F66
      refine qg_off F67 rfl rfl rfl rfl rfl rfl rfl ?_; intro a68 F68; clear F67
      refine q_val F68 rfl rfl rfl (fun u hu => y_pickF F68 rfl rfl rfl) ?_; intro a69 F69; clear F68
      refine q_nil ?_; intro w70 H70
      refine c_then ?_
      refine x_condF F69 rfl ?_
      refine wp_exit ?_
      refine c_thenX ?_
      refine c_thenX ?_
      refine c_hit ?_
      refine c_blkN ?_
      refine c_then ?_
      refine r_lit ?_
      refine s_val wkP F69 rfl rfl rfl rfl (y_move F69 rfl rfl) ?_; intro a72 F72; clear F69
      refine s_val wkP F72 rfl rfl rfl rfl (y_add F72 rfl rfl rfl (r := (((i : Nat) : Int)) + (1)) (wrap_i64 (by omega) (by omega) (by omega))) ?_; intro a73 F73; clear F72
      refine s_val wkP F73 rfl rfl rfl rfl (y_assign F73 rfl rfl) ?_; intro a74 F74; clear F73
      refine wpList_nil ?_
      refine c_then ?_
      exact ⟨(i + 1, zs), ⟨F74.cut _ ⟨rfl, rfl, rfl, rfl, trivial⟩, H70, by omega, hsg2, hzl, hin.done swoI hja1 (fun hlt u v hu hv => absurd hlt (by omega)) (by omega) (by omega)⟩, by first | omega | (dsimp only; omega)⟩
  · skip
    refine wp_exit ?_
    refine c_thenX ?_
    refine c_thenX ?_
    refine c_hit ?_
    refine x_end0 F7 rfl ?_
    exact ⟨_, rfl, _, rfl, ⟨hsg, hsr.narrow (Nat.le_refl _) (by omega)⟩, H4⟩
theorem ent35 : ∀ args w, (callFunc 35 args).run Try.prog w = .ok (.enter 35 args) w := enters Try.func35 (by kernel_rfl) rfl
end Go.Proofs.Ytchcoenpnmgnhaa
