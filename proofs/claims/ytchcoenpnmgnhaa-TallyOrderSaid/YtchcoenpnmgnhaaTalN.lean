/- pdqsort: partitionEqual, partialInsertionSort. -/
import Derived.Test.YtchcoenpnmgnhaaTalM
set_option linter.unusedSimpArgs false
set_option linter.unusedVariables false
namespace Go.Proofs.Ytchcoenpnmgnhaa
open Go.ChangeShapes Go.WideShapes Go.ChangeAt Go.RowKit Go.Tri
set_option maxRecDepth 100000 in
set_option maxHeartbeats 2000000 in
theorem partitionEqual {w0 w : World} {ls : List HP} {p : Option Addr} {n cap : Nat} (xs : List Int) (hn : xs.length = n) (hn1 : n ≤ 1000000) (a b pv : Nat) (hap : a ≤ pv) (hpb : pv < b) (hbn : b ≤ n) (H : St w0 w (HP.own 24 1 (.slice p n cap) (n) (rows (inC .u64) xs) :: ls)) :
    Calls Try.prog 42 [.slice p n cap, .int .i64 (a : Int), .int .i64 (b : Int), .int .i64 (pv : Int)].toArray w (fun e w' => ∃ v, e = .returned v ∧ ∃ ys, ∃ (m : Nat), v = .int .i64 ((m : Nat) : Int) ∧ (Seg a b xs ys ∧ a < m ∧ m ≤ b ∧ PEq ltI a m b ys ∧ ys[a]? = xs[pv]?) ∧ St w0 w' (HP.own 24 1 (.slice p n cap) (n) (rows (inC .u64) ys) :: ls)) := by
  have hp := (H.ownP 0 rfl).2.2
  refine x_enter Try.func42 rfl rfl rfl ?_
  intro a0 F0
  replace F0 : Fr ⟨84, []⟩ a0 [(0, .slice p n cap), (1, .int .i64 (a : Int)), (2, .int .i64 (b : Int)), (3, .int .i64 (pv : Int))] := F0
  have H0 : St w0 w ([HP.own 24 1 (.slice p n cap) (n) (rows (inC .u64) xs)] ++ ls) := H
  refine wp_seq ?_
  refine r_lit ?_
  refine s_val wkP F0 rfl rfl rfl rfl (y_assign F0 rfl rfl) ?_; intro a1 F1; clear F0
  refine wpList_nil ?_
  refine c_then ?_
  refine x_seqM (fun aa ww => ∃ ys : List Int, Fr ⟨84, []⟩ aa [(0, .slice p n cap), (1, .int .i64 (((a : Nat) : Int))), (2, .int .i64 (((b : Nat) : Int))), (8, .int .i64 (0))] ∧ St w0 ww ([HP.own 24 1 (.slice p n cap) (n) (rows (inC .u64) ys)] ++ ls) ∧ (Seg a b xs ys) ∧ (ys.length = n) ∧ (ys[a]? = xs[pv]?)) ?_ ?_
  · skip
    refine mix_region [13, 15] [(0, 0), (0, 1), (0, 2), (0, 3), (0, 4), (0, 5), (0, 6), (1, 7), (0, 8), (0, 9), (0, 10), (1, 11), (0, 12), (2, 13), (0, 14), (2, 15)] (fun u => ∃ ls, St w0 u ls) (by kernel_rfl) (by kernel_rfl) ⟨_, H0.drew⟩ ?_
    have H3 := H0.drew
    generalize w.drew = w3 at H3 ⊢
    refine m_pure F1 rfl rfl rfl rfl (fun u hu => y_move F1 rfl rfl) ?_; intro a4 F4; clear F1
    refine m_pure F4 rfl rfl rfl rfl (fun u hu => y_move F4 rfl rfl) ?_; intro a5 F5; clear F4
    refine m_pure F5 rfl rfl rfl rfl (fun u hu => y_move F5 rfl rfl) ?_; intro a6 F6; clear F5
    refine m_pure F6 rfl rfl rfl rfl (fun u hu => y_move F6 rfl rfl) ?_; intro a7 F7; clear F6
    refine m_pure F7 rfl rfl rfl rfl (fun u hu => y_move F7 rfl rfl) ?_; intro a8 F8; clear F7
    refine m_pure F8 rfl rfl rfl rfl (fun u hu => y_move F8 rfl rfl) ?_; intro a9 F9; clear F8
    obtain ⟨bb10, hpe10⟩ := hp (by omega)
    obtain ⟨y0, my0⟩ : ∃ x, (xs)[pv]? = some x := ⟨_, List.getElem?_eq_getElem (by first | omega | (simp only [List.length_set]; omega))⟩
    refine m_pure F9 rfl rfl rfl rfl (fun u hu => y_indexP F9 elemU64 rfl rfl rfl hpe10 (by omega)) ?_; intro a12 F12; clear F9
    refine m_read F12 rfl rfl rfl rfl (y_load1 F12 plU64 rfl rfl (Row.elem (inC_len .u64) (H3.ownRowP 0 rfl hpe10) (fun _ _ => trivial) my0 0 _ rfl)) ?_; intro a13 F13; clear F12
    refine m_pure F13 rfl rfl rfl rfl (fun u hu => y_move F13 rfl rfl) ?_; intro a14 F14; clear F13
    refine m_pure F14 rfl rfl rfl rfl (fun u hu => y_move F14 rfl rfl) ?_; intro a15 F15; clear F14
    obtain ⟨x0, mx0⟩ : ∃ x, (xs)[a]? = some x := ⟨_, List.getElem?_eq_getElem (by first | omega | (simp only [List.length_set]; omega))⟩
    refine m_pure F15 rfl rfl rfl rfl (fun u hu => y_indexP F15 elemU64 rfl rfl rfl hpe10 (by omega)) ?_; intro a17 F17; clear F15
    refine m_read F17 rfl rfl rfl rfl (y_load1 F17 plU64 rfl rfl (Row.elem (inC_len .u64) (H3.ownRowP 0 rfl hpe10) (fun _ _ => trivial) mx0 0 _ rfl)) ?_; intro a18 F18; clear F17
    refine m_pure F18 rfl rfl rfl rfl (fun u hu => y_indexP F18 elemU64 rfl rfl rfl hpe10 (by omega)) ?_; intro a19 F19; clear F18
    refine m_heavy rfl rfl ?_
    refine s_setElem wkP F19 rfl rfl z1U64 rfl hpe10 rfl rfl y0 rfl rfl rfl H3 0 rfl (fun _ => rfl) (by first | omega | (simp only [List.length_set]; omega)) (by omega) ?_; intro w20 h20
    have H20 : St w0 w20 ([HP.own 24 1 (.slice p n cap) (n) (rows (inC .u64) (xs.set (a) y0))] ++ ls) := h20
    clear h20
    refine wpList_nil ?_; refine c_then ⟨⟨_, H20⟩, ?_⟩
    obtain ⟨x21, mx21⟩ : ∃ x, ((xs.set (a) y0))[pv]? = some x := ⟨_, List.getElem?_eq_getElem (by first | omega | (simp only [List.length_set]; omega))⟩
    refine m_pure F19 rfl rfl rfl rfl (fun u hu => y_indexP F19 elemU64 rfl rfl rfl hpe10 (by omega)) ?_; intro a22 F22; clear F19
    refine m_heavy rfl rfl ?_
    refine s_setElem wkP F22 rfl rfl z1U64 rfl hpe10 rfl rfl x0 rfl rfl rfl H20 0 rfl (fun _ => rfl) (by first | omega | (simp only [List.length_set]; omega)) (by omega) ?_; intro w23 h23
    have H23 : St w0 w23 ([HP.own 24 1 (.slice p n cap) (n) (rows (inC .u64) ((xs.set (a) y0).set (pv) x0))] ++ ls) := h23
    clear h23
    refine wpList_nil ?_; refine c_then ⟨⟨_, H23⟩, ?_⟩
    refine m_nil ?_
    refine c_then ?_
    exact ⟨((xs.set (a) y0).set (pv) x0), F22.cut _ ⟨rfl, rfl, rfl, rfl, trivial⟩, H23, (Seg.refl a b xs).swap mx0 my0 (by omega) (by omega) (by omega) (by omega), by simp only [List.length_set]; exact hn, swap_at mx0 my0⟩
  · skip
    clear F1
    rintro a2 w2 ⟨ys, F2, H2, hsg, hyl, hya⟩
    refine wp_seq ?_
    refine r_lit ?_
    refine s_val wkP F2 rfl rfl rfl rfl (y_move F2 rfl rfl) ?_; intro a24 F24; clear F2
    refine s_val wkP F24 rfl rfl rfl rfl (y_add F24 rfl rfl rfl (r := ((a + 1 : Nat) : Int)) (wrap_i64 (by omega) (by omega) (by omega))) ?_; intro a25 F25; clear F24
    refine s_val wkP F25 rfl rfl rfl rfl (y_move F25 rfl rfl) ?_; intro a26 F26; clear F25
    refine s_val wkP F26 rfl rfl rfl rfl (y_sub F26 rfl rfl rfl (r := ((b - 1 : Nat) : Int)) (wrap_i64 (by omega) (by omega) (by omega))) ?_; intro a27 F27; clear F26
    refine s_val wkP F27 rfl rfl rfl rfl (y_assign F27 rfl rfl) ?_; intro a28 F28; clear F27
    refine s_val wkP F28 rfl rfl rfl rfl (y_assign F28 rfl rfl) ?_; intro a29 F29; clear F28
    refine wpList_nil ?_
    refine c_then ?_
    refine wp_seq ?_
    refine wp_block ?_
    refine x_loop (G := Nat × Nat × List Int) (fun gg aa ww => match gg with | (i3, j3, zs) => Fr ⟨84, []⟩ aa [(0, .slice p n cap), (1, .int .i64 (((a : Nat) : Int))), (8, .int .i64 (0)), (9, .int .i64 (((i3 : Nat) : Int))), (10, .int .i64 (((j3 : Nat) : Int)))] ∧ St w0 ww ([HP.own 24 1 (.slice p n cap) (n) (rows (inC .u64) zs)] ++ ls) ∧ (a + 1 ≤ i3 ∧ i3 ≤ j3 + 1 ∧ j3 < b) ∧ (Seg a b xs zs) ∧ (zs.length = n) ∧ (zs[a]? = xs[pv]?) ∧ (PE ltI a b i3 j3 zs)) (fun gg => match gg with | (i3, j3, zs) => j3 + 1 - i3) (a + 1, b - 1, ys) ⟨F29.cut _ ⟨rfl, rfl, rfl, rfl, rfl, trivial⟩, H2, by omega, hsg, hyl, hya, PE.start⟩ ?_
    clear F29
    rintro ⟨i3, j3, zs⟩ a30 w30 ⟨F30, H30, hi3, hsg3, hzl, hya3, hpi⟩
    refine wp_block ?_
    refine x_seqM (fun aa ww => ∃ i4 : Nat, Fr ⟨84, []⟩ aa [(0, .slice p n cap), (1, .int .i64 (((a : Nat) : Int))), (8, .int .i64 (0)), (10, .int .i64 (((j3 : Nat) : Int))), (9, .int .i64 (((i4 : Nat) : Int)))] ∧ St w0 ww ([HP.own 24 1 (.slice p n cap) (n) (rows (inC .u64) zs)] ++ ls) ∧ (i3 ≤ i4 ∧ i4 ≤ j3 + 1) ∧ (PE ltI a b i4 (j3) zs) ∧ (i4 ≤ j3 → ∀ x z, zs[i4]? = some x → zs[a]? = some z → ltI z x = true)) ?_ ?_
    · skip
      refine wp_block ?_
      refine x_loop (G := Nat) (fun i4 aa ww => Fr ⟨84, []⟩ aa [(0, .slice p n cap), (1, .int .i64 (((a : Nat) : Int))), (8, .int .i64 (0)), (10, .int .i64 (((j3 : Nat) : Int))), (9, .int .i64 (((i4 : Nat) : Int)))] ∧ St w0 ww ([HP.own 24 1 (.slice p n cap) (n) (rows (inC .u64) zs)] ++ ls) ∧ (i3 ≤ i4 ∧ i4 ≤ j3 + 1) ∧ (PE ltI a b i4 (j3) zs)) (fun i4 => j3 + 1 - i4) i3 ⟨F30.cut _ ⟨rfl, rfl, rfl, rfl, rfl, trivial⟩, H30, by omega, hpi⟩ ?_
      clear F30
      rintro i4 a32 w32 ⟨F32, H32, hi3, hp3⟩
      refine wp_seq ?_
      refine wp_seq ?_
      refine q_region (fun u => St w0 u ([HP.own 24 1 (.slice p n cap) (n) (rows (inC .u64) zs)] ++ ls)) (by kernel_rfl) (by kernel_rfl) H32.drew ?_
      refine q_val F32 rfl rfl rfl (fun u hu => y_move F32 rfl rfl) ?_; intro a33 F33; clear F32
      refine q_val F33 rfl rfl rfl (fun u hu => y_move F33 rfl rfl) ?_; intro a34 F34; clear F33
      refine q_val F34 rfl rfl rfl (fun u hu => y_leq F34 rfl rfl rfl) ?_; intro a35 F35; clear F34
      refine q_val F35 rfl rfl rfl (fun u hu => y_move F35 rfl rfl) ?_; intro a36 F36; clear F35
      refine g_split (k := 32) F36 rfl (fun hg3 F37 => ?_) (fun hg3 F37 => ?_)
      · clear F36
        refine qg_on F37 rfl rfl rfl rfl ?_
        refine q_val F37 rfl rfl rfl (fun u hu => y_move F37 rfl rfl) ?_; intro a38 F38; clear F37
        refine qg_on F38 rfl rfl rfl rfl ?_
        refine q_val F38 rfl rfl rfl (fun u hu => y_move F38 rfl rfl) ?_; intro a39 F39; clear F38
        refine qg_on F39 rfl rfl rfl rfl ?_
        obtain ⟨bb40, hpe40⟩ := hp (by omega)
        obtain ⟨z3, mz3⟩ : ∃ x, (zs)[a]? = some x := ⟨_, List.getElem?_eq_getElem (by first | omega | (simp only [List.length_set]; omega))⟩
        refine q_val F39 rfl rfl rfl (fun u hu => y_indexP F39 elemU64 rfl rfl rfl hpe40 (by omega)) ?_; intro a42 F42; clear F39
        refine qg_on F42 rfl rfl rfl rfl ?_
        refine q_val F42 rfl rfl rfl (fun u hu => y_load1 F42 plU64 rfl rfl (Row.elem (inC_len .u64) (hu.ownRowP 0 rfl hpe40) (fun _ _ => trivial) mz3 0 _ rfl)) ?_; intro a43 F43; clear F42
        refine qg_on F43 rfl rfl rfl rfl ?_
        refine q_val F43 rfl rfl rfl (fun u hu => y_move F43 rfl rfl) ?_; intro a44 F44; clear F43
        refine qg_on F44 rfl rfl rfl rfl ?_
        refine q_val F44 rfl rfl rfl (fun u hu => y_move F44 rfl rfl) ?_; intro a45 F45; clear F44
        refine qg_on F45 rfl rfl rfl rfl ?_
        obtain ⟨u3, mu3⟩ : ∃ x, (zs)[i4]? = some x := ⟨_, List.getElem?_eq_getElem (by first | omega | (simp only [List.length_set]; omega))⟩
        refine q_val F45 rfl rfl rfl (fun u hu => y_indexP F45 elemU64 rfl rfl rfl hpe40 (by omega)) ?_; intro a47 F47; clear F45
        refine qg_on F47 rfl rfl rfl rfl ?_
        refine q_val F47 rfl rfl rfl (fun u hu => y_load1 F47 plU64 rfl rfl (Row.elem (inC_len .u64) (hu.ownRowP 0 rfl hpe40) (fun _ _ => trivial) mu3 0 _ rfl)) ?_; intro a48 F48; clear F47
        refine qg_on F48 rfl rfl rfl rfl ?_
        refine q_call F48 rfl rfl rfl (fun u hu => y_call F48 rfl rfl ent41) (fun u hu => (lessU _ _ _).mono fun e u2 he => ⟨he.1, hu.call0 he.2⟩) ?_; intro a49 F49; clear F48
        refine qg_on F49 rfl rfl rfl rfl ?_
        refine q_val F49 rfl rfl rfl (fun u hu => y_not F49 rfl rfl) ?_; intro a50 F50; clear F49
        refine q_val F50 rfl rfl rfl (fun u hu => y_pickT F50 rfl rfl rfl) ?_; intro a51 F51; clear F50
        refine q_nil ?_; intro w52 H52
        refine c_then ?_
        refine x_cond F51 rfl (fun hl3 => ?_) (fun hl3 => ?_)
        · skip
          replace hl3 : ltI z3 u3 = false := by simpa using hl3
          refine wp_skip ?_
          refine c_then ?_
          refine wp_block ?_
          refine r_lit ?_
          refine s_val wkP F51 rfl rfl rfl rfl (y_move F51 rfl rfl) ?_; intro a54 F54; clear F51
          refine s_val wkP F54 rfl rfl rfl rfl (y_add F54 rfl rfl rfl (r := ((i4 + 1 : Nat) : Int)) (wrap_i64 (by omega) (by omega) (by omega))) ?_; intro a55 F55; clear F54
          refine s_val wkP F55 rfl rfl rfl rfl (y_assign F55 rfl rfl) ?_; intro a56 F56; clear F55
          refine wpList_nil ?_
          refine c_blkN ?_
          refine c_then ?_
          exact ⟨i4 + 1, ⟨F56.cut _ ⟨rfl, rfl, rfl, rfl, rfl, trivial⟩, H52, by omega, hp3.incI mu3 mz3 hl3⟩, by first | omega | (dsimp only; omega)⟩
        · skip
          replace hl3 : ltI z3 u3 = true := by simpa using hl3
          refine wp_exit ?_
          refine c_thenX ?_
          refine c_thenX ?_
          refine c_hit ?_
          refine c_then ?_
          exact ⟨i4, F51.cut _ ⟨rfl, rfl, rfl, rfl, rfl, trivial⟩, H52, hi3, hp3, (fun _ x z hx hz => by cases hx.symm.trans mu3; cases hz.symm.trans mz3; exact hl3)⟩
      · clear F36
        refine qg_off F37 rfl rfl rfl rfl rfl rfl rfl ?_; intro a57 F57; clear F37
        refine qg_off F57 rfl rfl rfl rfl rfl rfl rfl ?_; intro a58 F58; clear F57
        refine qg_off F58 rfl rfl rfl rfl rfl rfl rfl ?_; intro a59 F59; clear F58
        refine qg_off F59 rfl rfl rfl rfl rfl rfl rfl ?_; intro a60 F60; clear F59
        refine qg_off F60 rfl rfl rfl rfl rfl rfl rfl ?_; intro a61 F61; clear F60
        refine qg_off F61 rfl rfl rfl rfl rfl rfl rfl ?_; intro a62 F62; clear F61
        refine qg_off F62 rfl rfl rfl rfl rfl rfl rfl ?_; intro a63 F63; clear F62
        refine qg_off F63 rfl rfl rfl rfl rfl rfl rfl ?_; intro a64 F64; clear F63
        refine qg_off F64 rfl rfl rfl rfl rfl rfl rfl ?_; intro a65 F65; clear F64
        refine qg_off F65 rfl rfl rfl rfl rfl rfl rfl ?_; intro a66 F66; clear F65
        refine q_val F66 rfl rfl rfl (fun u hu => y_pickF F66 rfl rfl rfl) ?_; intro a67 F67; clear F66
        refine q_nil ?_; intro w68 H68
        refine c_then ?_
        refine x_condF F67 rfl ?_
        refine wp_exit ?_
        refine c_thenX ?_
        refine c_thenX ?_
        refine c_hit ?_
        refine c_then ?_
        exact ⟨i4, F67.cut _ ⟨rfl, rfl, rfl, rfl, rfl, trivial⟩, H68, hi3, hp3, (fun h => by exfalso; omega)⟩
    · skip
      clear F30
      rintro a31 w31 ⟨i4, F31, H31, hi3, hp3, hE3⟩
      refine x_seqM (fun aa ww => ∃ j5 : Nat, Fr ⟨84, []⟩ aa [(0, .slice p n cap), (1, .int .i64 (((a : Nat) : Int))), (8, .int .i64 (0)), (9, .int .i64 (((i4 : Nat) : Int))), (10, .int .i64 (((j5 : Nat) : Int)))] ∧ St w0 ww ([HP.own 24 1 (.slice p n cap) (n) (rows (inC .u64) zs)] ++ ls) ∧ (i4 ≤ j5 + 1 ∧ j5 ≤ j3) ∧ (PE ltI a b i4 j5 zs) ∧ (i4 ≤ j5 → ∀ x z, zs[j5]? = some x → zs[a]? = some z → ltI z x = false)) ?_ ?_
      · skip
        refine wp_block ?_
        refine x_loop (G := Nat) (fun j5 aa ww => Fr ⟨84, []⟩ aa [(0, .slice p n cap), (1, .int .i64 (((a : Nat) : Int))), (8, .int .i64 (0)), (9, .int .i64 (((i4 : Nat) : Int))), (10, .int .i64 (((j5 : Nat) : Int)))] ∧ St w0 ww ([HP.own 24 1 (.slice p n cap) (n) (rows (inC .u64) zs)] ++ ls) ∧ (i4 ≤ j5 + 1 ∧ j5 ≤ j3) ∧ (PE ltI a b i4 j5 zs)) (fun j5 => j5) j3 ⟨F31.cut _ ⟨rfl, rfl, rfl, rfl, rfl, trivial⟩, H31, by omega, hp3⟩ ?_
        clear F31
        rintro j5 a71 w71 ⟨F71, H71, hj3, hq3⟩
        refine wp_seq ?_
        refine wp_seq ?_
        refine q_region (fun u => St w0 u ([HP.own 24 1 (.slice p n cap) (n) (rows (inC .u64) zs)] ++ ls)) (by kernel_rfl) (by kernel_rfl) H71.drew ?_
        refine q_val F71 rfl rfl rfl (fun u hu => y_move F71 rfl rfl) ?_; intro a72 F72; clear F71
        refine q_val F72 rfl rfl rfl (fun u hu => y_move F72 rfl rfl) ?_; intro a73 F73; clear F72
        refine q_val F73 rfl rfl rfl (fun u hu => y_leq F73 rfl rfl rfl) ?_; intro a74 F74; clear F73
        refine q_val F74 rfl rfl rfl (fun u hu => y_move F74 rfl rfl) ?_; intro a75 F75; clear F74
        refine g_split (k := 49) F75 rfl (fun hg5 F76 => ?_) (fun hg5 F76 => ?_)
        · clear F75
          refine qg_on F76 rfl rfl rfl rfl ?_
          refine q_val F76 rfl rfl rfl (fun u hu => y_move F76 rfl rfl) ?_; intro a77 F77; clear F76
          refine qg_on F77 rfl rfl rfl rfl ?_
          refine q_val F77 rfl rfl rfl (fun u hu => y_move F77 rfl rfl) ?_; intro a78 F78; clear F77
          refine qg_on F78 rfl rfl rfl rfl ?_
          obtain ⟨bb79, hpe79⟩ := hp (by omega)
          obtain ⟨y3, my3⟩ : ∃ x, (zs)[a]? = some x := ⟨_, List.getElem?_eq_getElem (by first | omega | (simp only [List.length_set]; omega))⟩
          refine q_val F78 rfl rfl rfl (fun u hu => y_indexP F78 elemU64 rfl rfl rfl hpe79 (by omega)) ?_; intro a81 F81; clear F78
          refine qg_on F81 rfl rfl rfl rfl ?_
          refine q_val F81 rfl rfl rfl (fun u hu => y_load1 F81 plU64 rfl rfl (Row.elem (inC_len .u64) (hu.ownRowP 0 rfl hpe79) (fun _ _ => trivial) my3 0 _ rfl)) ?_; intro a82 F82; clear F81
          refine qg_on F82 rfl rfl rfl rfl ?_
          refine q_val F82 rfl rfl rfl (fun u hu => y_move F82 rfl rfl) ?_; intro a83 F83; clear F82
          refine qg_on F83 rfl rfl rfl rfl ?_
          refine q_val F83 rfl rfl rfl (fun u hu => y_move F83 rfl rfl) ?_; intro a84 F84; clear F83
          refine qg_on F84 rfl rfl rfl rfl ?_
          obtain ⟨v3, mv3⟩ : ∃ x, (zs)[j5]? = some x := ⟨_, List.getElem?_eq_getElem (by first | omega | (simp only [List.length_set]; omega))⟩
          refine q_val F84 rfl rfl rfl (fun u hu => y_indexP F84 elemU64 rfl rfl rfl hpe79 (by omega)) ?_; intro a86 F86; clear F84
          refine qg_on F86 rfl rfl rfl rfl ?_
          refine q_val F86 rfl rfl rfl (fun u hu => y_load1 F86 plU64 rfl rfl (Row.elem (inC_len .u64) (hu.ownRowP 0 rfl hpe79) (fun _ _ => trivial) mv3 0 _ rfl)) ?_; intro a87 F87; clear F86
          refine qg_on F87 rfl rfl rfl rfl ?_
          refine q_call F87 rfl rfl rfl (fun u hu => y_call F87 rfl rfl ent41) (fun u hu => (lessU _ _ _).mono fun e u2 he => ⟨he.1, hu.call0 he.2⟩) ?_; intro a88 F88; clear F87
          refine q_val F88 rfl rfl rfl (fun u hu => y_pickT F88 rfl rfl rfl) ?_; intro a89 F89; clear F88
          refine q_nil ?_; intro w90 H90
          refine c_then ?_
          refine x_cond F89 rfl (fun hl5 => ?_) (fun hl5 => ?_)
          · skip
            refine wp_skip ?_
            refine c_then ?_
            refine wp_block ?_
            refine r_lit ?_
            refine s_val wkP F89 rfl rfl rfl rfl (y_move F89 rfl rfl) ?_; intro a92 F92; clear F89
            refine s_val wkP F92 rfl rfl rfl rfl (y_sub F92 rfl rfl rfl (r := ((j5 - 1 : Nat) : Int)) (wrap_i64 (by omega) (by omega) (by omega))) ?_; intro a93 F93; clear F92
            refine s_val wkP F93 rfl rfl rfl rfl (y_assign F93 rfl rfl) ?_; intro a94 F94; clear F93
            refine wpList_nil ?_
            refine c_blkN ?_
            refine c_then ?_
            exact ⟨j5 - 1, ⟨F94.cut _ ⟨rfl, rfl, rfl, rfl, rfl, trivial⟩, H90, by omega, hq3.decJ mv3 my3 hl5⟩, by first | omega | (dsimp only; omega)⟩
          · skip
            refine wp_exit ?_
            refine c_thenX ?_
            refine c_thenX ?_
            refine c_hit ?_
            refine c_then ?_
            exact ⟨j5, F89.cut _ ⟨rfl, rfl, rfl, rfl, rfl, trivial⟩, H90, hj3, hq3, (fun _ x z hx hz => by cases hx.symm.trans mv3; cases hz.symm.trans my3; exact hl5)⟩
        · clear F75
          refine qg_off F76 rfl rfl rfl rfl rfl rfl rfl ?_; intro a95 F95; clear F76
          refine qg_off F95 rfl rfl rfl rfl rfl rfl rfl ?_; intro a96 F96; clear F95
          refine qg_off F96 rfl rfl rfl rfl rfl rfl rfl ?_; intro a97 F97; clear F96
          refine qg_off F97 rfl rfl rfl rfl rfl rfl rfl ?_; intro a98 F98; clear F97
          refine qg_off F98 rfl rfl rfl rfl rfl rfl rfl ?_; intro a99 F99; clear F98
          refine qg_off F99 rfl rfl rfl rfl rfl rfl rfl ?_; intro a100 F100; clear F99
          refine qg_off F100 rfl rfl rfl rfl rfl rfl rfl ?_; intro a101 F101; clear F100
          refine qg_off F101 rfl rfl rfl rfl rfl rfl rfl ?_; intro a102 F102; clear F101
          refine qg_off F102 rfl rfl rfl rfl rfl rfl rfl ?_; intro a103 F103; clear F102
          refine q_val F103 rfl rfl rfl (fun u hu => y_pickF F103 rfl rfl rfl) ?_; intro a104 F104; clear F103
          refine q_nil ?_; intro w105 H105
          refine c_then ?_
          refine x_condF F104 rfl ?_
          refine wp_exit ?_
          refine c_thenX ?_
          refine c_thenX ?_
          refine c_hit ?_
          refine c_then ?_
          exact ⟨j5, F104.cut _ ⟨rfl, rfl, rfl, rfl, rfl, trivial⟩, H105, hj3, hq3, (fun h => by exfalso; omega)⟩
      · skip
        clear F31
        rintro a70 w70 ⟨j5, F70, H70, hj3, hq3, hE5⟩
        refine wp_seq ?_
        refine wp_seq ?_
        refine r_lit ?_
        refine s_val wkP F70 rfl rfl rfl rfl (y_move F70 rfl rfl) ?_; intro a107 F107; clear F70
        refine s_val wkP F107 rfl rfl rfl rfl (y_move F107 rfl rfl) ?_; intro a108 F108; clear F107
        refine s_val wkP F108 rfl rfl rfl rfl (y_gtr F108 rfl rfl rfl) ?_; intro a109 F109; clear F108
        refine wpList_nil ?_
        refine c_then ?_
        refine x_condP F109 rfl (fun hgt => ?_) (fun hgt => ?_)
        · skip
          refine wp_exit ?_
          refine c_thenX ?_
          refine c_miss rfl ?_
          refine c_thenX ?_
          refine c_hit ?_
          refine c_then ?_
          refine wp_seq ?_
          refine r_lit ?_
          refine s_val wkP F109 rfl rfl rfl rfl (y_move F109 rfl rfl) ?_; intro a111 F111; clear F109
          refine s_val wkP F111 rfl rfl rfl rfl (y_assign F111 rfl rfl) ?_; intro a112 F112; clear F111
          refine wpList_nil ?_
          refine c_then ?_
          refine wp_ret ?_
          refine x_ret1 F112 rfl rfl ?_
          exact ⟨_, rfl, zs, i4, rfl, ⟨hsg3, by omega, by omega, hq3.done swoI (by omega) (by omega), hya3⟩, H70⟩
        · skip
          refine wp_skip ?_
          refine c_then ?_
          refine wp_seq ?_
          refine mix_region [13, 15] [(0, 0), (0, 1), (0, 2), (0, 3), (0, 4), (0, 5), (0, 6), (1, 7), (0, 8), (0, 9), (0, 10), (1, 11), (0, 12), (2, 13), (0, 14), (2, 15)] (fun u => ∃ ls, St w0 u ls) (by kernel_rfl) (by kernel_rfl) ⟨_, H70.drew⟩ ?_
          have H113 := H70.drew
          generalize w70.drew = w113 at H113 ⊢
          refine m_pure F109 rfl rfl rfl rfl (fun u hu => y_move F109 rfl rfl) ?_; intro a114 F114; clear F109
          refine m_pure F114 rfl rfl rfl rfl (fun u hu => y_move F114 rfl rfl) ?_; intro a115 F115; clear F114
          refine m_pure F115 rfl rfl rfl rfl (fun u hu => y_move F115 rfl rfl) ?_; intro a116 F116; clear F115
          refine m_pure F116 rfl rfl rfl rfl (fun u hu => y_move F116 rfl rfl) ?_; intro a117 F117; clear F116
          refine m_pure F117 rfl rfl rfl rfl (fun u hu => y_move F117 rfl rfl) ?_; intro a118 F118; clear F117
          refine m_pure F118 rfl rfl rfl rfl (fun u hu => y_move F118 rfl rfl) ?_; intro a119 F119; clear F118
          obtain ⟨bb120, hpe120⟩ := hp (by omega)
          obtain ⟨y, my⟩ : ∃ x, (zs)[j5]? = some x := ⟨_, List.getElem?_eq_getElem (by first | omega | (simp only [List.length_set]; omega))⟩
          refine m_pure F119 rfl rfl rfl rfl (fun u hu => y_indexP F119 elemU64 rfl rfl rfl hpe120 (by omega)) ?_; intro a122 F122; clear F119
          refine m_read F122 rfl rfl rfl rfl (y_load1 F122 plU64 rfl rfl (Row.elem (inC_len .u64) (H113.ownRowP 0 rfl hpe120) (fun _ _ => trivial) my 0 _ rfl)) ?_; intro a123 F123; clear F122
          refine m_pure F123 rfl rfl rfl rfl (fun u hu => y_move F123 rfl rfl) ?_; intro a124 F124; clear F123
          refine m_pure F124 rfl rfl rfl rfl (fun u hu => y_move F124 rfl rfl) ?_; intro a125 F125; clear F124
          obtain ⟨x, mx⟩ : ∃ x, (zs)[i4]? = some x := ⟨_, List.getElem?_eq_getElem (by first | omega | (simp only [List.length_set]; omega))⟩
          refine m_pure F125 rfl rfl rfl rfl (fun u hu => y_indexP F125 elemU64 rfl rfl rfl hpe120 (by omega)) ?_; intro a127 F127; clear F125
          refine m_read F127 rfl rfl rfl rfl (y_load1 F127 plU64 rfl rfl (Row.elem (inC_len .u64) (H113.ownRowP 0 rfl hpe120) (fun _ _ => trivial) mx 0 _ rfl)) ?_; intro a128 F128; clear F127
          refine m_pure F128 rfl rfl rfl rfl (fun u hu => y_indexP F128 elemU64 rfl rfl rfl hpe120 (by omega)) ?_; intro a129 F129; clear F128
          refine m_heavy rfl rfl ?_
          refine s_setElem wkP F129 rfl rfl z1U64 rfl hpe120 rfl rfl y rfl rfl rfl H113 0 rfl (fun _ => rfl) (by first | omega | (simp only [List.length_set]; omega)) (by omega) ?_; intro w130 h130
          have H130 : St w0 w130 ([HP.own 24 1 (.slice p n cap) (n) (rows (inC .u64) (zs.set (i4) y))] ++ ls) := h130
          clear h130
          refine wpList_nil ?_; refine c_then ⟨⟨_, H130⟩, ?_⟩
          obtain ⟨x131, mx131⟩ : ∃ x, ((zs.set (i4) y))[j5]? = some x := ⟨_, List.getElem?_eq_getElem (by first | omega | (simp only [List.length_set]; omega))⟩
          refine m_pure F129 rfl rfl rfl rfl (fun u hu => y_indexP F129 elemU64 rfl rfl rfl hpe120 (by omega)) ?_; intro a132 F132; clear F129
          refine m_heavy rfl rfl ?_
          refine s_setElem wkP F132 rfl rfl z1U64 rfl hpe120 rfl rfl x rfl rfl rfl H130 0 rfl (fun _ => rfl) (by first | omega | (simp only [List.length_set]; omega)) (by omega) ?_; intro w133 h133
          have H133 : St w0 w133 ([HP.own 24 1 (.slice p n cap) (n) (rows (inC .u64) ((zs.set (i4) y).set (j5) x))] ++ ls) := h133
          clear h133
          refine wpList_nil ?_; refine c_then ⟨⟨_, H133⟩, ?_⟩
          refine m_nil ?_
          refine c_then ?_
          refine wp_seq ?_
          obtain ⟨z, mz⟩ : ∃ z, zs[a]? = some z := ⟨_, List.getElem?_eq_getElem (by omega)⟩
          have hx1 := hE3 (by omega) x z mx mz
          have hx2 := hE5 (by omega) y z my mz
          have hlt : i4 < j5 := by
            rcases Nat.lt_or_ge i4 j5 with h | h
            · exact h
            · obtain rfl : i4 = j5 := by omega
              cases mx.symm.trans my
              rw [hx1] at hx2; cases hx2
          refine r_lit ?_
          refine s_val wkP F132 rfl rfl rfl rfl (y_move F132 rfl rfl) ?_; intro a134 F134; clear F132
          refine s_val wkP F134 rfl rfl rfl rfl (y_add F134 rfl rfl rfl (r := ((i4 + 1 : Nat) : Int)) (wrap_i64 (by omega) (by omega) (by omega))) ?_; intro a135 F135; clear F134
          refine s_val wkP F135 rfl rfl rfl rfl (y_assign F135 rfl rfl) ?_; intro a136 F136; clear F135
          refine wpList_nil ?_
          refine c_then ?_
          refine r_lit ?_
          refine s_val wkP F136 rfl rfl rfl rfl (y_move F136 rfl rfl) ?_; intro a137 F137; clear F136
          refine s_val wkP F137 rfl rfl rfl rfl (y_sub F137 rfl rfl rfl (r := ((j5 - 1 : Nat) : Int)) (wrap_i64 (by omega) (by omega) (by omega))) ?_; intro a138 F138; clear F137
          refine s_val wkP F138 rfl rfl rfl rfl (y_assign F138 rfl rfl) ?_; intro a139 F139; clear F138
          refine wpList_nil ?_
          refine c_blkN ?_
          refine c_then ?_
          exact ⟨(i4 + 1, j5 - 1, ((zs.set (i4) y).set (j5) x)), ⟨F139.cut _ ⟨rfl, rfl, rfl, rfl, rfl, trivial⟩, H133, by omega, hsg3.swap mx my (by omega) (by omega) (by omega) (by omega), by simp only [List.length_set]; exact hzl, by rw [swap_get mx my, if_neg (by omega), if_neg (by omega)]; exact hya3, hq3.swap (by omega) hlt mx my mz hx1 hx2⟩, by first | omega | (dsimp only; omega)⟩
theorem ent42 : ∀ args w, (callFunc 42 args).run Try.prog w = .ok (.enter 42 args) w := enters Try.func42 (by kernel_rfl) rfl
set_option maxRecDepth 100000 in
set_option maxHeartbeats 2000000 in
theorem partialIns {w0 w : World} {ls : List HP} {p : Option Addr} {n cap : Nat} (xs : List Int) (hn : xs.length = n) (hn1 : n ≤ 1000000) (a b : Nat) (hab : a < b) (hbn : b ≤ n) (hlo0 : Lo ltI a b xs) (H : St w0 w (HP.own 24 1 (.slice p n cap) (n) (rows (inC .u64) xs) :: ls)) :
    Calls Try.prog 40 [.slice p n cap, .int .i64 (a : Int), .int .i64 (b : Int)].toArray w (fun e w' => ∃ v, e = .returned v ∧ ∃ ys, ∃ bb : Bool, v = .bool bb ∧ (Seg a b xs ys ∧ (bb = true → Srt ltI a b ys)) ∧ St w0 w' (HP.own 24 1 (.slice p n cap) (n) (rows (inC .u64) ys) :: ls)) := by
  have hp := (H.ownP 0 rfl).2.2
  refine x_enter Try.func40 rfl rfl rfl ?_
  intro a0 F0
  replace F0 : Fr ⟨133, []⟩ a0 [(0, .slice p n cap), (1, .int .i64 (a : Int)), (2, .int .i64 (b : Int))] := F0
  have H0 : St w0 w ([HP.own 24 1 (.slice p n cap) (n) (rows (inC .u64) xs)] ++ ls) := H
  refine wp_seq ?_
  refine r_lit ?_
  refine s_val wkP F0 rfl rfl rfl rfl (y_assign F0 rfl rfl) ?_; intro a1 F1; clear F0
  refine wpList_nil ?_
  refine c_then ?_
  refine wp_seq ?_
  refine r_lit ?_
  refine s_val wkP F1 rfl rfl rfl rfl (y_move F1 rfl rfl) ?_; intro a2 F2; clear F1
  refine s_val wkP F2 rfl rfl rfl rfl (y_add F2 rfl rfl rfl (r := ((a + 1 : Nat) : Int)) (wrap_i64 (by omega) (by omega) (by omega))) ?_; intro a3 F3; clear F2
  refine s_val wkP F3 rfl rfl rfl rfl (y_assign F3 rfl rfl) ?_; intro a4 F4; clear F3
  refine wpList_nil ?_
  refine c_then ?_
  refine wp_seq ?_
  refine wp_seq ?_
  refine r_lit ?_
  refine s_val wkP F4 rfl rfl rfl rfl (y_assign F4 rfl rfl) ?_; intro a5 F5; clear F4
  refine wpList_nil ?_
  refine c_then ?_
  refine wp_block ?_
  refine x_loop (G := Nat × Nat × List Int) (fun gg aa ww => match gg with | (jj, i, ys) => Fr ⟨133, []⟩ aa [(0, .slice p n cap), (1, .int .i64 (((a : Nat) : Int))), (2, .int .i64 (((b : Nat) : Int))), (8, .int .i64 (((jj : Nat) : Int))), (7, .int .i64 (((i : Nat) : Int)))] ∧ St w0 ww ([HP.own 24 1 (.slice p n cap) (n) (rows (inC .u64) ys)] ++ ls) ∧ (jj ≤ 5 ∧ a + 1 ≤ i ∧ i ≤ b) ∧ (Seg a b xs ys) ∧ (ys.length = n) ∧ (Lo ltI a b ys) ∧ (Srt ltI a i ys)) (fun gg => match gg with | (jj, i, ys) => 5 - jj) (0, a + 1, xs) ⟨F5.cut _ ⟨rfl, rfl, rfl, rfl, rfl, trivial⟩, H0, by omega, Seg.refl _ _ _, hn, hlo0, Srt.short (by omega) _⟩ ?_
  clear F5
  rintro ⟨jj, i, ys⟩ a6 w6 ⟨F6, H6, hi, hsg, hyl, hlo, hsr⟩
  refine wp_seq ?_
  refine wp_seq ?_
  refine r_lit ?_
  refine s_val wkP F6 rfl rfl rfl rfl (y_move F6 rfl rfl) ?_; intro a7 F7; clear F6
  refine s_val wkP F7 rfl rfl rfl rfl (y_lss F7 rfl rfl rfl) ?_; intro a8 F8; clear F7
  refine wpList_nil ?_
  refine c_then ?_
  refine x_condP F8 rfl (fun hj5 => ?_) (fun hj5 => ?_)
  · skip
    refine wp_skip ?_
    refine c_then ?_
    refine wp_seq ?_
    refine wp_block ?_
    refine x_seqM (fun aa ww => ∃ i2 : Nat, Fr ⟨133, []⟩ aa [(0, .slice p n cap), (1, .int .i64 (((a : Nat) : Int))), (2, .int .i64 (((b : Nat) : Int))), (8, .int .i64 (((jj : Nat) : Int))), (13, .int .i64 (((jj : Nat) : Int))), (14, .bool (decide ((((jj : Nat) : Int)) < (5)))), (7, .int .i64 (((i2 : Nat) : Int)))] ∧ St w0 ww ([HP.own 24 1 (.slice p n cap) (n) (rows (inC .u64) ys)] ++ ls) ∧ (i ≤ i2 ∧ i2 ≤ b) ∧ (Srt ltI a i2 ys) ∧ (i2 < b → ∀ x y, ys[i2]? = some x → ys[i2 - 1]? = some y → ltI x y = true)) ?_ ?_
    · skip
      refine wp_block ?_
      refine x_loop (G := Nat) (fun i2 aa ww => Fr ⟨133, []⟩ aa [(0, .slice p n cap), (1, .int .i64 (((a : Nat) : Int))), (2, .int .i64 (((b : Nat) : Int))), (8, .int .i64 (((jj : Nat) : Int))), (13, .int .i64 (((jj : Nat) : Int))), (14, .bool (decide ((((jj : Nat) : Int)) < (5)))), (7, .int .i64 (((i2 : Nat) : Int)))] ∧ St w0 ww ([HP.own 24 1 (.slice p n cap) (n) (rows (inC .u64) ys)] ++ ls) ∧ (i ≤ i2 ∧ i2 ≤ b) ∧ (Srt ltI a i2 ys)) (fun i2 => b - i2) i ⟨F8.cut _ ⟨rfl, rfl, rfl, rfl, rfl, rfl, rfl, trivial⟩, H6, by omega, hsr⟩ ?_
      clear F8
      rintro i2 a11 w11 ⟨F11, H11, hi2, hsr2⟩
      refine wp_seq ?_
      refine wp_seq ?_
      refine q_region (fun u => St w0 u ([HP.own 24 1 (.slice p n cap) (n) (rows (inC .u64) ys)] ++ ls)) (by kernel_rfl) (by kernel_rfl) H11.drew ?_
      refine q_val F11 rfl rfl rfl (fun u hu => y_move F11 rfl rfl) ?_; intro a12 F12; clear F11
      refine q_val F12 rfl rfl rfl (fun u hu => y_move F12 rfl rfl) ?_; intro a13 F13; clear F12
      refine q_val F13 rfl rfl rfl (fun u hu => y_lss F13 rfl rfl rfl) ?_; intro a14 F14; clear F13
      refine q_val F14 rfl rfl rfl (fun u hu => y_move F14 rfl rfl) ?_; intro a15 F15; clear F14
      refine g_split (k := 20) F15 rfl (fun hg5 F16 => ?_) (fun hg5 F16 => ?_)
      · clear F15
        refine qg_on F16 rfl rfl rfl rfl ?_
        refine q_val F16 rfl rfl rfl (fun u hu => y_move F16 rfl rfl) ?_; intro a17 F17; clear F16
        refine qg_on F17 rfl rfl rfl rfl ?_
        refine q_val F17 rfl rfl rfl (fun u hu => y_move F17 rfl rfl) ?_; intro a18 F18; clear F17
        refine qg_on F18 rfl rfl rfl rfl ?_
        obtain ⟨bb19, hpe19⟩ := hp (by omega)
        obtain ⟨x5, mx5⟩ : ∃ x, (ys)[i2]? = some x := ⟨_, List.getElem?_eq_getElem (by first | omega | (simp only [List.length_set]; omega))⟩
        refine q_val F18 rfl rfl rfl (fun u hu => y_indexP F18 elemU64 rfl rfl rfl hpe19 (by omega)) ?_; intro a21 F21; clear F18
        refine qg_on F21 rfl rfl rfl rfl ?_
        refine q_val F21 rfl rfl rfl (fun u hu => y_load1 F21 plU64 rfl rfl (Row.elem (inC_len .u64) (hu.ownRowP 0 rfl hpe19) (fun _ _ => trivial) mx5 0 _ rfl)) ?_; intro a22 F22; clear F21
        refine qg_on F22 rfl rfl rfl rfl ?_
        refine q_val F22 rfl rfl rfl (fun u hu => y_move F22 rfl rfl) ?_; intro a23 F23; clear F22
        refine qg_on F23 rfl rfl rfl rfl ?_
        refine q_val F23 rfl rfl rfl (fun u hu => y_move F23 rfl rfl) ?_; intro a24 F24; clear F23
        refine qg_on F24 rfl rfl rfl rfl ?_
        refine q_val F24 rfl rfl rfl (fun u hu => y_sub F24 rfl rfl rfl (r := ((i2 - 1 : Nat) : Int)) (wrap_i64 (by omega) (by omega) (by omega))) ?_; intro a25 F25; clear F24
        refine qg_on F25 rfl rfl rfl rfl ?_
        obtain ⟨y5, my5⟩ : ∃ x, (ys)[i2 - 1]? = some x := ⟨_, List.getElem?_eq_getElem (by first | omega | (simp only [List.length_set]; omega))⟩
        refine q_val F25 rfl rfl rfl (fun u hu => y_indexP F25 elemU64 rfl rfl rfl hpe19 (by omega)) ?_; intro a27 F27; clear F25
        refine qg_on F27 rfl rfl rfl rfl ?_
        refine q_val F27 rfl rfl rfl (fun u hu => y_load1 F27 plU64 rfl rfl (Row.elem (inC_len .u64) (hu.ownRowP 0 rfl hpe19) (fun _ _ => trivial) my5 0 _ rfl)) ?_; intro a28 F28; clear F27
        refine qg_on F28 rfl rfl rfl rfl ?_
        refine q_call F28 rfl rfl rfl (fun u hu => y_call F28 rfl rfl ent41) (fun u hu => (lessU _ _ _).mono fun e u2 he => ⟨he.1, hu.call0 he.2⟩) ?_; intro a29 F29; clear F28
        refine qg_on F29 rfl rfl rfl rfl ?_
        refine q_val F29 rfl rfl rfl (fun u hu => y_not F29 rfl rfl) ?_; intro a30 F30; clear F29
        refine q_val F30 rfl rfl rfl (fun u hu => y_pickT F30 rfl rfl rfl) ?_; intro a31 F31; clear F30
        refine q_nil ?_; intro w32 H32
        refine c_then ?_
        refine x_cond F31 rfl (fun hl5 => ?_) (fun hl5 => ?_)
        · skip
          replace hl5 : ltI x5 y5 = false := by simpa using hl5
          refine wp_skip ?_
          refine c_then ?_
          refine wp_block ?_
          refine r_lit ?_
          refine s_val wkP F31 rfl rfl rfl rfl (y_move F31 rfl rfl) ?_; intro a34 F34; clear F31
          refine s_val wkP F34 rfl rfl rfl rfl (y_add F34 rfl rfl rfl (r := ((i2 + 1 : Nat) : Int)) (wrap_i64 (by omega) (by omega) (by omega))) ?_; intro a35 F35; clear F34
          refine s_val wkP F35 rfl rfl rfl rfl (y_assign F35 rfl rfl) ?_; intro a36 F36; clear F35
          refine wpList_nil ?_
          refine c_blkN ?_
          refine c_then ?_
          exact ⟨i2 + 1, ⟨F36.cut _ ⟨rfl, rfl, rfl, rfl, rfl, rfl, rfl, trivial⟩, H32, by omega, hsr2.snoc swoI (by omega) (by omega) mx5 my5 hl5⟩, by first | omega | (dsimp only; omega)⟩
        · skip
          replace hl5 : ltI x5 y5 = true := by simpa using hl5
          refine wp_exit ?_
          refine c_thenX ?_
          refine c_thenX ?_
          refine c_hit ?_
          refine c_then ?_
          exact ⟨i2, F31.cut _ ⟨rfl, rfl, rfl, rfl, rfl, rfl, rfl, trivial⟩, H32, hi2, hsr2, (fun _ x y hx hy => by cases hx.symm.trans mx5; cases hy.symm.trans my5; exact hl5)⟩
      · clear F15
        refine qg_off F16 rfl rfl rfl rfl rfl rfl rfl ?_; intro a37 F37; clear F16
        refine qg_off F37 rfl rfl rfl rfl rfl rfl rfl ?_; intro a38 F38; clear F37
        refine qg_off F38 rfl rfl rfl rfl rfl rfl rfl ?_; intro a39 F39; clear F38
        refine qg_off F39 rfl rfl rfl rfl rfl rfl rfl ?_; intro a40 F40; clear F39
        refine qg_off F40 rfl rfl rfl rfl rfl rfl rfl ?_; intro a41 F41; clear F40
        refine qg_off F41 rfl rfl rfl rfl rfl rfl rfl ?_; intro a42 F42; clear F41
        refine qg_off F42 rfl rfl rfl rfl rfl rfl rfl ?_; intro a43 F43; clear F42
        refine qg_off F43 rfl rfl rfl rfl rfl rfl rfl ?_; intro a44 F44; clear F43
        refine qg_off F44 rfl rfl rfl rfl rfl rfl rfl ?_; intro a45 F45; clear F44
        refine qg_off F45 rfl rfl rfl rfl rfl rfl rfl ?_; intro a46 F46; clear F45
        refine qg_off F46 rfl rfl rfl rfl rfl rfl rfl ?_; intro a47 F47; clear F46
        refine q_val F47 rfl rfl rfl (fun u hu => y_pickF F47 rfl rfl rfl) ?_; intro a48 F48; clear F47
        refine q_nil ?_; intro w49 H49
        refine c_then ?_
        refine x_condF F48 rfl ?_
        refine wp_exit ?_
        refine c_thenX ?_
        refine c_thenX ?_
        refine c_hit ?_
        refine c_then ?_
        exact ⟨i2, F48.cut _ ⟨rfl, rfl, rfl, rfl, rfl, rfl, rfl, trivial⟩, H49, hi2, hsr2, (fun h => by exfalso; omega)⟩
    · skip
      clear F8
      rintro a10 w10 ⟨i2, F10, H10, hi2, hsr2, hE⟩
      refine wp_seq ?_
      refine wp_seq ?_
      refine r_lit ?_
      refine s_val wkP F10 rfl rfl rfl rfl (y_move F10 rfl rfl) ?_; intro a51 F51; clear F10
      refine s_val wkP F51 rfl rfl rfl rfl (y_move F51 rfl rfl) ?_; intro a52 F52; clear F51
      refine s_val wkP F52 rfl rfl rfl rfl (y_eql F52 rfl rfl rfl) ?_; intro a53 F53; clear F52
      refine wpList_nil ?_
      refine c_then ?_
      refine x_condP F53 rfl (fun heq => ?_) (fun heq => ?_)
      · skip
        refine wp_seq ?_
        refine r_lit ?_
        refine s_val wkP F53 rfl rfl rfl rfl (y_assign F53 rfl rfl) ?_; intro a55 F55; clear F53
        refine wpList_nil ?_
        refine c_then ?_
        refine wp_ret ?_
        refine c_thenR ?_
        refine c_blkR ?_
        refine c_thenR ?_
        refine c_thenR ?_
        refine c_blkR ?_
        refine c_thenR ?_
        refine x_ret1 F55 rfl rfl ?_
        obtain rfl : i2 = b := by omega
        exact ⟨_, rfl, _, true, rfl, ⟨hsg, fun _ => hsr2⟩, H10⟩
      · skip
        refine wp_skip ?_
        refine c_then ?_
        refine wp_seq ?_
        refine wp_seq ?_
        refine r_lit ?_
        refine s_val wkP F53 rfl rfl rfl rfl (y_move F53 rfl rfl) ?_; intro a56 F56; clear F53
        refine s_val wkP F56 rfl rfl rfl rfl (y_move F56 rfl rfl) ?_; intro a57 F57; clear F56
        refine s_val wkP F57 rfl rfl rfl rfl (y_sub F57 rfl rfl rfl (r := ((b - a : Nat) : Int)) (wrap_i64 (by omega) (by omega) (by omega))) ?_; intro a58 F58; clear F57
        refine s_val wkP F58 rfl rfl rfl rfl (y_lss F58 rfl rfl rfl) ?_; intro a59 F59; clear F58
        refine wpList_nil ?_
        refine c_then ?_
        refine x_condP F59 rfl (fun hsh => ?_) (fun hsh => ?_)
        · skip
          refine wp_seq ?_
          refine r_lit ?_
          refine s_val wkP F59 rfl rfl rfl rfl (y_assign F59 rfl rfl) ?_; intro a61 F61; clear F59
          refine wpList_nil ?_
          refine c_then ?_
          refine wp_ret ?_
          refine c_thenR ?_
          refine c_blkR ?_
          refine c_thenR ?_
          refine c_thenR ?_
          refine c_blkR ?_
          refine c_thenR ?_
          refine x_ret1 F61 rfl rfl ?_
          exact ⟨_, rfl, _, false, rfl, ⟨hsg, fun h => by cases h⟩, H10⟩
        · skip
          refine wp_skip ?_
          refine c_then ?_
          refine x_seqM (fun aa ww => ∃ zs : List Int, Fr ⟨133, []⟩ aa [(0, .slice p n cap), (1, .int .i64 (((a : Nat) : Int))), (2, .int .i64 (((b : Nat) : Int))), (7, .int .i64 (((i2 : Nat) : Int))), (8, .int .i64 (((jj : Nat) : Int))), (13, .int .i64 (((jj : Nat) : Int))), (14, .bool (decide ((((jj : Nat) : Int)) < (5)))), (35, .int .i64 (((i2 : Nat) : Int))), (36, .int .i64 (((b : Nat) : Int))), (37, .bool (decide ((((i2 : Nat) : Int)) = (((b : Nat) : Int))))), (38, .int .i64 (((b : Nat) : Int))), (39, .int .i64 (((a : Nat) : Int))), (40, .int .i64 (((b - a : Nat) : Int))), (41, .bool (decide ((((b - a : Nat) : Int)) < (50))))] ∧ St w0 ww ([HP.own 24 1 (.slice p n cap) (n) (rows (inC .u64) zs)] ++ ls) ∧ (Seg a b xs zs) ∧ (zs.length = n) ∧ (Lo ltI a b zs) ∧ (Srt ltI a (i2 - 1) zs)) ?_ ?_
          · skip
            refine mix_region [15, 17] [(0, 0), (0, 1), (0, 2), (0, 3), (0, 4), (0, 5), (0, 6), (0, 7), (0, 8), (1, 9), (0, 10), (0, 11), (0, 12), (1, 13), (0, 14), (2, 15), (0, 16), (2, 17)] (fun u => ∃ ls, St w0 u ls) (by kernel_rfl) (by kernel_rfl) ⟨_, H10.drew⟩ ?_
            have H63 := H10.drew
            generalize w10.drew = w63 at H63 ⊢
            refine m_pure F59 rfl rfl rfl rfl (fun u hu => y_move F59 rfl rfl) ?_; intro a64 F64; clear F59
            refine m_pure F64 rfl rfl rfl rfl (fun u hu => y_move F64 rfl rfl) ?_; intro a65 F65; clear F64
            refine m_pure F65 rfl rfl rfl rfl (fun u hu => y_move F65 rfl rfl) ?_; intro a66 F66; clear F65
            refine m_pure F66 rfl rfl rfl rfl (fun u hu => y_move F66 rfl rfl) ?_; intro a67 F67; clear F66
            refine m_pure F67 rfl rfl rfl rfl (fun u hu => y_sub F67 rfl rfl rfl (r := ((i2 - 1 : Nat) : Int)) (wrap_i64 (by omega) (by omega) (by omega))) ?_; intro a68 F68; clear F67
            refine m_pure F68 rfl rfl rfl rfl (fun u hu => y_move F68 rfl rfl) ?_; intro a69 F69; clear F68
            refine m_pure F69 rfl rfl rfl rfl (fun u hu => y_move F69 rfl rfl) ?_; intro a70 F70; clear F69
            refine m_pure F70 rfl rfl rfl rfl (fun u hu => y_sub F70 rfl rfl rfl (r := ((i2 - 1 : Nat) : Int)) (wrap_i64 (by omega) (by omega) (by omega))) ?_; intro a71 F71; clear F70
            obtain ⟨bb72, hpe72⟩ := hp (by omega)
            obtain ⟨y, my⟩ : ∃ x, (ys)[i2 - 1]? = some x := ⟨_, List.getElem?_eq_getElem (by first | omega | (simp only [List.length_set]; omega))⟩
            refine m_pure F71 rfl rfl rfl rfl (fun u hu => y_indexP F71 elemU64 rfl rfl rfl hpe72 (by omega)) ?_; intro a74 F74; clear F71
            refine m_read F74 rfl rfl rfl rfl (y_load1 F74 plU64 rfl rfl (Row.elem (inC_len .u64) (H63.ownRowP 0 rfl hpe72) (fun _ _ => trivial) my 0 _ rfl)) ?_; intro a75 F75; clear F74
            refine m_pure F75 rfl rfl rfl rfl (fun u hu => y_move F75 rfl rfl) ?_; intro a76 F76; clear F75
            refine m_pure F76 rfl rfl rfl rfl (fun u hu => y_move F76 rfl rfl) ?_; intro a77 F77; clear F76
            obtain ⟨x, mx⟩ : ∃ x, (ys)[i2]? = some x := ⟨_, List.getElem?_eq_getElem (by first | omega | (simp only [List.length_set]; omega))⟩
            refine m_pure F77 rfl rfl rfl rfl (fun u hu => y_indexP F77 elemU64 rfl rfl rfl hpe72 (by omega)) ?_; intro a79 F79; clear F77
            refine m_read F79 rfl rfl rfl rfl (y_load1 F79 plU64 rfl rfl (Row.elem (inC_len .u64) (H63.ownRowP 0 rfl hpe72) (fun _ _ => trivial) mx 0 _ rfl)) ?_; intro a80 F80; clear F79
            refine m_pure F80 rfl rfl rfl rfl (fun u hu => y_indexP F80 elemU64 rfl rfl rfl hpe72 (by omega)) ?_; intro a81 F81; clear F80
            refine m_heavy rfl rfl ?_
            refine s_setElem wkP F81 rfl rfl z1U64 rfl hpe72 rfl rfl y rfl rfl rfl H63 0 rfl (fun _ => rfl) (by first | omega | (simp only [List.length_set]; omega)) (by omega) ?_; intro w82 h82
            have H82 : St w0 w82 ([HP.own 24 1 (.slice p n cap) (n) (rows (inC .u64) (ys.set (i2) y))] ++ ls) := h82
            clear h82
            refine wpList_nil ?_; refine c_then ⟨⟨_, H82⟩, ?_⟩
            obtain ⟨x83, mx83⟩ : ∃ x, ((ys.set (i2) y))[i2 - 1]? = some x := ⟨_, List.getElem?_eq_getElem (by first | omega | (simp only [List.length_set]; omega))⟩
            refine m_pure F81 rfl rfl rfl rfl (fun u hu => y_indexP F81 elemU64 rfl rfl rfl hpe72 (by omega)) ?_; intro a84 F84; clear F81
            refine m_heavy rfl rfl ?_
            refine s_setElem wkP F84 rfl rfl z1U64 rfl hpe72 rfl rfl x rfl rfl rfl H82 0 rfl (fun _ => rfl) (by first | omega | (simp only [List.length_set]; omega)) (by omega) ?_; intro w85 h85
            have H85 : St w0 w85 ([HP.own 24 1 (.slice p n cap) (n) (rows (inC .u64) ((ys.set (i2) y).set (i2 - 1) x))] ++ ls) := h85
            clear h85
            refine wpList_nil ?_; refine c_then ⟨⟨_, H85⟩, ?_⟩
            refine m_nil ?_
            refine c_then ?_
            exact ⟨((ys.set (i2) y).set (i2 - 1) x), F84.cut _ ⟨rfl, rfl, rfl, rfl, rfl, rfl, rfl, rfl, rfl, rfl, rfl, rfl, rfl, rfl, trivial⟩, H85, hsg.swap mx my (by omega) (by omega) (by omega) (by omega), by simp only [List.length_set]; exact hyl, hlo.seg ((Seg.refl a b ys).swap mx my (by omega) (by omega) (by omega) (by omega)), (hsr2.narrow (Nat.le_refl _) (by omega)).seg ((Seg.refl (i2 - 1) (i2 + 1) ys).swap mx my (by omega) (by omega) (by omega) (by omega)) (.inl (by omega))⟩
          · skip
            clear F59
            rintro a62 w62 ⟨zs, F62, H62, hsz, hzl, hlz, hsz0⟩
            refine x_seqM (fun aa ww => ∃ us : List Int, Fr ⟨133, []⟩ aa [(0, .slice p n cap), (1, .int .i64 (((a : Nat) : Int))), (2, .int .i64 (((b : Nat) : Int))), (7, .int .i64 (((i2 : Nat) : Int))), (8, .int .i64 (((jj : Nat) : Int))), (13, .int .i64 (((jj : Nat) : Int))), (14, .bool (decide ((((jj : Nat) : Int)) < (5)))), (35, .int .i64 (((i2 : Nat) : Int))), (36, .int .i64 (((b : Nat) : Int))), (37, .bool (decide ((((i2 : Nat) : Int)) = (((b : Nat) : Int))))), (38, .int .i64 (((b : Nat) : Int))), (39, .int .i64 (((a : Nat) : Int))), (40, .int .i64 (((b - a : Nat) : Int))), (41, .bool (decide ((((b - a : Nat) : Int)) < (50))))] ∧ St w0 ww ([HP.own 24 1 (.slice p n cap) (n) (rows (inC .u64) us)] ++ ls) ∧ (Seg a b xs us) ∧ (us.length = n) ∧ (Lo ltI a b us) ∧ (Srt ltI a i2 us)) ?_ ?_
            · skip
              refine wp_seq ?_
              refine r_lit ?_
              refine s_val wkP F62 rfl rfl rfl rfl (y_move F62 rfl rfl) ?_; intro a87 F87; clear F62
              refine s_val wkP F87 rfl rfl rfl rfl (y_move F87 rfl rfl) ?_; intro a88 F88; clear F87
              refine s_val wkP F88 rfl rfl rfl rfl (y_sub F88 rfl rfl rfl (r := ((i2 - a : Nat) : Int)) (wrap_i64 (by omega) (by omega) (by omega))) ?_; intro a89 F89; clear F88
              refine s_val wkP F89 rfl rfl rfl rfl (y_geq F89 rfl rfl rfl) ?_; intro a90 F90; clear F89
              refine wpList_nil ?_
              refine c_then ?_
              refine x_condP F90 rfl (fun h2 => ?_) (fun h2 => ?_)
              · skip
                refine wp_seq ?_
                refine r_lit ?_
                refine s_val wkP F90 rfl rfl rfl rfl (y_move F90 rfl rfl) ?_; intro a92 F92; clear F90
                refine s_val wkP F92 rfl rfl rfl rfl (y_sub F92 rfl rfl rfl (r := ((i2 - 1 : Nat) : Int)) (wrap_i64 (by omega) (by omega) (by omega))) ?_; intro a93 F93; clear F92
                refine s_val wkP F93 rfl rfl rfl rfl (y_assign F93 rfl rfl) ?_; intro a94 F94; clear F93
                refine wpList_nil ?_
                refine c_then ?_
                refine wp_block ?_
                refine x_loop (G := Nat × List Int) (fun gg aa ww => match gg with | (j3, ws) => Fr ⟨133, []⟩ aa [(0, .slice p n cap), (1, .int .i64 (((a : Nat) : Int))), (2, .int .i64 (((b : Nat) : Int))), (7, .int .i64 (((i2 : Nat) : Int))), (8, .int .i64 (((jj : Nat) : Int))), (13, .int .i64 (((jj : Nat) : Int))), (14, .bool (decide ((((jj : Nat) : Int)) < (5)))), (35, .int .i64 (((i2 : Nat) : Int))), (36, .int .i64 (((b : Nat) : Int))), (37, .bool (decide ((((i2 : Nat) : Int)) = (((b : Nat) : Int))))), (38, .int .i64 (((b : Nat) : Int))), (39, .int .i64 (((a : Nat) : Int))), (40, .int .i64 (((b - a : Nat) : Int))), (41, .bool (decide ((((b - a : Nat) : Int)) < (50)))), (58, .int .i64 (((i2 : Nat) : Int))), (59, .int .i64 (((a : Nat) : Int))), (60, .int .i64 (((i2 - a : Nat) : Int))), (61, .bool (decide ((2) ≤ (((i2 - a : Nat) : Int))))), (62, .int .i64 (((i2 : Nat) : Int))), (63, .int .i64 (((i2 - 1 : Nat) : Int))), (9, .int .i64 (((j3 : Nat) : Int)))] ∧ St w0 ww ([HP.own 24 1 (.slice p n cap) (n) (rows (inC .u64) ws)] ++ ls) ∧ (a ≤ j3 ∧ j3 ≤ i2 - 1) ∧ (Seg a b xs ws) ∧ (ws.length = n) ∧ (Lo ltI a b ws) ∧ (Ins ltI a (i2 - 1) j3 ws)) (fun gg => match gg with | (j3, ws) => j3) (i2 - 1, zs) ⟨F94.cut _ ⟨rfl, rfl, rfl, rfl, rfl, rfl, rfl, rfl, rfl, rfl, rfl, rfl, rfl, rfl, rfl, rfl, rfl, rfl, rfl, rfl, rfl, trivial⟩, H62, by omega, hsz, hzl, hlz, Ins.start hsz0⟩ ?_
                clear F94
                rintro ⟨j3, ws⟩ a95 w95 ⟨F95, H95, hj3, hsw, hwl, hlw, hins⟩
                refine wp_seq ?_
                refine wp_seq ?_
                refine r_lit ?_
                refine s_val wkP F95 rfl rfl rfl rfl (y_move F95 rfl rfl) ?_; intro a96 F96; clear F95
                refine s_val wkP F96 rfl rfl rfl rfl (y_geq F96 rfl rfl rfl) ?_; intro a97 F97; clear F96
                refine wpList_nil ?_
                refine c_then ?_
                refine x_condP F97 rfl (fun hj1 => ?_) (fun hj1 => ?_)
                · skip
                  refine wp_skip ?_
                  refine c_then ?_
                  refine wp_seq ?_
                  refine wp_block ?_
                  refine wp_seq ?_
                  refine wp_seq ?_
                  refine q_region (fun u => St w0 u ([HP.own 24 1 (.slice p n cap) (n) (rows (inC .u64) ws)] ++ ls)) (by kernel_rfl) (by kernel_rfl) H95.drew ?_
                  refine q_val F97 rfl rfl rfl (fun u hu => y_move F97 rfl rfl) ?_; intro a99 F99; clear F97
                  refine q_val F99 rfl rfl rfl (fun u hu => y_move F99 rfl rfl) ?_; intro a100 F100; clear F99
                  obtain ⟨bb101, hpe101⟩ := hp (by omega)
                  obtain ⟨x, mx⟩ : ∃ x, (ws)[j3]? = some x := ⟨_, List.getElem?_eq_getElem (by first | omega | (simp only [List.length_set]; omega))⟩
                  refine q_val F100 rfl rfl rfl (fun u hu => y_indexP F100 elemU64 rfl rfl rfl hpe101 (by omega)) ?_; intro a103 F103; clear F100
                  refine q_val F103 rfl rfl rfl (fun u hu => y_load1 F103 plU64 rfl rfl (Row.elem (inC_len .u64) (hu.ownRowP 0 rfl hpe101) (fun _ _ => trivial) mx 0 _ rfl)) ?_; intro a104 F104; clear F103
                  refine q_val F104 rfl rfl rfl (fun u hu => y_move F104 rfl rfl) ?_; intro a105 F105; clear F104
                  refine q_val F105 rfl rfl rfl (fun u hu => y_move F105 rfl rfl) ?_; intro a106 F106; clear F105
                  refine q_val F106 rfl rfl rfl (fun u hu => y_sub F106 rfl rfl rfl (r := ((j3 - 1 : Nat) : Int)) (wrap_i64 (by omega) (by omega) (by omega))) ?_; intro a107 F107; clear F106
                  obtain ⟨y, my⟩ : ∃ x, (ws)[j3 - 1]? = some x := ⟨_, List.getElem?_eq_getElem (by first | omega | (simp only [List.length_set]; omega))⟩
                  refine q_val F107 rfl rfl rfl (fun u hu => y_indexP F107 elemU64 rfl rfl rfl hpe101 (by omega)) ?_; intro a109 F109; clear F107
                  refine q_val F109 rfl rfl rfl (fun u hu => y_load1 F109 plU64 rfl rfl (Row.elem (inC_len .u64) (hu.ownRowP 0 rfl hpe101) (fun _ _ => trivial) my 0 _ rfl)) ?_; intro a110 F110; clear F109
                  refine q_call F110 rfl rfl rfl (fun u hu => y_call F110 rfl rfl ent41) (fun u hu => (lessU _ _ _).mono fun e u2 he => ⟨he.1, hu.call0 he.2⟩) ?_; intro a111 F111; clear F110
                  refine q_val F111 rfl rfl rfl (fun u hu => y_not F111 rfl rfl) ?_; intro a112 F112; clear F111
                  refine q_nil ?_; intro w113 H113
                  refine c_then ?_
                  refine x_cond F112 rfl (fun hst => ?_) (fun hst => ?_)
                  · skip
                    replace hst : ltI x y = false := by simpa using hst
                    refine wp_exit ?_
                    refine c_thenX ?_
                    refine c_miss rfl ?_
                    refine c_thenX ?_
                    refine c_thenX ?_
                    refine c_hit ?_
                    refine c_then ?_
                    exact ⟨ws, F112.cut _ ⟨rfl, rfl, rfl, rfl, rfl, rfl, rfl, rfl, rfl, rfl, rfl, rfl, rfl, rfl, trivial⟩, H113, hsw, hwl, hlw, (show i2 - 1 + 1 = i2 from by omega) ▸ hins.done swoI (by omega) (fun hlt u v hu hv => by cases hu.symm.trans mx; cases hv.symm.trans my; exact hst) (by omega) (by omega)⟩
                  · skip
                    replace hst : ltI x y = true := by simpa using hst
                    have haj : a < j3 := by
                      rcases Nat.lt_or_ge a j3 with h | h
                      · exact h
                      · obtain rfl : a = j3 := by omega
                        have := hlw a y x (by omega) (Nat.le_refl _) (by omega) my mx
                        rw [hst] at this; cases this
                    refine wp_skip ?_
                    refine c_then ?_
                    refine mix_region [15, 17] [(0, 0), (0, 1), (0, 2), (0, 3), (0, 4), (0, 5), (0, 6), (0, 7), (0, 8), (1, 9), (0, 10), (0, 11), (0, 12), (1, 13), (0, 14), (2, 15), (0, 16), (2, 17)] (fun u => ∃ ls, St w0 u ls) (by kernel_rfl) (by kernel_rfl) ⟨_, H113.drew⟩ ?_
                    have H115 := H113.drew
                    generalize w113.drew = w115 at H115 ⊢
                    refine m_pure F112 rfl rfl rfl rfl (fun u hu => y_move F112 rfl rfl) ?_; intro a116 F116; clear F112
                    refine m_pure F116 rfl rfl rfl rfl (fun u hu => y_move F116 rfl rfl) ?_; intro a117 F117; clear F116
                    refine m_pure F117 rfl rfl rfl rfl (fun u hu => y_move F117 rfl rfl) ?_; intro a118 F118; clear F117
                    refine m_pure F118 rfl rfl rfl rfl (fun u hu => y_move F118 rfl rfl) ?_; intro a119 F119; clear F118
                    refine m_pure F119 rfl rfl rfl rfl (fun u hu => y_sub F119 rfl rfl rfl (r := ((j3 - 1 : Nat) : Int)) (wrap_i64 (by omega) (by omega) (by omega))) ?_; intro a120 F120; clear F119
                    refine m_pure F120 rfl rfl rfl rfl (fun u hu => y_move F120 rfl rfl) ?_; intro a121 F121; clear F120
                    refine m_pure F121 rfl rfl rfl rfl (fun u hu => y_move F121 rfl rfl) ?_; intro a122 F122; clear F121
                    refine m_pure F122 rfl rfl rfl rfl (fun u hu => y_sub F122 rfl rfl rfl (r := ((j3 - 1 : Nat) : Int)) (wrap_i64 (by omega) (by omega) (by omega))) ?_; intro a123 F123; clear F122
                    refine m_pure F123 rfl rfl rfl rfl (fun u hu => y_indexP F123 elemU64 rfl rfl rfl hpe101 (by omega)) ?_; intro a124 F124; clear F123
                    refine m_read F124 rfl rfl rfl rfl (y_load1 F124 plU64 rfl rfl (Row.elem (inC_len .u64) (H115.ownRowP 0 rfl hpe101) (fun _ _ => trivial) my 0 _ rfl)) ?_; intro a125 F125; clear F124
                    refine m_pure F125 rfl rfl rfl rfl (fun u hu => y_move F125 rfl rfl) ?_; intro a126 F126; clear F125
                    refine m_pure F126 rfl rfl rfl rfl (fun u hu => y_move F126 rfl rfl) ?_; intro a127 F127; clear F126
                    refine m_pure F127 rfl rfl rfl rfl (fun u hu => y_indexP F127 elemU64 rfl rfl rfl hpe101 (by omega)) ?_; intro a128 F128; clear F127
                    refine m_read F128 rfl rfl rfl rfl (y_load1 F128 plU64 rfl rfl (Row.elem (inC_len .u64) (H115.ownRowP 0 rfl hpe101) (fun _ _ => trivial) mx 0 _ rfl)) ?_; intro a129 F129; clear F128
                    refine m_pure F129 rfl rfl rfl rfl (fun u hu => y_indexP F129 elemU64 rfl rfl rfl hpe101 (by omega)) ?_; intro a130 F130; clear F129
                    refine m_heavy rfl rfl ?_
                    refine s_setElem wkP F130 rfl rfl z1U64 rfl hpe101 rfl rfl y rfl rfl rfl H115 0 rfl (fun _ => rfl) (by first | omega | (simp only [List.length_set]; omega)) (by omega) ?_; intro w131 h131
                    have H131 : St w0 w131 ([HP.own 24 1 (.slice p n cap) (n) (rows (inC .u64) (ws.set (j3) y))] ++ ls) := h131
                    clear h131
                    refine wpList_nil ?_; refine c_then ⟨⟨_, H131⟩, ?_⟩
                    obtain ⟨x132, mx132⟩ : ∃ x, ((ws.set (j3) y))[j3 - 1]? = some x := ⟨_, List.getElem?_eq_getElem (by first | omega | (simp only [List.length_set]; omega))⟩
                    refine m_pure F130 rfl rfl rfl rfl (fun u hu => y_indexP F130 elemU64 rfl rfl rfl hpe101 (by omega)) ?_; intro a133 F133; clear F130
                    refine m_heavy rfl rfl ?_
                    refine s_setElem wkP F133 rfl rfl z1U64 rfl hpe101 rfl rfl x rfl rfl rfl H131 0 rfl (fun _ => rfl) (by first | omega | (simp only [List.length_set]; omega)) (by omega) ?_; intro w134 h134
                    have H134 : St w0 w134 ([HP.own 24 1 (.slice p n cap) (n) (rows (inC .u64) ((ws.set (j3) y).set (j3 - 1) x))] ++ ls) := h134
                    clear h134
                    refine wpList_nil ?_; refine c_then ⟨⟨_, H134⟩, ?_⟩
                    refine m_nil ?_
                    refine c_blkN ?_
                    refine c_then ?_
                    refine r_lit ?_
                    refine s_val wkP F133 rfl rfl rfl rfl (y_move F133 rfl rfl) ?_; intro a135 F135; clear F133
                    refine s_val wkP F135 rfl rfl rfl rfl (y_sub F135 rfl rfl rfl (r := ((j3 - 1 : Nat) : Int)) (wrap_i64 (by omega) (by omega) (by omega))) ?_; intro a136 F136; clear F135
                    refine s_val wkP F136 rfl rfl rfl rfl (y_assign F136 rfl rfl) ?_; intro a137 F137; clear F136
                    refine wpList_nil ?_
                    refine c_then ?_
                    exact ⟨(j3 - 1, ((ws.set (j3) y).set (j3 - 1) x)), ⟨F137.cut _ ⟨rfl, rfl, rfl, rfl, rfl, rfl, rfl, rfl, rfl, rfl, rfl, rfl, rfl, rfl, rfl, rfl, rfl, rfl, rfl, rfl, rfl, trivial⟩, H134, by omega, hsw.swap mx my (by omega) (by omega) (by omega) (by omega), by simp only [List.length_set]; exact hwl, hlw.seg ((Seg.refl a b ws).swap mx my (by omega) (by omega) (by omega) (by omega)), hins.step swoI haj (by omega) mx my hst⟩, by first | omega | (dsimp only; omega)⟩
                · skip
                  refine wp_exit ?_
                  refine c_thenX ?_
                  refine c_thenX ?_
                  refine c_hit ?_
                  refine c_then ?_
                  exact ⟨ws, F97.cut _ ⟨rfl, rfl, rfl, rfl, rfl, rfl, rfl, rfl, rfl, rfl, rfl, rfl, rfl, rfl, trivial⟩, H95, hsw, hwl, hlw, (show i2 - 1 + 1 = i2 from by omega) ▸ hins.done swoI (by omega) (fun hlt u v hu hv => absurd hlt (by omega)) (by omega) (by omega)⟩
              · skip
                refine wp_skip ?_
                refine c_then ?_
                exact ⟨zs, F90.cut _ ⟨rfl, rfl, rfl, rfl, rfl, rfl, rfl, rfl, rfl, rfl, rfl, rfl, rfl, rfl, trivial⟩, H62, hsz, hzl, hlz, Srt.short (by omega) _⟩
            · skip
              clear F62
              rintro a86 w86 ⟨us, F86, H86, hsu, hul, hlu, hsu0⟩
              refine wp_seq ?_
              refine r_lit ?_
              refine s_val wkP F86 rfl rfl rfl rfl (y_move F86 rfl rfl) ?_; intro a138 F138; clear F86
              refine s_val wkP F138 rfl rfl rfl rfl (y_move F138 rfl rfl) ?_; intro a139 F139; clear F138
              refine s_val wkP F139 rfl rfl rfl rfl (y_sub F139 rfl rfl rfl (r := ((b - i2 : Nat) : Int)) (wrap_i64 (by omega) (by omega) (by omega))) ?_; intro a140 F140; clear F139
              refine s_val wkP F140 rfl rfl rfl rfl (y_geq F140 rfl rfl rfl) ?_; intro a141 F141; clear F140
              refine wpList_nil ?_
              refine c_then ?_
              refine x_condP F141 rfl (fun h3 => ?_) (fun h3 => ?_)
              · skip
                refine wp_seq ?_
                refine r_lit ?_
                refine s_val wkP F141 rfl rfl rfl rfl (y_move F141 rfl rfl) ?_; intro a143 F143; clear F141
                refine s_val wkP F143 rfl rfl rfl rfl (y_add F143 rfl rfl rfl (r := ((i2 + 1 : Nat) : Int)) (wrap_i64 (by omega) (by omega) (by omega))) ?_; intro a144 F144; clear F143
                refine s_val wkP F144 rfl rfl rfl rfl (y_assign F144 rfl rfl) ?_; intro a145 F145; clear F144
                refine wpList_nil ?_
                refine c_then ?_
                refine wp_block ?_
                refine x_loop (G := Nat × List Int) (fun gg aa ww => match gg with | (j4, vs) => Fr ⟨133, []⟩ aa [(0, .slice p n cap), (1, .int .i64 (((a : Nat) : Int))), (2, .int .i64 (((b : Nat) : Int))), (7, .int .i64 (((i2 : Nat) : Int))), (8, .int .i64 (((jj : Nat) : Int))), (13, .int .i64 (((jj : Nat) : Int))), (14, .bool (decide ((((jj : Nat) : Int)) < (5)))), (35, .int .i64 (((i2 : Nat) : Int))), (36, .int .i64 (((b : Nat) : Int))), (37, .bool (decide ((((i2 : Nat) : Int)) = (((b : Nat) : Int))))), (38, .int .i64 (((b : Nat) : Int))), (39, .int .i64 (((a : Nat) : Int))), (40, .int .i64 (((b - a : Nat) : Int))), (41, .bool (decide ((((b - a : Nat) : Int)) < (50)))), (95, .int .i64 (((b : Nat) : Int))), (96, .int .i64 (((i2 : Nat) : Int))), (97, .int .i64 (((b - i2 : Nat) : Int))), (98, .bool (decide ((2) ≤ (((b - i2 : Nat) : Int))))), (99, .int .i64 (((i2 : Nat) : Int))), (100, .int .i64 (((i2 + 1 : Nat) : Int))), (10, .int .i64 (((j4 : Nat) : Int)))] ∧ St w0 ww ([HP.own 24 1 (.slice p n cap) (n) (rows (inC .u64) vs)] ++ ls) ∧ (i2 + 1 ≤ j4) ∧ (Seg a b xs vs) ∧ (vs.length = n) ∧ (Lo ltI a b vs) ∧ (Srt ltI a i2 vs)) (fun gg => match gg with | (j4, vs) => b - j4) (i2 + 1, us) ⟨F145.cut _ ⟨rfl, rfl, rfl, rfl, rfl, rfl, rfl, rfl, rfl, rfl, rfl, rfl, rfl, rfl, rfl, rfl, rfl, rfl, rfl, rfl, rfl, trivial⟩, H86, by omega, hsu, hul, hlu, hsu0⟩ ?_
                clear F145
                rintro ⟨j4, vs⟩ a146 w146 ⟨F146, H146, hj4, hsv, hvl, hlv, hsv0⟩
                refine wp_seq ?_
                refine wp_seq ?_
                refine r_lit ?_
                refine s_val wkP F146 rfl rfl rfl rfl (y_move F146 rfl rfl) ?_; intro a147 F147; clear F146
                refine s_val wkP F147 rfl rfl rfl rfl (y_move F147 rfl rfl) ?_; intro a148 F148; clear F147
                refine s_val wkP F148 rfl rfl rfl rfl (y_lss F148 rfl rfl rfl) ?_; intro a149 F149; clear F148
                refine wpList_nil ?_
                refine c_then ?_
                refine x_condP F149 rfl (fun hjb => ?_) (fun hjb => ?_)
                · skip
                  refine wp_skip ?_
                  refine c_then ?_
                  refine wp_seq ?_
                  refine wp_block ?_
                  refine wp_seq ?_
                  refine wp_seq ?_
                  refine q_region (fun u => St w0 u ([HP.own 24 1 (.slice p n cap) (n) (rows (inC .u64) vs)] ++ ls)) (by kernel_rfl) (by kernel_rfl) H146.drew ?_
                  refine q_val F149 rfl rfl rfl (fun u hu => y_move F149 rfl rfl) ?_; intro a151 F151; clear F149
                  refine q_val F151 rfl rfl rfl (fun u hu => y_move F151 rfl rfl) ?_; intro a152 F152; clear F151
                  obtain ⟨bb153, hpe153⟩ := hp (by omega)
                  obtain ⟨x, mx⟩ : ∃ x, (vs)[j4]? = some x := ⟨_, List.getElem?_eq_getElem (by first | omega | (simp only [List.length_set]; omega))⟩
                  refine q_val F152 rfl rfl rfl (fun u hu => y_indexP F152 elemU64 rfl rfl rfl hpe153 (by omega)) ?_; intro a155 F155; clear F152
                  refine q_val F155 rfl rfl rfl (fun u hu => y_load1 F155 plU64 rfl rfl (Row.elem (inC_len .u64) (hu.ownRowP 0 rfl hpe153) (fun _ _ => trivial) mx 0 _ rfl)) ?_; intro a156 F156; clear F155
                  refine q_val F156 rfl rfl rfl (fun u hu => y_move F156 rfl rfl) ?_; intro a157 F157; clear F156
                  refine q_val F157 rfl rfl rfl (fun u hu => y_move F157 rfl rfl) ?_; intro a158 F158; clear F157
                  refine q_val F158 rfl rfl rfl (fun u hu => y_sub F158 rfl rfl rfl (r := ((j4 - 1 : Nat) : Int)) (wrap_i64 (by omega) (by omega) (by omega))) ?_; intro a159 F159; clear F158
                  obtain ⟨y, my⟩ : ∃ x, (vs)[j4 - 1]? = some x := ⟨_, List.getElem?_eq_getElem (by first | omega | (simp only [List.length_set]; omega))⟩
                  refine q_val F159 rfl rfl rfl (fun u hu => y_indexP F159 elemU64 rfl rfl rfl hpe153 (by omega)) ?_; intro a161 F161; clear F159
                  refine q_val F161 rfl rfl rfl (fun u hu => y_load1 F161 plU64 rfl rfl (Row.elem (inC_len .u64) (hu.ownRowP 0 rfl hpe153) (fun _ _ => trivial) my 0 _ rfl)) ?_; intro a162 F162; clear F161
                  refine q_call F162 rfl rfl rfl (fun u hu => y_call F162 rfl rfl ent41) (fun u hu => (lessU _ _ _).mono fun e u2 he => ⟨he.1, hu.call0 he.2⟩) ?_; intro a163 F163; clear F162
                  refine q_val F163 rfl rfl rfl (fun u hu => y_not F163 rfl rfl) ?_; intro a164 F164; clear F163
                  refine q_nil ?_; intro w165 H165
                  refine c_then ?_
                  refine x_cond F164 rfl (fun hst => ?_) (fun hst => ?_)
                  · skip
                    replace hst : ltI x y = false := by simpa using hst
                    refine wp_exit ?_
                    refine c_thenX ?_
                    refine c_miss rfl ?_
                    refine c_thenX ?_
                    refine c_thenX ?_
                    refine c_hit ?_
                    refine c_blkN ?_
                    refine c_then ?_
                    refine r_lit ?_
                    refine s_val wkP F164 rfl rfl rfl rfl (y_move F164 rfl rfl) ?_; intro a167 F167; clear F164
                    refine s_val wkP F167 rfl rfl rfl rfl (y_add F167 rfl rfl rfl (r := ((jj + 1 : Nat) : Int)) (wrap_i64 (by omega) (by omega) (by omega))) ?_; intro a168 F168; clear F167
                    refine s_val wkP F168 rfl rfl rfl rfl (y_assign F168 rfl rfl) ?_; intro a169 F169; clear F168
                    refine wpList_nil ?_
                    refine c_then ?_
                    exact ⟨(jj + 1, i2, vs), ⟨F169.cut _ ⟨rfl, rfl, rfl, rfl, rfl, trivial⟩, H165, by omega, hsv, hvl, hlv, hsv0⟩, by first | omega | (dsimp only; omega)⟩
                  · skip
                    replace hst : ltI x y = true := by simpa using hst
                    refine wp_skip ?_
                    refine c_then ?_
                    refine mix_region [15, 17] [(0, 0), (0, 1), (0, 2), (0, 3), (0, 4), (0, 5), (0, 6), (0, 7), (0, 8), (1, 9), (0, 10), (0, 11), (0, 12), (1, 13), (0, 14), (2, 15), (0, 16), (2, 17)] (fun u => ∃ ls, St w0 u ls) (by kernel_rfl) (by kernel_rfl) ⟨_, H165.drew⟩ ?_
                    have H170 := H165.drew
                    generalize w165.drew = w170 at H170 ⊢
                    refine m_pure F164 rfl rfl rfl rfl (fun u hu => y_move F164 rfl rfl) ?_; intro a171 F171; clear F164
                    refine m_pure F171 rfl rfl rfl rfl (fun u hu => y_move F171 rfl rfl) ?_; intro a172 F172; clear F171
                    refine m_pure F172 rfl rfl rfl rfl (fun u hu => y_move F172 rfl rfl) ?_; intro a173 F173; clear F172
                    refine m_pure F173 rfl rfl rfl rfl (fun u hu => y_move F173 rfl rfl) ?_; intro a174 F174; clear F173
                    refine m_pure F174 rfl rfl rfl rfl (fun u hu => y_sub F174 rfl rfl rfl (r := ((j4 - 1 : Nat) : Int)) (wrap_i64 (by omega) (by omega) (by omega))) ?_; intro a175 F175; clear F174
                    refine m_pure F175 rfl rfl rfl rfl (fun u hu => y_move F175 rfl rfl) ?_; intro a176 F176; clear F175
                    refine m_pure F176 rfl rfl rfl rfl (fun u hu => y_move F176 rfl rfl) ?_; intro a177 F177; clear F176
                    refine m_pure F177 rfl rfl rfl rfl (fun u hu => y_sub F177 rfl rfl rfl (r := ((j4 - 1 : Nat) : Int)) (wrap_i64 (by omega) (by omega) (by omega))) ?_; intro a178 F178; clear F177
                    refine m_pure F178 rfl rfl rfl rfl (fun u hu => y_indexP F178 elemU64 rfl rfl rfl hpe153 (by omega)) ?_; intro a179 F179; clear F178
                    refine m_read F179 rfl rfl rfl rfl (y_load1 F179 plU64 rfl rfl (Row.elem (inC_len .u64) (H170.ownRowP 0 rfl hpe153) (fun _ _ => trivial) my 0 _ rfl)) ?_; intro a180 F180; clear F179
                    refine m_pure F180 rfl rfl rfl rfl (fun u hu => y_move F180 rfl rfl) ?_; intro a181 F181; clear F180
                    refine m_pure F181 rfl rfl rfl rfl (fun u hu => y_move F181 rfl rfl) ?_; intro a182 F182; clear F181
                    refine m_pure F182 rfl rfl rfl rfl (fun u hu => y_indexP F182 elemU64 rfl rfl rfl hpe153 (by omega)) ?_; intro a183 F183; clear F182
                    refine m_read F183 rfl rfl rfl rfl (y_load1 F183 plU64 rfl rfl (Row.elem (inC_len .u64) (H170.ownRowP 0 rfl hpe153) (fun _ _ => trivial) mx 0 _ rfl)) ?_; intro a184 F184; clear F183
                    refine m_pure F184 rfl rfl rfl rfl (fun u hu => y_indexP F184 elemU64 rfl rfl rfl hpe153 (by omega)) ?_; intro a185 F185; clear F184
                    refine m_heavy rfl rfl ?_
                    refine s_setElem wkP F185 rfl rfl z1U64 rfl hpe153 rfl rfl y rfl rfl rfl H170 0 rfl (fun _ => rfl) (by first | omega | (simp only [List.length_set]; omega)) (by omega) ?_; intro w186 h186
                    have H186 : St w0 w186 ([HP.own 24 1 (.slice p n cap) (n) (rows (inC .u64) (vs.set (j4) y))] ++ ls) := h186
                    clear h186
                    refine wpList_nil ?_; refine c_then ⟨⟨_, H186⟩, ?_⟩
                    obtain ⟨x187, mx187⟩ : ∃ x, ((vs.set (j4) y))[j4 - 1]? = some x := ⟨_, List.getElem?_eq_getElem (by first | omega | (simp only [List.length_set]; omega))⟩
                    refine m_pure F185 rfl rfl rfl rfl (fun u hu => y_indexP F185 elemU64 rfl rfl rfl hpe153 (by omega)) ?_; intro a188 F188; clear F185
                    refine m_heavy rfl rfl ?_
                    refine s_setElem wkP F188 rfl rfl z1U64 rfl hpe153 rfl rfl x rfl rfl rfl H186 0 rfl (fun _ => rfl) (by first | omega | (simp only [List.length_set]; omega)) (by omega) ?_; intro w189 h189
                    have H189 : St w0 w189 ([HP.own 24 1 (.slice p n cap) (n) (rows (inC .u64) ((vs.set (j4) y).set (j4 - 1) x))] ++ ls) := h189
                    clear h189
                    refine wpList_nil ?_; refine c_then ⟨⟨_, H189⟩, ?_⟩
                    refine m_nil ?_
                    refine c_blkN ?_
                    refine c_then ?_
                    refine r_lit ?_
                    refine s_val wkP F188 rfl rfl rfl rfl (y_move F188 rfl rfl) ?_; intro a190 F190; clear F188
                    refine s_val wkP F190 rfl rfl rfl rfl (y_add F190 rfl rfl rfl (r := ((j4 + 1 : Nat) : Int)) (wrap_i64 (by omega) (by omega) (by omega))) ?_; intro a191 F191; clear F190
                    refine s_val wkP F191 rfl rfl rfl rfl (y_assign F191 rfl rfl) ?_; intro a192 F192; clear F191
                    refine wpList_nil ?_
                    refine c_then ?_
                    exact ⟨(j4 + 1, ((vs.set (j4) y).set (j4 - 1) x)), ⟨F192.cut _ ⟨rfl, rfl, rfl, rfl, rfl, rfl, rfl, rfl, rfl, rfl, rfl, rfl, rfl, rfl, rfl, rfl, rfl, rfl, rfl, rfl, rfl, trivial⟩, H189, by omega, hsv.swap mx my (by omega) (by omega) (by omega) (by omega), by simp only [List.length_set]; exact hvl, hlv.seg ((Seg.refl a b vs).swap mx my (by omega) (by omega) (by omega) (by omega)), hsv0.seg ((Seg.refl (j4 - 1) (j4 + 1) vs).swap mx my (by omega) (by omega) (by omega) (by omega)) (.inl (by omega))⟩, by first | omega | (dsimp only; omega)⟩
                · skip
                  refine wp_exit ?_
                  refine c_thenX ?_
                  refine c_thenX ?_
                  refine c_hit ?_
                  refine c_blkN ?_
                  refine c_then ?_
                  refine r_lit ?_
                  refine s_val wkP F149 rfl rfl rfl rfl (y_move F149 rfl rfl) ?_; intro a193 F193; clear F149
                  refine s_val wkP F193 rfl rfl rfl rfl (y_add F193 rfl rfl rfl (r := ((jj + 1 : Nat) : Int)) (wrap_i64 (by omega) (by omega) (by omega))) ?_; intro a194 F194; clear F193
                  refine s_val wkP F194 rfl rfl rfl rfl (y_assign F194 rfl rfl) ?_; intro a195 F195; clear F194
                  refine wpList_nil ?_
                  refine c_then ?_
                  exact ⟨(jj + 1, i2, vs), ⟨F195.cut _ ⟨rfl, rfl, rfl, rfl, rfl, trivial⟩, H146, by omega, hsv, hvl, hlv, hsv0⟩, by first | omega | (dsimp only; omega)⟩
              · skip
                refine wp_skip ?_
                refine c_blkN ?_
                refine c_then ?_
                refine r_lit ?_
                refine s_val wkP F141 rfl rfl rfl rfl (y_move F141 rfl rfl) ?_; intro a196 F196; clear F141
                refine s_val wkP F196 rfl rfl rfl rfl (y_add F196 rfl rfl rfl (r := ((jj + 1 : Nat) : Int)) (wrap_i64 (by omega) (by omega) (by omega))) ?_; intro a197 F197; clear F196
                refine s_val wkP F197 rfl rfl rfl rfl (y_assign F197 rfl rfl) ?_; intro a198 F198; clear F197
                refine wpList_nil ?_
                refine c_then ?_
                exact ⟨(jj + 1, i2, us), ⟨F198.cut _ ⟨rfl, rfl, rfl, rfl, rfl, trivial⟩, H86, by omega, hsu, hul, hlu, hsu0⟩, by first | omega | (dsimp only; omega)⟩
  · skip
    refine wp_exit ?_
    refine c_thenX ?_
    refine c_thenX ?_
    refine c_hit ?_
    refine c_then ?_
    refine wp_seq ?_
    refine r_lit ?_
    refine s_val wkP F8 rfl rfl rfl rfl (y_assign F8 rfl rfl) ?_; intro a199 F199; clear F8
    refine wpList_nil ?_
    refine c_then ?_
    refine wp_ret ?_
    refine x_ret1 F199 rfl rfl ?_
    exact ⟨_, rfl, _, false, rfl, ⟨hsg, fun h => by cases h⟩, H6⟩
theorem ent40 : ∀ args w, (callFunc 40 args).run Try.prog w = .ok (.enter 40 args) w := enters Try.func40 (by kernel_rfl) rfl
end Go.Proofs.Ytchcoenpnmgnhaa
