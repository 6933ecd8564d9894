/- pdqsort: partition. -/
import Derived.Test.YtchcoenpnmgnhaaTalL
set_option linter.unusedSimpArgs false
set_option linter.unusedVariables false
namespace Go.Proofs.Ytchcoenpnmgnhaa
open Go.ChangeShapes Go.WideShapes Go.ChangeAt Go.RowKit Go.Tri
set_option maxRecDepth 100000 in
set_option maxHeartbeats 2000000 in
theorem partition {w0 w : World} {ls : List HP} {p : Option Addr} {n cap : Nat} (xs : List Int) (hn : xs.length = n) (hn1 : n ≤ 1000000) (a b pv : Nat) (hap : a ≤ pv) (hpb : pv < b) (hbn : b ≤ n) (H : St w0 w (HP.own 24 1 (.slice p n cap) (n) (rows (inC .u64) xs) :: ls)) :
    Calls Try.prog 43 [.slice p n cap, .int .i64 (a : Int), .int .i64 (b : Int), .int .i64 (pv : Int)].toArray w (fun e w' => ∃ v, e = .returned v ∧ ∃ ys, ∃ (m : Nat) (bb : Bool), v = .tuple [.int .i64 ((m : Nat) : Int), .bool bb].toArray ∧ (Seg a b xs ys ∧ a ≤ m ∧ m < b ∧ Part ltI a m b ys) ∧ St w0 w' (HP.own 24 1 (.slice p n cap) (n) (rows (inC .u64) ys) :: ls)) := by
  have hp := (H.ownP 0 rfl).2.2
  refine x_enter Try.func43 rfl rfl rfl ?_
  intro a0 F0
  replace F0 : Fr ⟨168, []⟩ a0 [(0, .slice p n cap), (1, .int .i64 (a : Int)), (2, .int .i64 (b : Int)), (3, .int .i64 (pv : Int))] := F0
  have H0 : St w0 w ([HP.own 24 1 (.slice p n cap) (n) (rows (inC .u64) xs)] ++ ls) := H
  refine wp_seq ?_
  refine r_lit ?_
  refine s_val wkP F0 rfl rfl rfl rfl (y_assign F0 rfl rfl) ?_; intro a1 F1; clear F0
  refine s_val wkP F1 rfl rfl rfl rfl (y_assign F1 rfl rfl) ?_; intro a2 F2; clear F1
  refine wpList_nil ?_
  refine c_then ?_
  refine x_seqM (fun aa ww => ∃ ys : List Int, Fr ⟨168, []⟩ aa [(0, .slice p n cap), (1, .int .i64 (((a : Nat) : Int))), (2, .int .i64 (((b : Nat) : Int))), (8, .int .i64 (0)), (9, .bool false)] ∧ St w0 ww ([HP.own 24 1 (.slice p n cap) (n) (rows (inC .u64) ys)] ++ ls) ∧ (Seg a b xs ys) ∧ (ys.length = n)) ?_ ?_
  · skip
    refine mix_region [13, 15] [(0, 0), (0, 1), (0, 2), (0, 3), (0, 4), (0, 5), (0, 6), (1, 7), (0, 8), (0, 9), (0, 10), (1, 11), (0, 12), (2, 13), (0, 14), (2, 15)] (fun u => ∃ ls, St w0 u ls) (by kernel_rfl) (by kernel_rfl) ⟨_, H0.drew⟩ ?_
    have H4 := H0.drew
    generalize w.drew = w4 at H4 ⊢
    refine m_pure F2 rfl rfl rfl rfl (fun u hu => y_move F2 rfl rfl) ?_; intro a5 F5; clear F2
    refine m_pure F5 rfl rfl rfl rfl (fun u hu => y_move F5 rfl rfl) ?_; intro a6 F6; clear F5
    refine m_pure F6 rfl rfl rfl rfl (fun u hu => y_move F6 rfl rfl) ?_; intro a7 F7; clear F6
    refine m_pure F7 rfl rfl rfl rfl (fun u hu => y_move F7 rfl rfl) ?_; intro a8 F8; clear F7
    refine m_pure F8 rfl rfl rfl rfl (fun u hu => y_move F8 rfl rfl) ?_; intro a9 F9; clear F8
    refine m_pure F9 rfl rfl rfl rfl (fun u hu => y_move F9 rfl rfl) ?_; intro a10 F10; clear F9
    obtain ⟨bb11, hpe11⟩ := hp (by omega)
    obtain ⟨y0, my0⟩ : ∃ x, (xs)[pv]? = some x := ⟨_, List.getElem?_eq_getElem (by first | omega | (simp only [List.length_set]; omega))⟩
    refine m_pure F10 rfl rfl rfl rfl (fun u hu => y_indexP F10 elemU64 rfl rfl rfl hpe11 (by omega)) ?_; intro a13 F13; clear F10
    refine m_read F13 rfl rfl rfl rfl (y_load1 F13 plU64 rfl rfl (Row.elem (inC_len .u64) (H4.ownRowP 0 rfl hpe11) (fun _ _ => trivial) my0 0 _ rfl)) ?_; intro a14 F14; clear F13
    refine m_pure F14 rfl rfl rfl rfl (fun u hu => y_move F14 rfl rfl) ?_; intro a15 F15; clear F14
    refine m_pure F15 rfl rfl rfl rfl (fun u hu => y_move F15 rfl rfl) ?_; intro a16 F16; clear F15
    obtain ⟨x0, mx0⟩ : ∃ x, (xs)[a]? = some x := ⟨_, List.getElem?_eq_getElem (by first | omega | (simp only [List.length_set]; omega))⟩
    refine m_pure F16 rfl rfl rfl rfl (fun u hu => y_indexP F16 elemU64 rfl rfl rfl hpe11 (by omega)) ?_; intro a18 F18; clear F16
    refine m_read F18 rfl rfl rfl rfl (y_load1 F18 plU64 rfl rfl (Row.elem (inC_len .u64) (H4.ownRowP 0 rfl hpe11) (fun _ _ => trivial) mx0 0 _ rfl)) ?_; intro a19 F19; clear F18
    refine m_pure F19 rfl rfl rfl rfl (fun u hu => y_indexP F19 elemU64 rfl rfl rfl hpe11 (by omega)) ?_; intro a20 F20; clear F19
    refine m_heavy rfl rfl ?_
    refine s_setElem wkP F20 rfl rfl z1U64 rfl hpe11 rfl rfl y0 rfl rfl rfl H4 0 rfl (fun _ => rfl) (by first | omega | (simp only [List.length_set]; omega)) (by omega) ?_; intro w21 h21
    have H21 : St w0 w21 ([HP.own 24 1 (.slice p n cap) (n) (rows (inC .u64) (xs.set (a) y0))] ++ ls) := h21
    clear h21
    refine wpList_nil ?_; refine c_then ⟨⟨_, H21⟩, ?_⟩
    obtain ⟨x22, mx22⟩ : ∃ x, ((xs.set (a) y0))[pv]? = some x := ⟨_, List.getElem?_eq_getElem (by first | omega | (simp only [List.length_set]; omega))⟩
    refine m_pure F20 rfl rfl rfl rfl (fun u hu => y_indexP F20 elemU64 rfl rfl rfl hpe11 (by omega)) ?_; intro a23 F23; clear F20
    refine m_heavy rfl rfl ?_
    refine s_setElem wkP F23 rfl rfl z1U64 rfl hpe11 rfl rfl x0 rfl rfl rfl H21 0 rfl (fun _ => rfl) (by first | omega | (simp only [List.length_set]; omega)) (by omega) ?_; intro w24 h24
    have H24 : St w0 w24 ([HP.own 24 1 (.slice p n cap) (n) (rows (inC .u64) ((xs.set (a) y0).set (pv) x0))] ++ ls) := h24
    clear h24
    refine wpList_nil ?_; refine c_then ⟨⟨_, H24⟩, ?_⟩
    refine m_nil ?_
    refine c_then ?_
    exact ⟨((xs.set (a) y0).set (pv) x0), F23.cut _ ⟨rfl, rfl, rfl, rfl, rfl, trivial⟩, H24, (Seg.refl a b xs).swap mx0 my0 (by omega) (by omega) (by omega) (by omega), by simp only [List.length_set]; exact hn⟩
  · skip
    clear F2
    rintro a3 w3 ⟨ys, F3, H3, hsg, hyl⟩
    refine wp_seq ?_
    refine r_lit ?_
    refine s_val wkP F3 rfl rfl rfl rfl (y_move F3 rfl rfl) ?_; intro a25 F25; clear F3
    refine s_val wkP F25 rfl rfl rfl rfl (y_add F25 rfl rfl rfl (r := ((a + 1 : Nat) : Int)) (wrap_i64 (by omega) (by omega) (by omega))) ?_; intro a26 F26; clear F25
    refine s_val wkP F26 rfl rfl rfl rfl (y_move F26 rfl rfl) ?_; intro a27 F27; clear F26
    refine s_val wkP F27 rfl rfl rfl rfl (y_sub F27 rfl rfl rfl (r := ((b - 1 : Nat) : Int)) (wrap_i64 (by omega) (by omega) (by omega))) ?_; intro a28 F28; clear F27
    refine s_val wkP F28 rfl rfl rfl rfl (y_assign F28 rfl rfl) ?_; intro a29 F29; clear F28
    refine s_val wkP F29 rfl rfl rfl rfl (y_assign F29 rfl rfl) ?_; intro a30 F30; clear F29
    refine wpList_nil ?_
    refine c_then ?_
    refine x_seqM (fun aa ww => ∃ i : Nat, Fr ⟨168, []⟩ aa [(0, .slice p n cap), (1, .int .i64 (((a : Nat) : Int))), (8, .int .i64 (0)), (9, .bool false), (11, .int .i64 (((b - 1 : Nat) : Int))), (10, .int .i64 (((i : Nat) : Int)))] ∧ St w0 ww ([HP.own 24 1 (.slice p n cap) (n) (rows (inC .u64) ys)] ++ ls) ∧ ((a + 1) ≤ i ∧ i ≤ (b - 1) + 1) ∧ (PI ltI a b i ((b - 1)) ys) ∧ (i ≤ (b - 1) → ∀ x z, ys[i]? = some x → ys[a]? = some z → ltI x z = false)) ?_ ?_
    · skip
      refine wp_block ?_
      refine x_loop (G := Nat) (fun i aa ww => Fr ⟨168, []⟩ aa [(0, .slice p n cap), (1, .int .i64 (((a : Nat) : Int))), (8, .int .i64 (0)), (9, .bool false), (11, .int .i64 (((b - 1 : Nat) : Int))), (10, .int .i64 (((i : Nat) : Int)))] ∧ St w0 ww ([HP.own 24 1 (.slice p n cap) (n) (rows (inC .u64) ys)] ++ ls) ∧ ((a + 1) ≤ i ∧ i ≤ (b - 1) + 1) ∧ (PI ltI a b i ((b - 1)) ys)) (fun i => (b - 1) + 1 - i) (a + 1) ⟨F30.cut _ ⟨rfl, rfl, rfl, rfl, rfl, rfl, trivial⟩, H3, by omega, PI.start⟩ ?_
      clear F30
      rintro i a32 w32 ⟨F32, H32, hi3, hp3⟩
      refine wp_seq ?_
      refine wp_seq ?_
      refine q_region (fun u => St w0 u ([HP.own 24 1 (.slice p n cap) (n) (rows (inC .u64) ys)] ++ ls)) (by kernel_rfl) (by kernel_rfl) H32.drew ?_
      refine q_val F32 rfl rfl rfl (fun u hu => y_move F32 rfl rfl) ?_; intro a33 F33; clear F32
      refine q_val F33 rfl rfl rfl (fun u hu => y_move F33 rfl rfl) ?_; intro a34 F34; clear F33
      refine q_val F34 rfl rfl rfl (fun u hu => y_leq F34 rfl rfl rfl) ?_; intro a35 F35; clear F34
      refine q_val F35 rfl rfl rfl (fun u hu => y_move F35 rfl rfl) ?_; intro a36 F36; clear F35
      refine g_split (k := 33) F36 rfl (fun hg3 F37 => ?_) (fun hg3 F37 => ?_)
      · clear F36
        refine qg_on F37 rfl rfl rfl rfl ?_
        refine q_val F37 rfl rfl rfl (fun u hu => y_move F37 rfl rfl) ?_; intro a38 F38; clear F37
        refine qg_on F38 rfl rfl rfl rfl ?_
        refine q_val F38 rfl rfl rfl (fun u hu => y_move F38 rfl rfl) ?_; intro a39 F39; clear F38
        refine qg_on F39 rfl rfl rfl rfl ?_
        obtain ⟨bb40, hpe40⟩ := hp (by omega)
        obtain ⟨u3, mu3⟩ : ∃ x, (ys)[i]? = some x := ⟨_, List.getElem?_eq_getElem (by first | omega | (simp only [List.length_set]; omega))⟩
        refine q_val F39 rfl rfl rfl (fun u hu => y_indexP F39 elemU64 rfl rfl rfl hpe40 (by omega)) ?_; intro a42 F42; clear F39
        refine qg_on F42 rfl rfl rfl rfl ?_
        refine q_val F42 rfl rfl rfl (fun u hu => y_load1 F42 plU64 rfl rfl (Row.elem (inC_len .u64) (hu.ownRowP 0 rfl hpe40) (fun _ _ => trivial) mu3 0 _ rfl)) ?_; intro a43 F43; clear F42
        refine qg_on F43 rfl rfl rfl rfl ?_
        refine q_val F43 rfl rfl rfl (fun u hu => y_move F43 rfl rfl) ?_; intro a44 F44; clear F43
        refine qg_on F44 rfl rfl rfl rfl ?_
        refine q_val F44 rfl rfl rfl (fun u hu => y_move F44 rfl rfl) ?_; intro a45 F45; clear F44
        refine qg_on F45 rfl rfl rfl rfl ?_
        obtain ⟨z3, mz3⟩ : ∃ x, (ys)[a]? = some x := ⟨_, List.getElem?_eq_getElem (by first | omega | (simp only [List.length_set]; omega))⟩
        refine q_val F45 rfl rfl rfl (fun u hu => y_indexP F45 elemU64 rfl rfl rfl hpe40 (by omega)) ?_; intro a47 F47; clear F45
        refine qg_on F47 rfl rfl rfl rfl ?_
        refine q_val F47 rfl rfl rfl (fun u hu => y_load1 F47 plU64 rfl rfl (Row.elem (inC_len .u64) (hu.ownRowP 0 rfl hpe40) (fun _ _ => trivial) mz3 0 _ rfl)) ?_; intro a48 F48; clear F47
        refine qg_on F48 rfl rfl rfl rfl ?_
        refine q_call F48 rfl rfl rfl (fun u hu => y_call F48 rfl rfl ent41) (fun u hu => (lessU _ _ _).mono fun e u2 he => ⟨he.1, hu.call0 he.2⟩) ?_; intro a49 F49; clear F48
        refine q_val F49 rfl rfl rfl (fun u hu => y_pickT F49 rfl rfl rfl) ?_; intro a50 F50; clear F49
        refine q_nil ?_; intro w51 H51
        refine c_then ?_
        refine x_cond F50 rfl (fun hl3 => ?_) (fun hl3 => ?_)
        · skip
          refine wp_skip ?_
          refine c_then ?_
          refine wp_block ?_
          refine r_lit ?_
          refine s_val wkP F50 rfl rfl rfl rfl (y_move F50 rfl rfl) ?_; intro a53 F53; clear F50
          refine s_val wkP F53 rfl rfl rfl rfl (y_add F53 rfl rfl rfl (r := ((i + 1 : Nat) : Int)) (wrap_i64 (by omega) (by omega) (by omega))) ?_; intro a54 F54; clear F53
          refine s_val wkP F54 rfl rfl rfl rfl (y_assign F54 rfl rfl) ?_; intro a55 F55; clear F54
          refine wpList_nil ?_
          refine c_blkN ?_
          refine c_then ?_
          exact ⟨i + 1, ⟨F55.cut _ ⟨rfl, rfl, rfl, rfl, rfl, rfl, trivial⟩, H51, by omega, hp3.incI mu3 mz3 hl3⟩, by first | omega | (dsimp only; omega)⟩
        · skip
          refine wp_exit ?_
          refine c_thenX ?_
          refine c_thenX ?_
          refine c_hit ?_
          refine c_then ?_
          exact ⟨i, F50.cut _ ⟨rfl, rfl, rfl, rfl, rfl, rfl, trivial⟩, H51, hi3, hp3, (fun _ x z hx hz => by cases hx.symm.trans mu3; cases hz.symm.trans mz3; exact hl3)⟩
      · clear F36
        refine qg_off F37 rfl rfl rfl rfl rfl rfl rfl ?_; intro a56 F56; clear F37
        refine qg_off F56 rfl rfl rfl rfl rfl rfl rfl ?_; intro a57 F57; clear F56
        refine qg_off F57 rfl rfl rfl rfl rfl rfl rfl ?_; intro a58 F58; clear F57
        refine qg_off F58 rfl rfl rfl rfl rfl rfl rfl ?_; intro a59 F59; clear F58
        refine qg_off F59 rfl rfl rfl rfl rfl rfl rfl ?_; intro a60 F60; clear F59
        refine qg_off F60 rfl rfl rfl rfl rfl rfl rfl ?_; intro a61 F61; clear F60
        refine qg_off F61 rfl rfl rfl rfl rfl rfl rfl ?_; intro a62 F62; clear F61
        refine qg_off F62 rfl rfl rfl rfl rfl rfl rfl ?_; intro a63 F63; clear F62
        refine qg_off F63 rfl rfl rfl rfl rfl rfl rfl ?_; intro a64 F64; clear F63
        refine q_val F64 rfl rfl rfl (fun u hu => y_pickF F64 rfl rfl rfl) ?_; intro a65 F65; clear F64
        refine q_nil ?_; intro w66 H66
        refine c_then ?_
        refine x_condF F65 rfl ?_
        refine wp_exit ?_
        refine c_thenX ?_
        refine c_thenX ?_
        refine c_hit ?_
        refine c_then ?_
        exact ⟨i, F65.cut _ ⟨rfl, rfl, rfl, rfl, rfl, rfl, trivial⟩, H66, hi3, hp3, (fun h => by exfalso; omega)⟩
    · skip
      clear F30
      rintro a31 w31 ⟨i, F31, H31, hi3, hp3, hE3⟩
      refine x_seqM (fun aa ww => ∃ j : Nat, Fr ⟨168, []⟩ aa [(0, .slice p n cap), (1, .int .i64 (((a : Nat) : Int))), (8, .int .i64 (0)), (9, .bool false), (10, .int .i64 (((i : Nat) : Int))), (11, .int .i64 (((j : Nat) : Int)))] ∧ St w0 ww ([HP.own 24 1 (.slice p n cap) (n) (rows (inC .u64) ys)] ++ ls) ∧ (i ≤ j + 1 ∧ j ≤ (b - 1)) ∧ (PI ltI a b i j ys) ∧ (i ≤ j → ∀ x z, ys[j]? = some x → ys[a]? = some z → ltI x z = true)) ?_ ?_
      · skip
        refine wp_block ?_
        refine x_loop (G := Nat) (fun j aa ww => Fr ⟨168, []⟩ aa [(0, .slice p n cap), (1, .int .i64 (((a : Nat) : Int))), (8, .int .i64 (0)), (9, .bool false), (10, .int .i64 (((i : Nat) : Int))), (11, .int .i64 (((j : Nat) : Int)))] ∧ St w0 ww ([HP.own 24 1 (.slice p n cap) (n) (rows (inC .u64) ys)] ++ ls) ∧ (i ≤ j + 1 ∧ j ≤ (b - 1)) ∧ (PI ltI a b i j ys)) (fun j => j) (b - 1) ⟨F31.cut _ ⟨rfl, rfl, rfl, rfl, rfl, rfl, trivial⟩, H31, by omega, hp3⟩ ?_
        clear F31
        rintro j a69 w69 ⟨F69, H69, hj3, hq3⟩
        refine wp_seq ?_
        refine wp_seq ?_
        refine q_region (fun u => St w0 u ([HP.own 24 1 (.slice p n cap) (n) (rows (inC .u64) ys)] ++ ls)) (by kernel_rfl) (by kernel_rfl) H69.drew ?_
        refine q_val F69 rfl rfl rfl (fun u hu => y_move F69 rfl rfl) ?_; intro a70 F70; clear F69
        refine q_val F70 rfl rfl rfl (fun u hu => y_move F70 rfl rfl) ?_; intro a71 F71; clear F70
        refine q_val F71 rfl rfl rfl (fun u hu => y_leq F71 rfl rfl rfl) ?_; intro a72 F72; clear F71
        refine q_val F72 rfl rfl rfl (fun u hu => y_move F72 rfl rfl) ?_; intro a73 F73; clear F72
        refine g_split (k := 49) F73 rfl (fun hg5 F74 => ?_) (fun hg5 F74 => ?_)
        · clear F73
          refine qg_on F74 rfl rfl rfl rfl ?_
          refine q_val F74 rfl rfl rfl (fun u hu => y_move F74 rfl rfl) ?_; intro a75 F75; clear F74
          refine qg_on F75 rfl rfl rfl rfl ?_
          refine q_val F75 rfl rfl rfl (fun u hu => y_move F75 rfl rfl) ?_; intro a76 F76; clear F75
          refine qg_on F76 rfl rfl rfl rfl ?_
          obtain ⟨bb77, hpe77⟩ := hp (by omega)
          obtain ⟨v3, mv3⟩ : ∃ x, (ys)[j]? = some x := ⟨_, List.getElem?_eq_getElem (by first | omega | (simp only [List.length_set]; omega))⟩
          refine q_val F76 rfl rfl rfl (fun u hu => y_indexP F76 elemU64 rfl rfl rfl hpe77 (by omega)) ?_; intro a79 F79; clear F76
          refine qg_on F79 rfl rfl rfl rfl ?_
          refine q_val F79 rfl rfl rfl (fun u hu => y_load1 F79 plU64 rfl rfl (Row.elem (inC_len .u64) (hu.ownRowP 0 rfl hpe77) (fun _ _ => trivial) mv3 0 _ rfl)) ?_; intro a80 F80; clear F79
          refine qg_on F80 rfl rfl rfl rfl ?_
          refine q_val F80 rfl rfl rfl (fun u hu => y_move F80 rfl rfl) ?_; intro a81 F81; clear F80
          refine qg_on F81 rfl rfl rfl rfl ?_
          refine q_val F81 rfl rfl rfl (fun u hu => y_move F81 rfl rfl) ?_; intro a82 F82; clear F81
          refine qg_on F82 rfl rfl rfl rfl ?_
          obtain ⟨y3, my3⟩ : ∃ x, (ys)[a]? = some x := ⟨_, List.getElem?_eq_getElem (by first | omega | (simp only [List.length_set]; omega))⟩
          refine q_val F82 rfl rfl rfl (fun u hu => y_indexP F82 elemU64 rfl rfl rfl hpe77 (by omega)) ?_; intro a84 F84; clear F82
          refine qg_on F84 rfl rfl rfl rfl ?_
          refine q_val F84 rfl rfl rfl (fun u hu => y_load1 F84 plU64 rfl rfl (Row.elem (inC_len .u64) (hu.ownRowP 0 rfl hpe77) (fun _ _ => trivial) my3 0 _ rfl)) ?_; intro a85 F85; clear F84
          refine qg_on F85 rfl rfl rfl rfl ?_
          refine q_call F85 rfl rfl rfl (fun u hu => y_call F85 rfl rfl ent41) (fun u hu => (lessU _ _ _).mono fun e u2 he => ⟨he.1, hu.call0 he.2⟩) ?_; intro a86 F86; clear F85
          refine qg_on F86 rfl rfl rfl rfl ?_
          refine q_val F86 rfl rfl rfl (fun u hu => y_not F86 rfl rfl) ?_; intro a87 F87; clear F86
          refine q_val F87 rfl rfl rfl (fun u hu => y_pickT F87 rfl rfl rfl) ?_; intro a88 F88; clear F87
          refine q_nil ?_; intro w89 H89
          refine c_then ?_
          refine x_cond F88 rfl (fun hl5 => ?_) (fun hl5 => ?_)
          · skip
            replace hl5 : ltI v3 y3 = false := by simpa using hl5
            refine wp_skip ?_
            refine c_then ?_
            refine wp_block ?_
            refine r_lit ?_
            refine s_val wkP F88 rfl rfl rfl rfl (y_move F88 rfl rfl) ?_; intro a91 F91; clear F88
            refine s_val wkP F91 rfl rfl rfl rfl (y_sub F91 rfl rfl rfl (r := ((j - 1 : Nat) : Int)) (wrap_i64 (by omega) (by omega) (by omega))) ?_; intro a92 F92; clear F91
            refine s_val wkP F92 rfl rfl rfl rfl (y_assign F92 rfl rfl) ?_; intro a93 F93; clear F92
            refine wpList_nil ?_
            refine c_blkN ?_
            refine c_then ?_
            exact ⟨j - 1, ⟨F93.cut _ ⟨rfl, rfl, rfl, rfl, rfl, rfl, trivial⟩, H89, by omega, hq3.decJ mv3 my3 hl5⟩, by first | omega | (dsimp only; omega)⟩
          · skip
            replace hl5 : ltI v3 y3 = true := by simpa using hl5
            refine wp_exit ?_
            refine c_thenX ?_
            refine c_thenX ?_
            refine c_hit ?_
            refine c_then ?_
            exact ⟨j, F88.cut _ ⟨rfl, rfl, rfl, rfl, rfl, rfl, trivial⟩, H89, hj3, hq3, (fun _ x z hx hz => by cases hx.symm.trans mv3; cases hz.symm.trans my3; exact hl5)⟩
        · clear F73
          refine qg_off F74 rfl rfl rfl rfl rfl rfl rfl ?_; intro a94 F94; clear F74
          refine qg_off F94 rfl rfl rfl rfl rfl rfl rfl ?_; intro a95 F95; clear F94
          refine qg_off F95 rfl rfl rfl rfl rfl rfl rfl ?_; intro a96 F96; clear F95
          refine qg_off F96 rfl rfl rfl rfl rfl rfl rfl ?_; intro a97 F97; clear F96
          refine qg_off F97 rfl rfl rfl rfl rfl rfl rfl ?_; intro a98 F98; clear F97
          refine qg_off F98 rfl rfl rfl rfl rfl rfl rfl ?_; intro a99 F99; clear F98
          refine qg_off F99 rfl rfl rfl rfl rfl rfl rfl ?_; intro a100 F100; clear F99
          refine qg_off F100 rfl rfl rfl rfl rfl rfl rfl ?_; intro a101 F101; clear F100
          refine qg_off F101 rfl rfl rfl rfl rfl rfl rfl ?_; intro a102 F102; clear F101
          refine qg_off F102 rfl rfl rfl rfl rfl rfl rfl ?_; intro a103 F103; clear F102
          refine q_val F103 rfl rfl rfl (fun u hu => y_pickF F103 rfl rfl rfl) ?_; intro a104 F104; clear F103
          refine q_nil ?_; intro w105 H105
          refine c_then ?_
          refine x_condF F104 rfl ?_
          refine wp_exit ?_
          refine c_thenX ?_
          refine c_thenX ?_
          refine c_hit ?_
          refine c_then ?_
          exact ⟨j, F104.cut _ ⟨rfl, rfl, rfl, rfl, rfl, rfl, trivial⟩, H105, hj3, hq3, (fun h => by exfalso; omega)⟩
      · skip
        clear F31
        rintro a68 w68 ⟨j, F68, H68, hj3, hq3, hE5⟩
        refine wp_seq ?_
        refine wp_seq ?_
        refine r_lit ?_
        refine s_val wkP F68 rfl rfl rfl rfl (y_move F68 rfl rfl) ?_; intro a107 F107; clear F68
        refine s_val wkP F107 rfl rfl rfl rfl (y_move F107 rfl rfl) ?_; intro a108 F108; clear F107
        refine s_val wkP F108 rfl rfl rfl rfl (y_gtr F108 rfl rfl rfl) ?_; intro a109 F109; clear F108
        refine wpList_nil ?_
        refine c_then ?_
        refine x_condP F109 rfl (fun hgt => ?_) (fun hgt => ?_)
        · skip
          refine wp_seq ?_
          refine mix_region [13, 15] [(0, 0), (0, 1), (0, 2), (0, 3), (0, 4), (0, 5), (0, 6), (1, 7), (0, 8), (0, 9), (0, 10), (1, 11), (0, 12), (2, 13), (0, 14), (2, 15)] (fun u => ∃ ls, St w0 u ls) (by kernel_rfl) (by kernel_rfl) ⟨_, H68.drew⟩ ?_
          have H111 := H68.drew
          generalize w68.drew = w111 at H111 ⊢
          refine m_pure F109 rfl rfl rfl rfl (fun u hu => y_move F109 rfl rfl) ?_; intro a112 F112; clear F109
          refine m_pure F112 rfl rfl rfl rfl (fun u hu => y_move F112 rfl rfl) ?_; intro a113 F113; clear F112
          refine m_pure F113 rfl rfl rfl rfl (fun u hu => y_move F113 rfl rfl) ?_; intro a114 F114; clear F113
          refine m_pure F114 rfl rfl rfl rfl (fun u hu => y_move F114 rfl rfl) ?_; intro a115 F115; clear F114
          refine m_pure F115 rfl rfl rfl rfl (fun u hu => y_move F115 rfl rfl) ?_; intro a116 F116; clear F115
          refine m_pure F116 rfl rfl rfl rfl (fun u hu => y_move F116 rfl rfl) ?_; intro a117 F117; clear F116
          obtain ⟨bb118, hpe118⟩ := hp (by omega)
          obtain ⟨z, mz⟩ : ∃ x, (ys)[a]? = some x := ⟨_, List.getElem?_eq_getElem (by first | omega | (simp only [List.length_set]; omega))⟩
          refine m_pure F117 rfl rfl rfl rfl (fun u hu => y_indexP F117 elemU64 rfl rfl rfl hpe118 (by omega)) ?_; intro a120 F120; clear F117
          refine m_read F120 rfl rfl rfl rfl (y_load1 F120 plU64 rfl rfl (Row.elem (inC_len .u64) (H111.ownRowP 0 rfl hpe118) (fun _ _ => trivial) mz 0 _ rfl)) ?_; intro a121 F121; clear F120
          refine m_pure F121 rfl rfl rfl rfl (fun u hu => y_move F121 rfl rfl) ?_; intro a122 F122; clear F121
          refine m_pure F122 rfl rfl rfl rfl (fun u hu => y_move F122 rfl rfl) ?_; intro a123 F123; clear F122
          obtain ⟨w, mw⟩ : ∃ x, (ys)[j]? = some x := ⟨_, List.getElem?_eq_getElem (by first | omega | (simp only [List.length_set]; omega))⟩
          refine m_pure F123 rfl rfl rfl rfl (fun u hu => y_indexP F123 elemU64 rfl rfl rfl hpe118 (by omega)) ?_; intro a125 F125; clear F123
          refine m_read F125 rfl rfl rfl rfl (y_load1 F125 plU64 rfl rfl (Row.elem (inC_len .u64) (H111.ownRowP 0 rfl hpe118) (fun _ _ => trivial) mw 0 _ rfl)) ?_; intro a126 F126; clear F125
          refine m_pure F126 rfl rfl rfl rfl (fun u hu => y_indexP F126 elemU64 rfl rfl rfl hpe118 (by omega)) ?_; intro a127 F127; clear F126
          refine m_heavy rfl rfl ?_
          refine s_setElem wkP F127 rfl rfl z1U64 rfl hpe118 rfl rfl z rfl rfl rfl H111 0 rfl (fun _ => rfl) (by first | omega | (simp only [List.length_set]; omega)) (by omega) ?_; intro w128 h128
          have H128 : St w0 w128 ([HP.own 24 1 (.slice p n cap) (n) (rows (inC .u64) (ys.set (j) z))] ++ ls) := h128
          clear h128
          refine wpList_nil ?_; refine c_then ⟨⟨_, H128⟩, ?_⟩
          obtain ⟨x129, mx129⟩ : ∃ x, ((ys.set (j) z))[a]? = some x := ⟨_, List.getElem?_eq_getElem (by first | omega | (simp only [List.length_set]; omega))⟩
          refine m_pure F127 rfl rfl rfl rfl (fun u hu => y_indexP F127 elemU64 rfl rfl rfl hpe118 (by omega)) ?_; intro a130 F130; clear F127
          refine m_heavy rfl rfl ?_
          refine s_setElem wkP F130 rfl rfl z1U64 rfl hpe118 rfl rfl w rfl rfl rfl H128 0 rfl (fun _ => rfl) (by first | omega | (simp only [List.length_set]; omega)) (by omega) ?_; intro w131 h131
          have H131 : St w0 w131 ([HP.own 24 1 (.slice p n cap) (n) (rows (inC .u64) ((ys.set (j) z).set (a) w))] ++ ls) := h131
          clear h131
          refine wpList_nil ?_; refine c_then ⟨⟨_, H131⟩, ?_⟩
          refine m_nil ?_
          refine c_then ?_
          refine wp_seq ?_
          refine r_lit ?_
          refine s_val wkP F130 rfl rfl rfl rfl (y_move F130 rfl rfl) ?_; intro a132 F132; clear F130
          refine s_val wkP F132 rfl rfl rfl rfl (y_assign F132 rfl rfl) ?_; intro a133 F133; clear F132
          refine s_val wkP F133 rfl rfl rfl rfl (y_assign F133 rfl rfl) ?_; intro a134 F134; clear F133
          refine wpList_nil ?_
          refine c_then ?_
          refine wp_ret ?_
          refine c_thenR ?_
          refine x_ret2 F134 rfl rfl rfl ?_
          refine ⟨_, rfl, _, j, true, rfl, ⟨hsg.swap mw mz (by omega) (by omega) (by omega) (by omega), by omega, by omega, hq3.done swoI (by omega) (by omega) mw mz⟩, H131⟩
        · skip
          refine wp_skip ?_
          refine c_then ?_
          refine wp_seq ?_
          refine mix_region [13, 15] [(0, 0), (0, 1), (0, 2), (0, 3), (0, 4), (0, 5), (0, 6), (1, 7), (0, 8), (0, 9), (0, 10), (1, 11), (0, 12), (2, 13), (0, 14), (2, 15)] (fun u => ∃ ls, St w0 u ls) (by kernel_rfl) (by kernel_rfl) ⟨_, H68.drew⟩ ?_
          have H135 := H68.drew
          generalize w68.drew = w135 at H135 ⊢
          refine m_pure F109 rfl rfl rfl rfl (fun u hu => y_move F109 rfl rfl) ?_; intro a136 F136; clear F109
          refine m_pure F136 rfl rfl rfl rfl (fun u hu => y_move F136 rfl rfl) ?_; intro a137 F137; clear F136
          refine m_pure F137 rfl rfl rfl rfl (fun u hu => y_move F137 rfl rfl) ?_; intro a138 F138; clear F137
          refine m_pure F138 rfl rfl rfl rfl (fun u hu => y_move F138 rfl rfl) ?_; intro a139 F139; clear F138
          refine m_pure F139 rfl rfl rfl rfl (fun u hu => y_move F139 rfl rfl) ?_; intro a140 F140; clear F139
          refine m_pure F140 rfl rfl rfl rfl (fun u hu => y_move F140 rfl rfl) ?_; intro a141 F141; clear F140
          obtain ⟨bb142, hpe142⟩ := hp (by omega)
          obtain ⟨y, my⟩ : ∃ x, (ys)[j]? = some x := ⟨_, List.getElem?_eq_getElem (by first | omega | (simp only [List.length_set]; omega))⟩
          refine m_pure F141 rfl rfl rfl rfl (fun u hu => y_indexP F141 elemU64 rfl rfl rfl hpe142 (by omega)) ?_; intro a144 F144; clear F141
          refine m_read F144 rfl rfl rfl rfl (y_load1 F144 plU64 rfl rfl (Row.elem (inC_len .u64) (H135.ownRowP 0 rfl hpe142) (fun _ _ => trivial) my 0 _ rfl)) ?_; intro a145 F145; clear F144
          refine m_pure F145 rfl rfl rfl rfl (fun u hu => y_move F145 rfl rfl) ?_; intro a146 F146; clear F145
          refine m_pure F146 rfl rfl rfl rfl (fun u hu => y_move F146 rfl rfl) ?_; intro a147 F147; clear F146
          obtain ⟨x, mx⟩ : ∃ x, (ys)[i]? = some x := ⟨_, List.getElem?_eq_getElem (by first | omega | (simp only [List.length_set]; omega))⟩
          refine m_pure F147 rfl rfl rfl rfl (fun u hu => y_indexP F147 elemU64 rfl rfl rfl hpe142 (by omega)) ?_; intro a149 F149; clear F147
          refine m_read F149 rfl rfl rfl rfl (y_load1 F149 plU64 rfl rfl (Row.elem (inC_len .u64) (H135.ownRowP 0 rfl hpe142) (fun _ _ => trivial) mx 0 _ rfl)) ?_; intro a150 F150; clear F149
          refine m_pure F150 rfl rfl rfl rfl (fun u hu => y_indexP F150 elemU64 rfl rfl rfl hpe142 (by omega)) ?_; intro a151 F151; clear F150
          refine m_heavy rfl rfl ?_
          refine s_setElem wkP F151 rfl rfl z1U64 rfl hpe142 rfl rfl y rfl rfl rfl H135 0 rfl (fun _ => rfl) (by first | omega | (simp only [List.length_set]; omega)) (by omega) ?_; intro w152 h152
          have H152 : St w0 w152 ([HP.own 24 1 (.slice p n cap) (n) (rows (inC .u64) (ys.set (i) y))] ++ ls) := h152
          clear h152
          refine wpList_nil ?_; refine c_then ⟨⟨_, H152⟩, ?_⟩
          obtain ⟨x153, mx153⟩ : ∃ x, ((ys.set (i) y))[j]? = some x := ⟨_, List.getElem?_eq_getElem (by first | omega | (simp only [List.length_set]; omega))⟩
          refine m_pure F151 rfl rfl rfl rfl (fun u hu => y_indexP F151 elemU64 rfl rfl rfl hpe142 (by omega)) ?_; intro a154 F154; clear F151
          refine m_heavy rfl rfl ?_
          refine s_setElem wkP F154 rfl rfl z1U64 rfl hpe142 rfl rfl x rfl rfl rfl H152 0 rfl (fun _ => rfl) (by first | omega | (simp only [List.length_set]; omega)) (by omega) ?_; intro w155 h155
          have H155 : St w0 w155 ([HP.own 24 1 (.slice p n cap) (n) (rows (inC .u64) ((ys.set (i) y).set (j) x))] ++ ls) := h155
          clear h155
          refine wpList_nil ?_; refine c_then ⟨⟨_, H155⟩, ?_⟩
          refine m_nil ?_
          refine c_then ?_
          refine wp_seq ?_
          obtain ⟨z, mz⟩ : ∃ z, ys[a]? = some z := ⟨_, List.getElem?_eq_getElem (by omega)⟩
          have hx1 := hE3 (by omega) x z mx mz
          have hx2 := hE5 (by omega) y z my mz
          have hlt : i < j := by
            rcases Nat.lt_or_ge i j with h | h
            · exact h
            · obtain rfl : i = j := by omega
              cases mx.symm.trans my
              rw [hx1] at hx2; cases hx2
          refine r_lit ?_
          refine s_val wkP F154 rfl rfl rfl rfl (y_move F154 rfl rfl) ?_; intro a156 F156; clear F154
          refine s_val wkP F156 rfl rfl rfl rfl (y_add F156 rfl rfl rfl (r := ((i + 1 : Nat) : Int)) (wrap_i64 (by omega) (by omega) (by omega))) ?_; intro a157 F157; clear F156
          refine s_val wkP F157 rfl rfl rfl rfl (y_assign F157 rfl rfl) ?_; intro a158 F158; clear F157
          refine wpList_nil ?_
          refine c_then ?_
          refine wp_seq ?_
          refine r_lit ?_
          refine s_val wkP F158 rfl rfl rfl rfl (y_move F158 rfl rfl) ?_; intro a159 F159; clear F158
          refine s_val wkP F159 rfl rfl rfl rfl (y_sub F159 rfl rfl rfl (r := ((j - 1 : Nat) : Int)) (wrap_i64 (by omega) (by omega) (by omega))) ?_; intro a160 F160; clear F159
          refine s_val wkP F160 rfl rfl rfl rfl (y_assign F160 rfl rfl) ?_; intro a161 F161; clear F160
          refine wpList_nil ?_
          refine c_then ?_
          refine wp_seq ?_
          refine wp_block ?_
          refine x_loop (G := Nat × Nat × List Int) (fun gg aa ww => match gg with | (i3, j3, zs) => Fr ⟨168, []⟩ aa [(0, .slice p n cap), (1, .int .i64 (((a : Nat) : Int))), (8, .int .i64 (0)), (9, .bool false), (10, .int .i64 (((i3 : Nat) : Int))), (11, .int .i64 (((j3 : Nat) : Int)))] ∧ St w0 ww ([HP.own 24 1 (.slice p n cap) (n) (rows (inC .u64) zs)] ++ ls) ∧ (a + 1 ≤ i3 ∧ i3 ≤ j3 + 1 ∧ j3 < b) ∧ (Seg a b xs zs) ∧ (zs.length = n) ∧ (PI ltI a b i3 j3 zs)) (fun gg => match gg with | (i3, j3, zs) => j3 + 1 - i3) (i + 1, j - 1, ((ys.set (i) y).set (j) x)) ⟨F161.cut _ ⟨rfl, rfl, rfl, rfl, rfl, rfl, trivial⟩, H155, by omega, hsg.swap mx my (by omega) (by omega) (by omega) (by omega), by simp only [List.length_set]; exact hyl, hq3.swap (by omega) hlt mx my mz hx1 hx2⟩ ?_
          clear F161
          rintro ⟨i3, j3, zs⟩ a162 w162 ⟨F162, H162, hi3, hsg3, hzl, hpi⟩
          refine wp_block ?_
          refine x_seqM (fun aa ww => ∃ i4 : Nat, Fr ⟨168, []⟩ aa [(0, .slice p n cap), (1, .int .i64 (((a : Nat) : Int))), (8, .int .i64 (0)), (9, .bool false), (11, .int .i64 (((j3 : Nat) : Int))), (10, .int .i64 (((i4 : Nat) : Int)))] ∧ St w0 ww ([HP.own 24 1 (.slice p n cap) (n) (rows (inC .u64) zs)] ++ ls) ∧ (i3 ≤ i4 ∧ i4 ≤ j3 + 1) ∧ (PI ltI a b i4 (j3) zs) ∧ (i4 ≤ j3 → ∀ x z, zs[i4]? = some x → zs[a]? = some z → ltI x z = false)) ?_ ?_
          · skip
            refine wp_block ?_
            refine x_loop (G := Nat) (fun i4 aa ww => Fr ⟨168, []⟩ aa [(0, .slice p n cap), (1, .int .i64 (((a : Nat) : Int))), (8, .int .i64 (0)), (9, .bool false), (11, .int .i64 (((j3 : Nat) : Int))), (10, .int .i64 (((i4 : Nat) : Int)))] ∧ St w0 ww ([HP.own 24 1 (.slice p n cap) (n) (rows (inC .u64) zs)] ++ ls) ∧ (i3 ≤ i4 ∧ i4 ≤ j3 + 1) ∧ (PI ltI a b i4 (j3) zs)) (fun i4 => j3 + 1 - i4) i3 ⟨F162.cut _ ⟨rfl, rfl, rfl, rfl, rfl, rfl, trivial⟩, H162, by omega, hpi⟩ ?_
            clear F162
            rintro i4 a164 w164 ⟨F164, H164, hi13, hp13⟩
            refine wp_seq ?_
            refine wp_seq ?_
            refine q_region (fun u => St w0 u ([HP.own 24 1 (.slice p n cap) (n) (rows (inC .u64) zs)] ++ ls)) (by kernel_rfl) (by kernel_rfl) H164.drew ?_
            refine q_val F164 rfl rfl rfl (fun u hu => y_move F164 rfl rfl) ?_; intro a165 F165; clear F164
            refine q_val F165 rfl rfl rfl (fun u hu => y_move F165 rfl rfl) ?_; intro a166 F166; clear F165
            refine q_val F166 rfl rfl rfl (fun u hu => y_leq F166 rfl rfl rfl) ?_; intro a167 F167; clear F166
            refine q_val F167 rfl rfl rfl (fun u hu => y_move F167 rfl rfl) ?_; intro a168 F168; clear F167
            refine g_split (k := 102) F168 rfl (fun hg13 F169 => ?_) (fun hg13 F169 => ?_)
            · clear F168
              refine qg_on F169 rfl rfl rfl rfl ?_
              refine q_val F169 rfl rfl rfl (fun u hu => y_move F169 rfl rfl) ?_; intro a170 F170; clear F169
              refine qg_on F170 rfl rfl rfl rfl ?_
              refine q_val F170 rfl rfl rfl (fun u hu => y_move F170 rfl rfl) ?_; intro a171 F171; clear F170
              refine qg_on F171 rfl rfl rfl rfl ?_
              obtain ⟨u13, mu13⟩ : ∃ x, (zs)[i4]? = some x := ⟨_, List.getElem?_eq_getElem (by first | omega | (simp only [List.length_set]; omega))⟩
              refine q_val F171 rfl rfl rfl (fun u hu => y_indexP F171 elemU64 rfl rfl rfl hpe142 (by omega)) ?_; intro a173 F173; clear F171
              refine qg_on F173 rfl rfl rfl rfl ?_
              refine q_val F173 rfl rfl rfl (fun u hu => y_load1 F173 plU64 rfl rfl (Row.elem (inC_len .u64) (hu.ownRowP 0 rfl hpe142) (fun _ _ => trivial) mu13 0 _ rfl)) ?_; intro a174 F174; clear F173
              refine qg_on F174 rfl rfl rfl rfl ?_
              refine q_val F174 rfl rfl rfl (fun u hu => y_move F174 rfl rfl) ?_; intro a175 F175; clear F174
              refine qg_on F175 rfl rfl rfl rfl ?_
              refine q_val F175 rfl rfl rfl (fun u hu => y_move F175 rfl rfl) ?_; intro a176 F176; clear F175
              refine qg_on F176 rfl rfl rfl rfl ?_
              obtain ⟨z13, mz13⟩ : ∃ x, (zs)[a]? = some x := ⟨_, List.getElem?_eq_getElem (by first | omega | (simp only [List.length_set]; omega))⟩
              refine q_val F176 rfl rfl rfl (fun u hu => y_indexP F176 elemU64 rfl rfl rfl hpe142 (by omega)) ?_; intro a178 F178; clear F176
              refine qg_on F178 rfl rfl rfl rfl ?_
              refine q_val F178 rfl rfl rfl (fun u hu => y_load1 F178 plU64 rfl rfl (Row.elem (inC_len .u64) (hu.ownRowP 0 rfl hpe142) (fun _ _ => trivial) mz13 0 _ rfl)) ?_; intro a179 F179; clear F178
              refine qg_on F179 rfl rfl rfl rfl ?_
              refine q_call F179 rfl rfl rfl (fun u hu => y_call F179 rfl rfl ent41) (fun u hu => (lessU _ _ _).mono fun e u2 he => ⟨he.1, hu.call0 he.2⟩) ?_; intro a180 F180; clear F179
              refine q_val F180 rfl rfl rfl (fun u hu => y_pickT F180 rfl rfl rfl) ?_; intro a181 F181; clear F180
              refine q_nil ?_; intro w182 H182
              refine c_then ?_
              refine x_cond F181 rfl (fun hl13 => ?_) (fun hl13 => ?_)
              · skip
                refine wp_skip ?_
                refine c_then ?_
                refine wp_block ?_
                refine r_lit ?_
                refine s_val wkP F181 rfl rfl rfl rfl (y_move F181 rfl rfl) ?_; intro a184 F184; clear F181
                refine s_val wkP F184 rfl rfl rfl rfl (y_add F184 rfl rfl rfl (r := ((i4 + 1 : Nat) : Int)) (wrap_i64 (by omega) (by omega) (by omega))) ?_; intro a185 F185; clear F184
                refine s_val wkP F185 rfl rfl rfl rfl (y_assign F185 rfl rfl) ?_; intro a186 F186; clear F185
                refine wpList_nil ?_
                refine c_blkN ?_
                refine c_then ?_
                exact ⟨i4 + 1, ⟨F186.cut _ ⟨rfl, rfl, rfl, rfl, rfl, rfl, trivial⟩, H182, by omega, hp13.incI mu13 mz13 hl13⟩, by first | omega | (dsimp only; omega)⟩
              · skip
                refine wp_exit ?_
                refine c_thenX ?_
                refine c_thenX ?_
                refine c_hit ?_
                refine c_then ?_
                exact ⟨i4, F181.cut _ ⟨rfl, rfl, rfl, rfl, rfl, rfl, trivial⟩, H182, hi13, hp13, (fun _ x z hx hz => by cases hx.symm.trans mu13; cases hz.symm.trans mz13; exact hl13)⟩
            · clear F168
              refine qg_off F169 rfl rfl rfl rfl rfl rfl rfl ?_; intro a187 F187; clear F169
              refine qg_off F187 rfl rfl rfl rfl rfl rfl rfl ?_; intro a188 F188; clear F187
              refine qg_off F188 rfl rfl rfl rfl rfl rfl rfl ?_; intro a189 F189; clear F188
              refine qg_off F189 rfl rfl rfl rfl rfl rfl rfl ?_; intro a190 F190; clear F189
              refine qg_off F190 rfl rfl rfl rfl rfl rfl rfl ?_; intro a191 F191; clear F190
              refine qg_off F191 rfl rfl rfl rfl rfl rfl rfl ?_; intro a192 F192; clear F191
              refine qg_off F192 rfl rfl rfl rfl rfl rfl rfl ?_; intro a193 F193; clear F192
              refine qg_off F193 rfl rfl rfl rfl rfl rfl rfl ?_; intro a194 F194; clear F193
              refine qg_off F194 rfl rfl rfl rfl rfl rfl rfl ?_; intro a195 F195; clear F194
              refine q_val F195 rfl rfl rfl (fun u hu => y_pickF F195 rfl rfl rfl) ?_; intro a196 F196; clear F195
              refine q_nil ?_; intro w197 H197
              refine c_then ?_
              refine x_condF F196 rfl ?_
              refine wp_exit ?_
              refine c_thenX ?_
              refine c_thenX ?_
              refine c_hit ?_
              refine c_then ?_
              exact ⟨i4, F196.cut _ ⟨rfl, rfl, rfl, rfl, rfl, rfl, trivial⟩, H197, hi13, hp13, (fun h => by exfalso; omega)⟩
          · skip
            clear F162
            rintro a163 w163 ⟨i4, F163, H163, hi13, hp13, hE13⟩
            refine x_seqM (fun aa ww => ∃ j5 : Nat, Fr ⟨168, []⟩ aa [(0, .slice p n cap), (1, .int .i64 (((a : Nat) : Int))), (8, .int .i64 (0)), (9, .bool false), (10, .int .i64 (((i4 : Nat) : Int))), (11, .int .i64 (((j5 : Nat) : Int)))] ∧ St w0 ww ([HP.own 24 1 (.slice p n cap) (n) (rows (inC .u64) zs)] ++ ls) ∧ (i4 ≤ j5 + 1 ∧ j5 ≤ j3) ∧ (PI ltI a b i4 j5 zs) ∧ (i4 ≤ j5 → ∀ x z, zs[j5]? = some x → zs[a]? = some z → ltI x z = true)) ?_ ?_
            · skip
              refine wp_block ?_
              refine x_loop (G := Nat) (fun j5 aa ww => Fr ⟨168, []⟩ aa [(0, .slice p n cap), (1, .int .i64 (((a : Nat) : Int))), (8, .int .i64 (0)), (9, .bool false), (10, .int .i64 (((i4 : Nat) : Int))), (11, .int .i64 (((j5 : Nat) : Int)))] ∧ St w0 ww ([HP.own 24 1 (.slice p n cap) (n) (rows (inC .u64) zs)] ++ ls) ∧ (i4 ≤ j5 + 1 ∧ j5 ≤ j3) ∧ (PI ltI a b i4 j5 zs)) (fun j5 => j5) j3 ⟨F163.cut _ ⟨rfl, rfl, rfl, rfl, rfl, rfl, trivial⟩, H163, by omega, hp13⟩ ?_
              clear F163
              rintro j5 a200 w200 ⟨F200, H200, hj13, hq13⟩
              refine wp_seq ?_
              refine wp_seq ?_
              refine q_region (fun u => St w0 u ([HP.own 24 1 (.slice p n cap) (n) (rows (inC .u64) zs)] ++ ls)) (by kernel_rfl) (by kernel_rfl) H200.drew ?_
              refine q_val F200 rfl rfl rfl (fun u hu => y_move F200 rfl rfl) ?_; intro a201 F201; clear F200
              refine q_val F201 rfl rfl rfl (fun u hu => y_move F201 rfl rfl) ?_; intro a202 F202; clear F201
              refine q_val F202 rfl rfl rfl (fun u hu => y_leq F202 rfl rfl rfl) ?_; intro a203 F203; clear F202
              refine q_val F203 rfl rfl rfl (fun u hu => y_move F203 rfl rfl) ?_; intro a204 F204; clear F203
              refine g_split (k := 118) F204 rfl (fun hg15 F205 => ?_) (fun hg15 F205 => ?_)
              · clear F204
                refine qg_on F205 rfl rfl rfl rfl ?_
                refine q_val F205 rfl rfl rfl (fun u hu => y_move F205 rfl rfl) ?_; intro a206 F206; clear F205
                refine qg_on F206 rfl rfl rfl rfl ?_
                refine q_val F206 rfl rfl rfl (fun u hu => y_move F206 rfl rfl) ?_; intro a207 F207; clear F206
                refine qg_on F207 rfl rfl rfl rfl ?_
                obtain ⟨v13, mv13⟩ : ∃ x, (zs)[j5]? = some x := ⟨_, List.getElem?_eq_getElem (by first | omega | (simp only [List.length_set]; omega))⟩
                refine q_val F207 rfl rfl rfl (fun u hu => y_indexP F207 elemU64 rfl rfl rfl hpe142 (by omega)) ?_; intro a209 F209; clear F207
                refine qg_on F209 rfl rfl rfl rfl ?_
                refine q_val F209 rfl rfl rfl (fun u hu => y_load1 F209 plU64 rfl rfl (Row.elem (inC_len .u64) (hu.ownRowP 0 rfl hpe142) (fun _ _ => trivial) mv13 0 _ rfl)) ?_; intro a210 F210; clear F209
                refine qg_on F210 rfl rfl rfl rfl ?_
                refine q_val F210 rfl rfl rfl (fun u hu => y_move F210 rfl rfl) ?_; intro a211 F211; clear F210
                refine qg_on F211 rfl rfl rfl rfl ?_
                refine q_val F211 rfl rfl rfl (fun u hu => y_move F211 rfl rfl) ?_; intro a212 F212; clear F211
                refine qg_on F212 rfl rfl rfl rfl ?_
                obtain ⟨y13, my13⟩ : ∃ x, (zs)[a]? = some x := ⟨_, List.getElem?_eq_getElem (by first | omega | (simp only [List.length_set]; omega))⟩
                refine q_val F212 rfl rfl rfl (fun u hu => y_indexP F212 elemU64 rfl rfl rfl hpe142 (by omega)) ?_; intro a214 F214; clear F212
                refine qg_on F214 rfl rfl rfl rfl ?_
                refine q_val F214 rfl rfl rfl (fun u hu => y_load1 F214 plU64 rfl rfl (Row.elem (inC_len .u64) (hu.ownRowP 0 rfl hpe142) (fun _ _ => trivial) my13 0 _ rfl)) ?_; intro a215 F215; clear F214
                refine qg_on F215 rfl rfl rfl rfl ?_
                refine q_call F215 rfl rfl rfl (fun u hu => y_call F215 rfl rfl ent41) (fun u hu => (lessU _ _ _).mono fun e u2 he => ⟨he.1, hu.call0 he.2⟩) ?_; intro a216 F216; clear F215
                refine qg_on F216 rfl rfl rfl rfl ?_
                refine q_val F216 rfl rfl rfl (fun u hu => y_not F216 rfl rfl) ?_; intro a217 F217; clear F216
                refine q_val F217 rfl rfl rfl (fun u hu => y_pickT F217 rfl rfl rfl) ?_; intro a218 F218; clear F217
                refine q_nil ?_; intro w219 H219
                refine c_then ?_
                refine x_cond F218 rfl (fun hl15 => ?_) (fun hl15 => ?_)
                · skip
                  replace hl15 : ltI v13 y13 = false := by simpa using hl15
                  refine wp_skip ?_
                  refine c_then ?_
                  refine wp_block ?_
                  refine r_lit ?_
                  refine s_val wkP F218 rfl rfl rfl rfl (y_move F218 rfl rfl) ?_; intro a221 F221; clear F218
                  refine s_val wkP F221 rfl rfl rfl rfl (y_sub F221 rfl rfl rfl (r := ((j5 - 1 : Nat) : Int)) (wrap_i64 (by omega) (by omega) (by omega))) ?_; intro a222 F222; clear F221
                  refine s_val wkP F222 rfl rfl rfl rfl (y_assign F222 rfl rfl) ?_; intro a223 F223; clear F222
                  refine wpList_nil ?_
                  refine c_blkN ?_
                  refine c_then ?_
                  exact ⟨j5 - 1, ⟨F223.cut _ ⟨rfl, rfl, rfl, rfl, rfl, rfl, trivial⟩, H219, by omega, hq13.decJ mv13 my13 hl15⟩, by first | omega | (dsimp only; omega)⟩
                · skip
                  replace hl15 : ltI v13 y13 = true := by simpa using hl15
                  refine wp_exit ?_
                  refine c_thenX ?_
                  refine c_thenX ?_
                  refine c_hit ?_
                  refine c_then ?_
                  exact ⟨j5, F218.cut _ ⟨rfl, rfl, rfl, rfl, rfl, rfl, trivial⟩, H219, hj13, hq13, (fun _ x z hx hz => by cases hx.symm.trans mv13; cases hz.symm.trans my13; exact hl15)⟩
              · clear F204
                refine qg_off F205 rfl rfl rfl rfl rfl rfl rfl ?_; intro a224 F224; clear F205
                refine qg_off F224 rfl rfl rfl rfl rfl rfl rfl ?_; intro a225 F225; clear F224
                refine qg_off F225 rfl rfl rfl rfl rfl rfl rfl ?_; intro a226 F226; clear F225
                refine qg_off F226 rfl rfl rfl rfl rfl rfl rfl ?_; intro a227 F227; clear F226
                refine qg_off F227 rfl rfl rfl rfl rfl rfl rfl ?_; intro a228 F228; clear F227
                refine qg_off F228 rfl rfl rfl rfl rfl rfl rfl ?_; intro a229 F229; clear F228
                refine qg_off F229 rfl rfl rfl rfl rfl rfl rfl ?_; intro a230 F230; clear F229
                refine qg_off F230 rfl rfl rfl rfl rfl rfl rfl ?_; intro a231 F231; clear F230
                refine qg_off F231 rfl rfl rfl rfl rfl rfl rfl ?_; intro a232 F232; clear F231
                refine qg_off F232 rfl rfl rfl rfl rfl rfl rfl ?_; intro a233 F233; clear F232
                refine q_val F233 rfl rfl rfl (fun u hu => y_pickF F233 rfl rfl rfl) ?_; intro a234 F234; clear F233
                refine q_nil ?_; intro w235 H235
                refine c_then ?_
                refine x_condF F234 rfl ?_
                refine wp_exit ?_
                refine c_thenX ?_
                refine c_thenX ?_
                refine c_hit ?_
                refine c_then ?_
                exact ⟨j5, F234.cut _ ⟨rfl, rfl, rfl, rfl, rfl, rfl, trivial⟩, H235, hj13, hq13, (fun h => by exfalso; omega)⟩
            · skip
              clear F163
              rintro a199 w199 ⟨j5, F199, H199, hj13, hq13, hE15⟩
              refine wp_seq ?_
              refine wp_seq ?_
              refine r_lit ?_
              refine s_val wkP F199 rfl rfl rfl rfl (y_move F199 rfl rfl) ?_; intro a237 F237; clear F199
              refine s_val wkP F237 rfl rfl rfl rfl (y_move F237 rfl rfl) ?_; intro a238 F238; clear F237
              refine s_val wkP F238 rfl rfl rfl rfl (y_gtr F238 rfl rfl rfl) ?_; intro a239 F239; clear F238
              refine wpList_nil ?_
              refine c_then ?_
              refine x_condP F239 rfl (fun hgt3 => ?_) (fun hgt3 => ?_)
              · skip
                refine wp_exit ?_
                refine c_thenX ?_
                refine c_miss rfl ?_
                refine c_thenX ?_
                refine c_hit ?_
                refine c_then ?_
                refine wp_seq ?_
                refine mix_region [13, 15] [(0, 0), (0, 1), (0, 2), (0, 3), (0, 4), (0, 5), (0, 6), (1, 7), (0, 8), (0, 9), (0, 10), (1, 11), (0, 12), (2, 13), (0, 14), (2, 15)] (fun u => ∃ ls, St w0 u ls) (by kernel_rfl) (by kernel_rfl) ⟨_, H199.drew⟩ ?_
                have H241 := H199.drew
                generalize w199.drew = w241 at H241 ⊢
                refine m_pure F239 rfl rfl rfl rfl (fun u hu => y_move F239 rfl rfl) ?_; intro a242 F242; clear F239
                refine m_pure F242 rfl rfl rfl rfl (fun u hu => y_move F242 rfl rfl) ?_; intro a243 F243; clear F242
                refine m_pure F243 rfl rfl rfl rfl (fun u hu => y_move F243 rfl rfl) ?_; intro a244 F244; clear F243
                refine m_pure F244 rfl rfl rfl rfl (fun u hu => y_move F244 rfl rfl) ?_; intro a245 F245; clear F244
                refine m_pure F245 rfl rfl rfl rfl (fun u hu => y_move F245 rfl rfl) ?_; intro a246 F246; clear F245
                refine m_pure F246 rfl rfl rfl rfl (fun u hu => y_move F246 rfl rfl) ?_; intro a247 F247; clear F246
                obtain ⟨z, mz⟩ : ∃ x, (zs)[a]? = some x := ⟨_, List.getElem?_eq_getElem (by first | omega | (simp only [List.length_set]; omega))⟩
                refine m_pure F247 rfl rfl rfl rfl (fun u hu => y_indexP F247 elemU64 rfl rfl rfl hpe142 (by omega)) ?_; intro a249 F249; clear F247
                refine m_read F249 rfl rfl rfl rfl (y_load1 F249 plU64 rfl rfl (Row.elem (inC_len .u64) (H241.ownRowP 0 rfl hpe142) (fun _ _ => trivial) mz 0 _ rfl)) ?_; intro a250 F250; clear F249
                refine m_pure F250 rfl rfl rfl rfl (fun u hu => y_move F250 rfl rfl) ?_; intro a251 F251; clear F250
                refine m_pure F251 rfl rfl rfl rfl (fun u hu => y_move F251 rfl rfl) ?_; intro a252 F252; clear F251
                obtain ⟨w, mw⟩ : ∃ x, (zs)[j5]? = some x := ⟨_, List.getElem?_eq_getElem (by first | omega | (simp only [List.length_set]; omega))⟩
                refine m_pure F252 rfl rfl rfl rfl (fun u hu => y_indexP F252 elemU64 rfl rfl rfl hpe142 (by omega)) ?_; intro a254 F254; clear F252
                refine m_read F254 rfl rfl rfl rfl (y_load1 F254 plU64 rfl rfl (Row.elem (inC_len .u64) (H241.ownRowP 0 rfl hpe142) (fun _ _ => trivial) mw 0 _ rfl)) ?_; intro a255 F255; clear F254
                refine m_pure F255 rfl rfl rfl rfl (fun u hu => y_indexP F255 elemU64 rfl rfl rfl hpe142 (by omega)) ?_; intro a256 F256; clear F255
                refine m_heavy rfl rfl ?_
                refine s_setElem wkP F256 rfl rfl z1U64 rfl hpe142 rfl rfl z rfl rfl rfl H241 0 rfl (fun _ => rfl) (by first | omega | (simp only [List.length_set]; omega)) (by omega) ?_; intro w257 h257
                have H257 : St w0 w257 ([HP.own 24 1 (.slice p n cap) (n) (rows (inC .u64) (zs.set (j5) z))] ++ ls) := h257
                clear h257
                refine wpList_nil ?_; refine c_then ⟨⟨_, H257⟩, ?_⟩
                obtain ⟨x258, mx258⟩ : ∃ x, ((zs.set (j5) z))[a]? = some x := ⟨_, List.getElem?_eq_getElem (by first | omega | (simp only [List.length_set]; omega))⟩
                refine m_pure F256 rfl rfl rfl rfl (fun u hu => y_indexP F256 elemU64 rfl rfl rfl hpe142 (by omega)) ?_; intro a259 F259; clear F256
                refine m_heavy rfl rfl ?_
                refine s_setElem wkP F259 rfl rfl z1U64 rfl hpe142 rfl rfl w rfl rfl rfl H257 0 rfl (fun _ => rfl) (by first | omega | (simp only [List.length_set]; omega)) (by omega) ?_; intro w260 h260
                have H260 : St w0 w260 ([HP.own 24 1 (.slice p n cap) (n) (rows (inC .u64) ((zs.set (j5) z).set (a) w))] ++ ls) := h260
                clear h260
                refine wpList_nil ?_; refine c_then ⟨⟨_, H260⟩, ?_⟩
                refine m_nil ?_
                refine c_then ?_
                refine wp_seq ?_
                refine r_lit ?_
                refine s_val wkP F259 rfl rfl rfl rfl (y_move F259 rfl rfl) ?_; intro a261 F261; clear F259
                refine s_val wkP F261 rfl rfl rfl rfl (y_assign F261 rfl rfl) ?_; intro a262 F262; clear F261
                refine s_val wkP F262 rfl rfl rfl rfl (y_assign F262 rfl rfl) ?_; intro a263 F263; clear F262
                refine wpList_nil ?_
                refine c_then ?_
                refine wp_ret ?_
                refine x_ret2 F263 rfl rfl rfl ?_
                refine ⟨_, rfl, _, j5, false, rfl, ⟨hsg3.swap mw mz (by omega) (by omega) (by omega) (by omega), by omega, by omega, hq13.done swoI (by omega) (by omega) mw mz⟩, H260⟩
              · skip
                refine wp_skip ?_
                refine c_then ?_
                refine wp_seq ?_
                refine mix_region [13, 15] [(0, 0), (0, 1), (0, 2), (0, 3), (0, 4), (0, 5), (0, 6), (1, 7), (0, 8), (0, 9), (0, 10), (1, 11), (0, 12), (2, 13), (0, 14), (2, 15)] (fun u => ∃ ls, St w0 u ls) (by kernel_rfl) (by kernel_rfl) ⟨_, H199.drew⟩ ?_
                have H264 := H199.drew
                generalize w199.drew = w264 at H264 ⊢
                refine m_pure F239 rfl rfl rfl rfl (fun u hu => y_move F239 rfl rfl) ?_; intro a265 F265; clear F239
                refine m_pure F265 rfl rfl rfl rfl (fun u hu => y_move F265 rfl rfl) ?_; intro a266 F266; clear F265
                refine m_pure F266 rfl rfl rfl rfl (fun u hu => y_move F266 rfl rfl) ?_; intro a267 F267; clear F266
                refine m_pure F267 rfl rfl rfl rfl (fun u hu => y_move F267 rfl rfl) ?_; intro a268 F268; clear F267
                refine m_pure F268 rfl rfl rfl rfl (fun u hu => y_move F268 rfl rfl) ?_; intro a269 F269; clear F268
                refine m_pure F269 rfl rfl rfl rfl (fun u hu => y_move F269 rfl rfl) ?_; intro a270 F270; clear F269
                obtain ⟨y, my⟩ : ∃ x, (zs)[j5]? = some x := ⟨_, List.getElem?_eq_getElem (by first | omega | (simp only [List.length_set]; omega))⟩
                refine m_pure F270 rfl rfl rfl rfl (fun u hu => y_indexP F270 elemU64 rfl rfl rfl hpe142 (by omega)) ?_; intro a272 F272; clear F270
                refine m_read F272 rfl rfl rfl rfl (y_load1 F272 plU64 rfl rfl (Row.elem (inC_len .u64) (H264.ownRowP 0 rfl hpe142) (fun _ _ => trivial) my 0 _ rfl)) ?_; intro a273 F273; clear F272
                refine m_pure F273 rfl rfl rfl rfl (fun u hu => y_move F273 rfl rfl) ?_; intro a274 F274; clear F273
                refine m_pure F274 rfl rfl rfl rfl (fun u hu => y_move F274 rfl rfl) ?_; intro a275 F275; clear F274
                obtain ⟨x, mx⟩ : ∃ x, (zs)[i4]? = some x := ⟨_, List.getElem?_eq_getElem (by first | omega | (simp only [List.length_set]; omega))⟩
                refine m_pure F275 rfl rfl rfl rfl (fun u hu => y_indexP F275 elemU64 rfl rfl rfl hpe142 (by omega)) ?_; intro a277 F277; clear F275
                refine m_read F277 rfl rfl rfl rfl (y_load1 F277 plU64 rfl rfl (Row.elem (inC_len .u64) (H264.ownRowP 0 rfl hpe142) (fun _ _ => trivial) mx 0 _ rfl)) ?_; intro a278 F278; clear F277
                refine m_pure F278 rfl rfl rfl rfl (fun u hu => y_indexP F278 elemU64 rfl rfl rfl hpe142 (by omega)) ?_; intro a279 F279; clear F278
                refine m_heavy rfl rfl ?_
                refine s_setElem wkP F279 rfl rfl z1U64 rfl hpe142 rfl rfl y rfl rfl rfl H264 0 rfl (fun _ => rfl) (by first | omega | (simp only [List.length_set]; omega)) (by omega) ?_; intro w280 h280
                have H280 : St w0 w280 ([HP.own 24 1 (.slice p n cap) (n) (rows (inC .u64) (zs.set (i4) y))] ++ ls) := h280
                clear h280
                refine wpList_nil ?_; refine c_then ⟨⟨_, H280⟩, ?_⟩
                obtain ⟨x281, mx281⟩ : ∃ x, ((zs.set (i4) y))[j5]? = some x := ⟨_, List.getElem?_eq_getElem (by first | omega | (simp only [List.length_set]; omega))⟩
                refine m_pure F279 rfl rfl rfl rfl (fun u hu => y_indexP F279 elemU64 rfl rfl rfl hpe142 (by omega)) ?_; intro a282 F282; clear F279
                refine m_heavy rfl rfl ?_
                refine s_setElem wkP F282 rfl rfl z1U64 rfl hpe142 rfl rfl x rfl rfl rfl H280 0 rfl (fun _ => rfl) (by first | omega | (simp only [List.length_set]; omega)) (by omega) ?_; intro w283 h283
                have H283 : St w0 w283 ([HP.own 24 1 (.slice p n cap) (n) (rows (inC .u64) ((zs.set (i4) y).set (j5) x))] ++ ls) := h283
                clear h283
                refine wpList_nil ?_; refine c_then ⟨⟨_, H283⟩, ?_⟩
                refine m_nil ?_
                refine c_then ?_
                refine wp_seq ?_
                obtain ⟨z, mz⟩ : ∃ z, zs[a]? = some z := ⟨_, List.getElem?_eq_getElem (by omega)⟩
                have hx1 := hE13 (by omega) x z mx mz
                have hx2 := hE15 (by omega) y z my mz
                have hlt : i4 < j5 := by
                  rcases Nat.lt_or_ge i4 j5 with h | h
                  · exact h
                  · obtain rfl : i4 = j5 := by omega
                    cases mx.symm.trans my
                    rw [hx1] at hx2; cases hx2
                refine r_lit ?_
                refine s_val wkP F282 rfl rfl rfl rfl (y_move F282 rfl rfl) ?_; intro a284 F284; clear F282
                refine s_val wkP F284 rfl rfl rfl rfl (y_add F284 rfl rfl rfl (r := ((i4 + 1 : Nat) : Int)) (wrap_i64 (by omega) (by omega) (by omega))) ?_; intro a285 F285; clear F284
                refine s_val wkP F285 rfl rfl rfl rfl (y_assign F285 rfl rfl) ?_; intro a286 F286; clear F285
                refine wpList_nil ?_
                refine c_then ?_
                refine r_lit ?_
                refine s_val wkP F286 rfl rfl rfl rfl (y_move F286 rfl rfl) ?_; intro a287 F287; clear F286
                refine s_val wkP F287 rfl rfl rfl rfl (y_sub F287 rfl rfl rfl (r := ((j5 - 1 : Nat) : Int)) (wrap_i64 (by omega) (by omega) (by omega))) ?_; intro a288 F288; clear F287
                refine s_val wkP F288 rfl rfl rfl rfl (y_assign F288 rfl rfl) ?_; intro a289 F289; clear F288
                refine wpList_nil ?_
                refine c_blkN ?_
                refine c_then ?_
                exact ⟨(i4 + 1, j5 - 1, ((zs.set (i4) y).set (j5) x)), ⟨F289.cut _ ⟨rfl, rfl, rfl, rfl, rfl, rfl, trivial⟩, H283, by omega, hsg3.swap mx my (by omega) (by omega) (by omega) (by omega), by simp only [List.length_set]; exact hzl, hq13.swap (by omega) hlt mx my mz hx1 hx2⟩, by first | omega | (dsimp only; omega)⟩
theorem ent43 : ∀ args w, (callFunc 43 args).run Try.prog w = .ok (.enter 43 args) w := enters Try.func43 (by kernel_rfl) rfl
end Go.Proofs.Ytchcoenpnmgnhaa
