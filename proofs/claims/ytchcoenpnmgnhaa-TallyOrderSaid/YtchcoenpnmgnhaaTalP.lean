/- pdqsort: the pivot. -/
import Derived.Test.YtchcoenpnmgnhaaTalN
set_option linter.unusedSimpArgs false
set_option linter.unusedVariables false
namespace Go.Proofs.Ytchcoenpnmgnhaa
open Go.ChangeShapes Go.WideShapes Go.ChangeAt Go.RowKit Go.Tri
set_option maxRecDepth 100000 in
set_option maxHeartbeats 2000000 in
theorem order2 {w0 w : World} {ls : List HP} {p : Option Addr} {n cap Bs c : Nat} (xs : List Int) (hn : xs.length = n) (hn1 : n ≤ 1000000) (lo hi a b : Nat) (ha : lo ≤ a ∧ a < hi) (hb : lo ≤ b ∧ b < hi) (hhn : hi ≤ n) (hc : c ≤ 1000) (H : St w0 w (HP.own 24 1 (.slice p n cap) (n) (rows (inC .u64) xs) :: HP.blk Bs [.int .i64 ((c : Nat) : Int)] 3 :: ls)) :
    Calls Try.prog 53 [.slice p n cap, .int .i64 (a : Int), .int .i64 (b : Int), .pointer (some ⟨Bs, 0, none⟩)].toArray w (fun e w' => ∃ v, e = .returned v ∧ ∃ (x y c' : Nat), v = .tuple [.int .i64 ((x : Nat) : Int), .int .i64 ((y : Nat) : Int)].toArray ∧ (lo ≤ x ∧ x < hi) ∧ (lo ≤ y ∧ y < hi) ∧ c' ≤ c + 1 ∧ St w0 w' (HP.own 24 1 (.slice p n cap) (n) (rows (inC .u64) xs) :: HP.blk Bs [.int .i64 ((c' : Nat) : Int)] 3 :: ls)) := by
  have hp := (H.ownP 0 rfl).2.2
  refine x_enter Try.func53 rfl rfl rfl ?_
  intro a0 F0
  replace F0 : Fr ⟨28, []⟩ a0 [(0, .slice p n cap), (1, .int .i64 (a : Int)), (2, .int .i64 (b : Int)), (3, .pointer (some ⟨Bs, 0, none⟩))] := F0
  have H0 : St w0 w ([HP.own 24 1 (.slice p n cap) (n) (rows (inC .u64) xs), HP.blk Bs [.int .i64 ((c : Nat) : Int)] 3] ++ ls) := H
  refine wp_seq ?_
  refine r_lit ?_
  refine s_val wkP F0 rfl rfl rfl rfl (y_assign F0 rfl rfl) ?_; intro a1 F1; clear F0
  refine s_val wkP F1 rfl rfl rfl rfl (y_assign F1 rfl rfl) ?_; intro a2 F2; clear F1
  refine wpList_nil ?_
  refine c_then ?_
  refine wp_seq ?_
  refine wp_seq ?_
  refine q_region (fun u => St w0 u ([HP.own 24 1 (.slice p n cap) (n) (rows (inC .u64) xs), HP.blk Bs [.int .i64 ((c : Nat) : Int)] 3] ++ ls)) (by kernel_rfl) (by kernel_rfl) H0.drew ?_
  refine q_val F2 rfl rfl rfl (fun u hu => y_move F2 rfl rfl) ?_; intro a3 F3; clear F2
  refine q_val F3 rfl rfl rfl (fun u hu => y_move F3 rfl rfl) ?_; intro a4 F4; clear F3
  obtain ⟨bb5, hpe5⟩ := hp (by omega)
  obtain ⟨x6, mx6⟩ : ∃ x, (xs)[b]? = some x := ⟨_, List.getElem?_eq_getElem (by first | omega | (simp only [List.length_set]; omega))⟩
  refine q_val F4 rfl rfl rfl (fun u hu => y_indexP F4 elemU64 rfl rfl rfl hpe5 (by omega)) ?_; intro a7 F7; clear F4
  refine q_val F7 rfl rfl rfl (fun u hu => y_load1 F7 plU64 rfl rfl (Row.elem (inC_len .u64) (hu.ownRowP 0 rfl hpe5) (fun _ _ => trivial) mx6 0 _ rfl)) ?_; intro a8 F8; clear F7
  refine q_val F8 rfl rfl rfl (fun u hu => y_move F8 rfl rfl) ?_; intro a9 F9; clear F8
  refine q_val F9 rfl rfl rfl (fun u hu => y_move F9 rfl rfl) ?_; intro a10 F10; clear F9
  obtain ⟨x11, mx11⟩ : ∃ x, (xs)[a]? = some x := ⟨_, List.getElem?_eq_getElem (by first | omega | (simp only [List.length_set]; omega))⟩
  refine q_val F10 rfl rfl rfl (fun u hu => y_indexP F10 elemU64 rfl rfl rfl hpe5 (by omega)) ?_; intro a12 F12; clear F10
  refine q_val F12 rfl rfl rfl (fun u hu => y_load1 F12 plU64 rfl rfl (Row.elem (inC_len .u64) (hu.ownRowP 0 rfl hpe5) (fun _ _ => trivial) mx11 0 _ rfl)) ?_; intro a13 F13; clear F12
  refine q_call F13 rfl rfl rfl (fun u hu => y_call F13 rfl rfl ent41) (fun u hu => (lessU _ _ _).mono fun e u2 he => ⟨he.1, hu.call0 he.2⟩) ?_; intro a14 F14; clear F13
  refine q_nil ?_; intro w15 H15
  refine c_then ?_
  refine x_cond F14 rfl (fun hc16 => ?_) (fun hc16 => ?_)
  · skip
    refine wp_seq ?_
    refine r_lit ?_
    refine s_val wkP F14 rfl rfl rfl rfl (y_move F14 rfl rfl) ?_; intro a17 F17; clear F14
    refine s_val wkP F17 rfl rfl rfl rfl (y_nilCheck F17 rfl rfl) ?_; intro a18 F18; clear F17
    refine s_val wkP F18 rfl rfl rfl rfl (y_load1 F18 plInt rfl rfl (((H15.blk 1 rfl).cell _).trans rfl)) ?_; intro a19 F19; clear F18
    refine s_val wkP F19 rfl rfl rfl rfl (y_add F19 rfl rfl rfl (r := ((c + 1 : Nat) : Int)) (wrap_i64 (by omega) (by omega) (by omega))) ?_; intro a20 F20; clear F19
    refine s_val wkP F20 rfl rfl rfl rfl (y_nilCheck F20 rfl rfl) ?_; intro a21 F21; clear F20
    refine s_store1 wkP F21 rfl rfl z1Int rfl rfl rfl rfl rfl H15 1 rfl (by simp) ?_; intro w23 h23
    have H23 : St w0 w23 ([HP.own 24 1 (.slice p n cap) (n) (rows (inC .u64) xs), HP.blk Bs [.int .i64 ((c + 1 : Nat) : Int)] 3] ++ ls) := h23
    refine wpList_nil ?_
    refine c_then ?_
    refine wp_seq ?_
    refine r_lit ?_
    refine s_val wkP F21 rfl rfl rfl rfl (y_move F21 rfl rfl) ?_; intro a24 F24; clear F21
    refine s_val wkP F24 rfl rfl rfl rfl (y_move F24 rfl rfl) ?_; intro a25 F25; clear F24
    refine s_val wkP F25 rfl rfl rfl rfl (y_assign F25 rfl rfl) ?_; intro a26 F26; clear F25
    refine s_val wkP F26 rfl rfl rfl rfl (y_assign F26 rfl rfl) ?_; intro a27 F27; clear F26
    refine wpList_nil ?_
    refine c_then ?_
    refine wp_ret ?_
    refine c_thenR ?_
    refine x_ret2 F27 rfl rfl rfl ?_
    exact ⟨_, rfl, b, a, c + 1, rfl, by omega, by omega, by omega, H23⟩
  · skip
    refine wp_skip ?_
    refine c_then ?_
    refine wp_seq ?_
    refine r_lit ?_
    refine s_val wkP F14 rfl rfl rfl rfl (y_move F14 rfl rfl) ?_; intro a28 F28; clear F14
    refine s_val wkP F28 rfl rfl rfl rfl (y_move F28 rfl rfl) ?_; intro a29 F29; clear F28
    refine s_val wkP F29 rfl rfl rfl rfl (y_assign F29 rfl rfl) ?_; intro a30 F30; clear F29
    refine s_val wkP F30 rfl rfl rfl rfl (y_assign F30 rfl rfl) ?_; intro a31 F31; clear F30
    refine wpList_nil ?_
    refine c_then ?_
    refine wp_ret ?_
    refine x_ret2 F31 rfl rfl rfl ?_
    exact ⟨_, rfl, a, b, c, rfl, by omega, by omega, by omega, H15⟩
theorem ent53 : ∀ args w, (callFunc 53 args).run Try.prog w = .ok (.enter 53 args) w := enters Try.func53 (by kernel_rfl) rfl
set_option maxRecDepth 100000 in
set_option maxHeartbeats 2000000 in
theorem median {w0 w : World} {ls : List HP} {p : Option Addr} {n cap Bs c : Nat} (xs : List Int) (hn : xs.length = n) (hn1 : n ≤ 1000000) (lo hi a b d : Nat) (ha : lo ≤ a ∧ a < hi) (hb : lo ≤ b ∧ b < hi) (hd : lo ≤ d ∧ d < hi) (hhn : hi ≤ n) (hc : c ≤ 900) (H : St w0 w (HP.own 24 1 (.slice p n cap) (n) (rows (inC .u64) xs) :: HP.blk Bs [.int .i64 ((c : Nat) : Int)] 3 :: ls)) :
    Calls Try.prog 51 [.slice p n cap, .int .i64 (a : Int), .int .i64 (b : Int), .int .i64 (d : Int), .pointer (some ⟨Bs, 0, none⟩)].toArray w (fun e w' => ∃ v, e = .returned v ∧ ∃ (x c' : Nat), v = .int .i64 ((x : Nat) : Int) ∧ (lo ≤ x ∧ x < hi) ∧ c' ≤ c + 3 ∧ St w0 w' (HP.own 24 1 (.slice p n cap) (n) (rows (inC .u64) xs) :: HP.blk Bs [.int .i64 ((c' : Nat) : Int)] 3 :: ls)) := by
  have hp := (H.ownP 0 rfl).2.2
  refine x_enter Try.func51 rfl rfl rfl ?_
  intro a0 F0
  replace F0 : Fr ⟨36, []⟩ a0 [(0, .slice p n cap), (1, .int .i64 (a : Int)), (2, .int .i64 (b : Int)), (3, .int .i64 (d : Int)), (4, .pointer (some ⟨Bs, 0, none⟩))] := F0
  have H0 : St w0 w ([HP.own 24 1 (.slice p n cap) (n) (rows (inC .u64) xs), HP.blk Bs [.int .i64 ((c : Nat) : Int)] 3] ++ ls) := H
  refine wp_seq ?_
  refine r_lit ?_
  refine s_val wkP F0 rfl rfl rfl rfl (y_assign F0 rfl rfl) ?_; intro a1 F1; clear F0
  refine wpList_nil ?_
  refine c_then ?_
  refine wp_seq ?_
  refine r_lit ?_
  refine s_val wkP F1 rfl rfl rfl rfl (y_move F1 rfl rfl) ?_; intro a2 F2; clear F1
  refine s_val wkP F2 rfl rfl rfl rfl (y_move F2 rfl rfl) ?_; intro a3 F3; clear F2
  refine s_val wkP F3 rfl rfl rfl rfl (y_move F3 rfl rfl) ?_; intro a4 F4; clear F3
  refine s_val wkP F4 rfl rfl rfl rfl (y_move F4 rfl rfl) ?_; intro a5 F5; clear F4
  refine s_call wkP F5 rfl rfl rfl rfl (y_call F5 rfl rfl ent53) (order2 (ls := ls) xs hn hn1 lo hi a b (by omega) (by omega) hhn (by omega) H0) ?_; intro v6 w6 a6 hR6 F6; clear F5
  obtain ⟨x6, y6, c6, rfl, hx6, hy6, hc6, H6⟩ := hR6
  replace H6 : St w0 w6 ([HP.own 24 1 (.slice p n cap) (n) (rows (inC .u64) xs), HP.blk Bs [.int .i64 ((c6 : Nat) : Int)] 3] ++ ls) := H6
  refine s_val wkP F6 rfl rfl rfl rfl (y_move F6 rfl rfl) ?_; intro a7 F7; clear F6
  refine s_val wkP F7 rfl rfl rfl rfl (y_extract F7 rfl rfl rfl) ?_; intro a8 F8; clear F7
  refine s_val wkP F8 rfl rfl rfl rfl (y_extract F8 rfl rfl rfl) ?_; intro a9 F9; clear F8
  refine s_val wkP F9 rfl rfl rfl rfl (y_assign F9 rfl rfl) ?_; intro a10 F10; clear F9
  refine s_val wkP F10 rfl rfl rfl rfl (y_assign F10 rfl rfl) ?_; intro a11 F11; clear F10
  refine wpList_nil ?_
  refine c_then ?_
  refine wp_seq ?_
  refine r_lit ?_
  refine s_val wkP F11 rfl rfl rfl rfl (y_move F11 rfl rfl) ?_; intro a12 F12; clear F11
  refine s_val wkP F12 rfl rfl rfl rfl (y_move F12 rfl rfl) ?_; intro a13 F13; clear F12
  refine s_val wkP F13 rfl rfl rfl rfl (y_move F13 rfl rfl) ?_; intro a14 F14; clear F13
  refine s_val wkP F14 rfl rfl rfl rfl (y_move F14 rfl rfl) ?_; intro a15 F15; clear F14
  refine s_call wkP F15 rfl rfl rfl rfl (y_call F15 rfl rfl ent53) (order2 (ls := ls) xs hn hn1 lo hi y6 d (by omega) (by omega) hhn (by omega) H6) ?_; intro v16 w16 a16 hR16 F16; clear F15
  obtain ⟨x16, y16, c16, rfl, hx16, hy16, hc16, H16⟩ := hR16
  replace H16 : St w0 w16 ([HP.own 24 1 (.slice p n cap) (n) (rows (inC .u64) xs), HP.blk Bs [.int .i64 ((c16 : Nat) : Int)] 3] ++ ls) := H16
  refine s_val wkP F16 rfl rfl rfl rfl (y_move F16 rfl rfl) ?_; intro a17 F17; clear F16
  refine s_val wkP F17 rfl rfl rfl rfl (y_extract F17 rfl rfl rfl) ?_; intro a18 F18; clear F17
  refine s_val wkP F18 rfl rfl rfl rfl (y_extract F18 rfl rfl rfl) ?_; intro a19 F19; clear F18
  refine s_val wkP F19 rfl rfl rfl rfl (y_assign F19 rfl rfl) ?_; intro a20 F20; clear F19
  refine s_val wkP F20 rfl rfl rfl rfl (y_assign F20 rfl rfl) ?_; intro a21 F21; clear F20
  refine wpList_nil ?_
  refine c_then ?_
  refine wp_seq ?_
  refine r_lit ?_
  refine s_val wkP F21 rfl rfl rfl rfl (y_move F21 rfl rfl) ?_; intro a22 F22; clear F21
  refine s_val wkP F22 rfl rfl rfl rfl (y_move F22 rfl rfl) ?_; intro a23 F23; clear F22
  refine s_val wkP F23 rfl rfl rfl rfl (y_move F23 rfl rfl) ?_; intro a24 F24; clear F23
  refine s_val wkP F24 rfl rfl rfl rfl (y_move F24 rfl rfl) ?_; intro a25 F25; clear F24
  refine s_call wkP F25 rfl rfl rfl rfl (y_call F25 rfl rfl ent53) (order2 (ls := ls) xs hn hn1 lo hi x6 x16 (by omega) (by omega) hhn (by omega) H16) ?_; intro v26 w26 a26 hR26 F26; clear F25
  obtain ⟨x26, y26, c26, rfl, hx26, hy26, hc26, H26⟩ := hR26
  replace H26 : St w0 w26 ([HP.own 24 1 (.slice p n cap) (n) (rows (inC .u64) xs), HP.blk Bs [.int .i64 ((c26 : Nat) : Int)] 3] ++ ls) := H26
  refine s_val wkP F26 rfl rfl rfl rfl (y_move F26 rfl rfl) ?_; intro a27 F27; clear F26
  refine s_val wkP F27 rfl rfl rfl rfl (y_extract F27 rfl rfl rfl) ?_; intro a28 F28; clear F27
  refine s_val wkP F28 rfl rfl rfl rfl (y_extract F28 rfl rfl rfl) ?_; intro a29 F29; clear F28
  refine s_val wkP F29 rfl rfl rfl rfl (y_assign F29 rfl rfl) ?_; intro a30 F30; clear F29
  refine s_val wkP F30 rfl rfl rfl rfl (y_assign F30 rfl rfl) ?_; intro a31 F31; clear F30
  refine wpList_nil ?_
  refine c_then ?_
  refine wp_seq ?_
  refine r_lit ?_
  refine s_val wkP F31 rfl rfl rfl rfl (y_move F31 rfl rfl) ?_; intro a32 F32; clear F31
  refine s_val wkP F32 rfl rfl rfl rfl (y_assign F32 rfl rfl) ?_; intro a33 F33; clear F32
  refine wpList_nil ?_
  refine c_then ?_
  refine wp_ret ?_
  refine x_ret1 F33 rfl rfl ?_
  exact ⟨_, rfl, y26, c26, rfl, by omega, by omega, H26⟩
theorem ent51 : ∀ args w, (callFunc 51 args).run Try.prog w = .ok (.enter 51 args) w := enters Try.func51 (by kernel_rfl) rfl
set_option maxRecDepth 100000 in
set_option maxHeartbeats 2000000 in
theorem medianAdj {w0 w : World} {ls : List HP} {p : Option Addr} {n cap Bs c : Nat} (xs : List Int) (hn : xs.length = n) (hn1 : n ≤ 1000000) (lo hi a : Nat) (ha : lo < a ∧ a + 1 < hi) (hhn : hi ≤ n) (hc : c ≤ 800) (H : St w0 w (HP.own 24 1 (.slice p n cap) (n) (rows (inC .u64) xs) :: HP.blk Bs [.int .i64 ((c : Nat) : Int)] 3 :: ls)) :
    Calls Try.prog 50 [.slice p n cap, .int .i64 (a : Int), .pointer (some ⟨Bs, 0, none⟩)].toArray w (fun e w' => ∃ v, e = .returned v ∧ ∃ (x c' : Nat), v = .int .i64 ((x : Nat) : Int) ∧ (lo ≤ x ∧ x < hi) ∧ c' ≤ c + 3 ∧ St w0 w' (HP.own 24 1 (.slice p n cap) (n) (rows (inC .u64) xs) :: HP.blk Bs [.int .i64 ((c' : Nat) : Int)] 3 :: ls)) := by
  have hp := (H.ownP 0 rfl).2.2
  refine x_enter Try.func50 rfl rfl rfl ?_
  intro a0 F0
  replace F0 : Fr ⟨15, []⟩ a0 [(0, .slice p n cap), (1, .int .i64 (a : Int)), (2, .pointer (some ⟨Bs, 0, none⟩))] := F0
  have H0 : St w0 w ([HP.own 24 1 (.slice p n cap) (n) (rows (inC .u64) xs), HP.blk Bs [.int .i64 ((c : Nat) : Int)] 3] ++ ls) := H
  refine wp_seq ?_
  refine r_lit ?_
  refine s_val wkP F0 rfl rfl rfl rfl (y_assign F0 rfl rfl) ?_; intro a1 F1; clear F0
  refine wpList_nil ?_
  refine c_then ?_
  refine wp_seq ?_
  refine r_lit ?_
  refine s_val wkP F1 rfl rfl rfl rfl (y_move F1 rfl rfl) ?_; intro a2 F2; clear F1
  refine s_val wkP F2 rfl rfl rfl rfl (y_move F2 rfl rfl) ?_; intro a3 F3; clear F2
  refine s_val wkP F3 rfl rfl rfl rfl (y_sub F3 rfl rfl rfl (r := ((a - 1 : Nat) : Int)) (wrap_i64 (by omega) (by omega) (by omega))) ?_; intro a4 F4; clear F3
  refine s_val wkP F4 rfl rfl rfl rfl (y_move F4 rfl rfl) ?_; intro a5 F5; clear F4
  refine s_val wkP F5 rfl rfl rfl rfl (y_move F5 rfl rfl) ?_; intro a6 F6; clear F5
  refine s_val wkP F6 rfl rfl rfl rfl (y_add F6 rfl rfl rfl (r := ((a + 1 : Nat) : Int)) (wrap_i64 (by omega) (by omega) (by omega))) ?_; intro a7 F7; clear F6
  refine s_val wkP F7 rfl rfl rfl rfl (y_move F7 rfl rfl) ?_; intro a8 F8; clear F7
  refine s_call wkP F8 rfl rfl rfl rfl (y_call F8 rfl rfl ent51) (median (ls := ls) xs hn hn1 lo hi (a - 1) (a) (a + 1) (by omega) (by omega) (by omega) hhn (by omega) H0) ?_; intro v9 w9 a9 hR9 F9; clear F8
  obtain ⟨x9, c9, rfl, hx9, hc9, H9⟩ := hR9
  replace H9 : St w0 w9 ([HP.own 24 1 (.slice p n cap) (n) (rows (inC .u64) xs), HP.blk Bs [.int .i64 ((c9 : Nat) : Int)] 3] ++ ls) := H9
  refine s_val wkP F9 rfl rfl rfl rfl (y_assign F9 rfl rfl) ?_; intro a10 F10; clear F9
  refine wpList_nil ?_
  refine c_then ?_
  refine wp_ret ?_
  refine x_ret1 F10 rfl rfl ?_
  exact ⟨_, rfl, x9, c9, rfl, by omega, by omega, H9⟩
theorem ent50 : ∀ args w, (callFunc 50 args).run Try.prog w = .ok (.enter 50 args) w := enters Try.func50 (by kernel_rfl) rfl
set_option maxRecDepth 100000 in
set_option maxHeartbeats 2000000 in
theorem choosePivot {w0 w : World} {ls : List HP} {p : Option Addr} {n cap : Nat} (xs : List Int) (hn : xs.length = n) (hn1 : n ≤ 1000000) (a b : Nat) (hab : a + 12 < b) (hbn : b ≤ n) (H : St w0 w (HP.own 24 1 (.slice p n cap) (n) (rows (inC .u64) xs) :: ls)) :
    Calls Try.prog 38 [.slice p n cap, .int .i64 (a : Int), .int .i64 (b : Int)].toArray w (fun e w' => ∃ v, e = .returned v ∧ ∃ (m : Nat) (hint : Int), v = .tuple [.int .i64 ((m : Nat) : Int), .int .i64 hint].toArray ∧ (a ≤ m ∧ m < b) ∧ St w0 w' (HP.own 24 1 (.slice p n cap) (n) (rows (inC .u64) xs) :: ls)) := by
  have hp := (H.ownP 0 rfl).2.2
  refine x_enter Try.func38 rfl rfl rfl ?_
  intro a0 F0
  replace F0 : Fr ⟨57, []⟩ a0 [(0, .slice p n cap), (1, .int .i64 (a : Int)), (2, .int .i64 (b : Int))] := F0
  have H0 : St w0 w ([HP.own 24 1 (.slice p n cap) (n) (rows (inC .u64) xs)] ++ ls) := H
  refine wp_seq ?_
  refine r_lit ?_
  refine s_val wkP F0 rfl rfl rfl rfl (y_assign F0 rfl rfl) ?_; intro a1 F1; clear F0
  refine s_val wkP F1 rfl rfl rfl rfl (y_assign F1 rfl rfl) ?_; intro a2 F2; clear F1
  refine wpList_nil ?_
  refine c_then ?_
  refine wp_seq ?_
  refine r_lit ?_
  refine s_val wkP F2 rfl rfl rfl rfl (y_move F2 rfl rfl) ?_; intro a3 F3; clear F2
  refine s_val wkP F3 rfl rfl rfl rfl (y_move F3 rfl rfl) ?_; intro a4 F4; clear F3
  refine s_val wkP F4 rfl rfl rfl rfl (y_sub F4 rfl rfl rfl (r := ((b - a : Nat) : Int)) (wrap_i64 (by omega) (by omega) (by omega))) ?_; intro a5 F5; clear F4
  refine s_val wkP F5 rfl rfl rfl rfl (y_assign F5 rfl rfl) ?_; intro a6 F6; clear F5
  refine wpList_nil ?_
  refine c_then ?_
  refine wp_seq ?_
  refine r_lit ?_
  refine s_alloc1 wkP F6 rfl rfl rfl z1Int rfl H0 ?_; intro Bs w7 a7 h7 F7; clear F6
  have H7 : St w0 w7 ([HP.own 24 1 (.slice p n cap) (n) (rows (inC .u64) xs), HP.blk Bs [.int .i64 ((0 : Nat) : Int)] 3] ++ ls) := St.pickT (A := [HP.blk Bs [.int .i64 ((0 : Nat) : Int)] 3, HP.own 24 1 (.slice p n cap) (n) (rows (inC .u64) xs)]) (B := [HP.own 24 1 (.slice p n cap) (n) (rows (inC .u64) xs), HP.blk Bs [.int .i64 ((0 : Nat) : Int)] 3]) [1, 0] h7 (by decide) rfl
  refine wpList_nil ?_
  refine c_then ?_
  refine wp_seq ?_
  refine r_lit ?_
  refine s_val wkP F7 rfl rfl rfl rfl (y_move F7 rfl rfl) ?_; intro a8 F8; clear F7
  refine s_val wkP F8 rfl rfl rfl rfl (y_move F8 rfl rfl) ?_; intro a9 F9; clear F8
  refine s_val wkP F9 rfl rfl rfl rfl (y_quo F9 rfl rfl rfl (by omega) (r := (((b - a) / 4 : Nat) : Int)) (wrap_i64 (by rw [Int.tdiv_eq_ediv_of_nonneg (by omega)]; try omega) (by omega) (by omega))) ?_; intro a10 F10; clear F9
  refine s_val wkP F10 rfl rfl rfl rfl (y_mul F10 rfl rfl rfl (r := ((((b - a) / 4) * 1 : Nat) : Int)) (wrap_i64 (by omega) (by omega) (by omega))) ?_; intro a11 F11; clear F10
  refine s_val wkP F11 rfl rfl rfl rfl (y_add F11 rfl rfl rfl (r := ((a + (((b - a) / 4) * 1) : Nat) : Int)) (wrap_i64 (by omega) (by omega) (by omega))) ?_; intro a12 F12; clear F11
  refine s_val wkP F12 rfl rfl rfl rfl (y_assign F12 rfl rfl) ?_; intro a13 F13; clear F12
  refine wpList_nil ?_
  refine c_then ?_
  refine wp_seq ?_
  refine r_lit ?_
  refine s_val wkP F13 rfl rfl rfl rfl (y_move F13 rfl rfl) ?_; intro a14 F14; clear F13
  refine s_val wkP F14 rfl rfl rfl rfl (y_move F14 rfl rfl) ?_; intro a15 F15; clear F14
  refine s_val wkP F15 rfl rfl rfl rfl (y_quo F15 rfl rfl rfl (by omega) (r := (((b - a) / 4 : Nat) : Int)) (wrap_i64 (by rw [Int.tdiv_eq_ediv_of_nonneg (by omega)]; try omega) (by omega) (by omega))) ?_; intro a16 F16; clear F15
  refine s_val wkP F16 rfl rfl rfl rfl (y_mul F16 rfl rfl rfl (r := ((((b - a) / 4) * 2 : Nat) : Int)) (wrap_i64 (by omega) (by omega) (by omega))) ?_; intro a17 F17; clear F16
  refine s_val wkP F17 rfl rfl rfl rfl (y_add F17 rfl rfl rfl (r := ((a + (((b - a) / 4) * 2) : Nat) : Int)) (wrap_i64 (by omega) (by omega) (by omega))) ?_; intro a18 F18; clear F17
  refine s_val wkP F18 rfl rfl rfl rfl (y_assign F18 rfl rfl) ?_; intro a19 F19; clear F18
  refine wpList_nil ?_
  refine c_then ?_
  refine wp_seq ?_
  refine r_lit ?_
  refine s_val wkP F19 rfl rfl rfl rfl (y_move F19 rfl rfl) ?_; intro a20 F20; clear F19
  refine s_val wkP F20 rfl rfl rfl rfl (y_move F20 rfl rfl) ?_; intro a21 F21; clear F20
  refine s_val wkP F21 rfl rfl rfl rfl (y_quo F21 rfl rfl rfl (by omega) (r := (((b - a) / 4 : Nat) : Int)) (wrap_i64 (by rw [Int.tdiv_eq_ediv_of_nonneg (by omega)]; try omega) (by omega) (by omega))) ?_; intro a22 F22; clear F21
  refine s_val wkP F22 rfl rfl rfl rfl (y_mul F22 rfl rfl rfl (r := ((((b - a) / 4) * 3 : Nat) : Int)) (wrap_i64 (by omega) (by omega) (by omega))) ?_; intro a23 F23; clear F22
  refine s_val wkP F23 rfl rfl rfl rfl (y_add F23 rfl rfl rfl (r := ((a + (((b - a) / 4) * 3) : Nat) : Int)) (wrap_i64 (by omega) (by omega) (by omega))) ?_; intro a24 F24; clear F23
  refine s_val wkP F24 rfl rfl rfl rfl (y_assign F24 rfl rfl) ?_; intro a25 F25; clear F24
  refine wpList_nil ?_
  refine c_then ?_
  refine x_seqM (fun aa ww => ∃ j6 c6 : Nat, Fr ⟨57, []⟩ aa [(6, .int .i64 (0)), (7, .int .i64 (0)), (9, .pointer (some ⟨Bs, 0, none⟩)), (11, .int .i64 (((j6 : Nat) : Int)))] ∧ St w0 ww ([HP.own 24 1 (.slice p n cap) (n) (rows (inC .u64) xs), HP.blk Bs [.int .i64 ((c6 : Nat) : Int)] 3] ++ ls) ∧ (a ≤ j6 ∧ j6 < b) ∧ (c6 ≤ 100)) ?_ ?_
  · skip
    refine wp_seq ?_
    refine r_lit ?_
    refine s_val wkP F25 rfl rfl rfl rfl (y_move F25 rfl rfl) ?_; intro a27 F27; clear F25
    refine s_val wkP F27 rfl rfl rfl rfl (y_geq F27 rfl rfl rfl) ?_; intro a28 F28; clear F27
    refine wpList_nil ?_
    refine c_then ?_
    refine x_condP F28 rfl (fun h8 => ?_) (fun h8 => ?_)
    · skip
      refine x_seqM (fun aa ww => ∃ i7 j7 k7 c7 : Nat, Fr ⟨57, []⟩ aa [(0, .slice p n cap), (6, .int .i64 (0)), (7, .int .i64 (0)), (9, .pointer (some ⟨Bs, 0, none⟩)), (10, .int .i64 (((i7 : Nat) : Int))), (11, .int .i64 (((j7 : Nat) : Int))), (12, .int .i64 (((k7 : Nat) : Int)))] ∧ St w0 ww ([HP.own 24 1 (.slice p n cap) (n) (rows (inC .u64) xs), HP.blk Bs [.int .i64 ((c7 : Nat) : Int)] 3] ++ ls) ∧ ((a ≤ i7 ∧ i7 < b) ∧ (a ≤ j7 ∧ j7 < b) ∧ (a ≤ k7 ∧ k7 < b)) ∧ (c7 ≤ 50)) ?_ ?_
      · skip
        refine wp_seq ?_
        refine r_lit ?_
        refine s_val wkP F28 rfl rfl rfl rfl (y_move F28 rfl rfl) ?_; intro a31 F31; clear F28
        refine s_val wkP F31 rfl rfl rfl rfl (y_geq F31 rfl rfl rfl) ?_; intro a32 F32; clear F31
        refine wpList_nil ?_
        refine c_then ?_
        refine x_condP F32 rfl (fun h50 => ?_) (fun h50 => ?_)
        · skip
          refine wp_seq ?_
          refine r_lit ?_
          refine s_val wkP F32 rfl rfl rfl rfl (y_move F32 rfl rfl) ?_; intro a34 F34; clear F32
          refine s_val wkP F34 rfl rfl rfl rfl (y_move F34 rfl rfl) ?_; intro a35 F35; clear F34
          refine s_call wkP F35 rfl rfl rfl rfl (y_call F35 rfl rfl ent50) (medianAdj (ls := ls) xs hn hn1 a b (a + (((b - a) / 4) * 1)) (by omega) hbn (by omega) H7) ?_; intro v36 w36 a36 hR36 F36; clear F35
          obtain ⟨x36, c36, rfl, hx36, hc36, H36⟩ := hR36
          replace H36 : St w0 w36 ([HP.own 24 1 (.slice p n cap) (n) (rows (inC .u64) xs), HP.blk Bs [.int .i64 ((c36 : Nat) : Int)] 3] ++ ls) := H36
          refine s_val wkP F36 rfl rfl rfl rfl (y_assign F36 rfl rfl) ?_; intro a37 F37; clear F36
          refine wpList_nil ?_
          refine c_then ?_
          refine wp_seq ?_
          refine r_lit ?_
          refine s_val wkP F37 rfl rfl rfl rfl (y_move F37 rfl rfl) ?_; intro a38 F38; clear F37
          refine s_val wkP F38 rfl rfl rfl rfl (y_move F38 rfl rfl) ?_; intro a39 F39; clear F38
          refine s_call wkP F39 rfl rfl rfl rfl (y_call F39 rfl rfl ent50) (medianAdj (ls := ls) xs hn hn1 a b (a + (((b - a) / 4) * 2)) (by omega) hbn (by omega) H36) ?_; intro v40 w40 a40 hR40 F40; clear F39
          obtain ⟨x40, c40, rfl, hx40, hc40, H40⟩ := hR40
          replace H40 : St w0 w40 ([HP.own 24 1 (.slice p n cap) (n) (rows (inC .u64) xs), HP.blk Bs [.int .i64 ((c40 : Nat) : Int)] 3] ++ ls) := H40
          refine s_val wkP F40 rfl rfl rfl rfl (y_assign F40 rfl rfl) ?_; intro a41 F41; clear F40
          refine wpList_nil ?_
          refine c_then ?_
          refine r_lit ?_
          refine s_val wkP F41 rfl rfl rfl rfl (y_move F41 rfl rfl) ?_; intro a42 F42; clear F41
          refine s_val wkP F42 rfl rfl rfl rfl (y_move F42 rfl rfl) ?_; intro a43 F43; clear F42
          refine s_call wkP F43 rfl rfl rfl rfl (y_call F43 rfl rfl ent50) (medianAdj (ls := ls) xs hn hn1 a b (a + (((b - a) / 4) * 3)) (by omega) hbn (by omega) H40) ?_; intro v44 w44 a44 hR44 F44; clear F43
          obtain ⟨x44, c44, rfl, hx44, hc44, H44⟩ := hR44
          replace H44 : St w0 w44 ([HP.own 24 1 (.slice p n cap) (n) (rows (inC .u64) xs), HP.blk Bs [.int .i64 ((c44 : Nat) : Int)] 3] ++ ls) := H44
          refine s_val wkP F44 rfl rfl rfl rfl (y_assign F44 rfl rfl) ?_; intro a45 F45; clear F44
          refine wpList_nil ?_
          refine c_then ?_
          exact ⟨x36, x40, x44, c44, F45.cut _ ⟨rfl, rfl, rfl, rfl, rfl, rfl, rfl, trivial⟩, H44, by omega, by omega⟩
        · skip
          refine wp_skip ?_
          refine c_then ?_
          exact ⟨a + (((b - a) / 4) * 1), a + (((b - a) / 4) * 2), a + (((b - a) / 4) * 3), 0, F32.cut _ ⟨rfl, rfl, rfl, rfl, rfl, rfl, rfl, trivial⟩, H7, by omega, by omega⟩
      · skip
        clear F28
        rintro a30 w30 ⟨i7, j7, k7, c7, F30, H30, h7, hc7⟩
        refine r_lit ?_
        refine s_val wkP F30 rfl rfl rfl rfl (y_move F30 rfl rfl) ?_; intro a46 F46; clear F30
        refine s_val wkP F46 rfl rfl rfl rfl (y_move F46 rfl rfl) ?_; intro a47 F47; clear F46
        refine s_val wkP F47 rfl rfl rfl rfl (y_move F47 rfl rfl) ?_; intro a48 F48; clear F47
        refine s_val wkP F48 rfl rfl rfl rfl (y_move F48 rfl rfl) ?_; intro a49 F49; clear F48
        refine s_call wkP F49 rfl rfl rfl rfl (y_call F49 rfl rfl ent51) (median (ls := ls) xs hn hn1 a b (i7) (j7) (k7) (by omega) (by omega) (by omega) hbn (by omega) H30) ?_; intro v50 w50 a50 hR50 F50; clear F49
        obtain ⟨x50, c50, rfl, hx50, hc50, H50⟩ := hR50
        replace H50 : St w0 w50 ([HP.own 24 1 (.slice p n cap) (n) (rows (inC .u64) xs), HP.blk Bs [.int .i64 ((c50 : Nat) : Int)] 3] ++ ls) := H50
        refine s_val wkP F50 rfl rfl rfl rfl (y_assign F50 rfl rfl) ?_; intro a51 F51; clear F50
        refine wpList_nil ?_
        refine c_then ?_
        exact ⟨x50, c50, F51.cut _ ⟨rfl, rfl, rfl, rfl, trivial⟩, H50, by omega, by omega⟩
    · skip
      omega
  · skip
    clear F25
    rintro a26 w26 ⟨j6, c6, F26, H26, hj6, hc6⟩
    refine wp_seq ?_
    refine r_lit ?_
    refine s_val wkP F26 rfl rfl rfl rfl (y_load1 F26 plInt rfl rfl (((H26.blk 1 rfl).cell _).trans rfl)) ?_; intro a52 F52; clear F26
    refine wpList_nil ?_
    refine c_then ?_
    refine wp_block ?_
    refine wp_seq ?_
    refine r_lit ?_
    refine s_val wkP F52 rfl rfl rfl rfl (y_eql F52 rfl rfl rfl) ?_; intro a53 F53; clear F52
    refine s_val wkP F53 rfl rfl rfl rfl (y_assign F53 rfl rfl) ?_; intro a54 F54; clear F53
    refine wpList_nil ?_
    refine c_then ?_
    refine x_condP F54 rfl (fun hc55 => ?_) (fun hc55 => ?_)
    · skip
      refine wp_seq ?_
      refine r_lit ?_
      refine s_val wkP F54 rfl rfl rfl rfl (y_move F54 rfl rfl) ?_; intro a56 F56; clear F54
      refine s_val wkP F56 rfl rfl rfl rfl (y_assign F56 rfl rfl) ?_; intro a57 F57; clear F56
      refine s_val wkP F57 rfl rfl rfl rfl (y_assign F57 rfl rfl) ?_; intro a58 F58; clear F57
      refine wpList_nil ?_
      refine c_then ?_
      refine wp_ret ?_
      refine c_blkR ?_
      refine x_ret2 F58 rfl rfl rfl ?_
      exact ⟨_, rfl, j6, 1, rfl, by omega, St.pickT (A := [HP.own 24 1 (.slice p n cap) (n) (rows (inC .u64) xs), HP.blk Bs [.int .i64 ((c6 : Nat) : Int)] 3]) (B := [HP.own 24 1 (.slice p n cap) (n) (rows (inC .u64) xs)]) [0] H26 (by decide) rfl⟩
    · skip
      refine wp_seq ?_
      refine r_lit ?_
      refine s_val wkP F54 rfl rfl rfl rfl (y_eql F54 rfl rfl rfl) ?_; intro a59 F59; clear F54
      refine s_val wkP F59 rfl rfl rfl rfl (y_assign F59 rfl rfl) ?_; intro a60 F60; clear F59
      refine wpList_nil ?_
      refine c_then ?_
      refine x_condP F60 rfl (fun hc61 => ?_) (fun hc61 => ?_)
      · skip
        refine wp_seq ?_
        refine r_lit ?_
        refine s_val wkP F60 rfl rfl rfl rfl (y_move F60 rfl rfl) ?_; intro a62 F62; clear F60
        refine s_val wkP F62 rfl rfl rfl rfl (y_assign F62 rfl rfl) ?_; intro a63 F63; clear F62
        refine s_val wkP F63 rfl rfl rfl rfl (y_assign F63 rfl rfl) ?_; intro a64 F64; clear F63
        refine wpList_nil ?_
        refine c_then ?_
        refine wp_ret ?_
        refine c_blkR ?_
        refine x_ret2 F64 rfl rfl rfl ?_
        exact ⟨_, rfl, j6, 2, rfl, by omega, St.pickT (A := [HP.own 24 1 (.slice p n cap) (n) (rows (inC .u64) xs), HP.blk Bs [.int .i64 ((c6 : Nat) : Int)] 3]) (B := [HP.own 24 1 (.slice p n cap) (n) (rows (inC .u64) xs)]) [0] H26 (by decide) rfl⟩
      · skip
        refine wp_seq ?_
        refine r_lit ?_
        refine s_val wkP F60 rfl rfl rfl rfl (y_move F60 rfl rfl) ?_; intro a65 F65; clear F60
        refine s_val wkP F65 rfl rfl rfl rfl (y_assign F65 rfl rfl) ?_; intro a66 F66; clear F65
        refine s_val wkP F66 rfl rfl rfl rfl (y_assign F66 rfl rfl) ?_; intro a67 F67; clear F66
        refine wpList_nil ?_
        refine c_then ?_
        refine wp_ret ?_
        refine c_blkR ?_
        refine x_ret2 F67 rfl rfl rfl ?_
        exact ⟨_, rfl, j6, 0, rfl, by omega, St.pickT (A := [HP.own 24 1 (.slice p n cap) (n) (rows (inC .u64) xs), HP.blk Bs [.int .i64 ((c6 : Nat) : Int)] 3]) (B := [HP.own 24 1 (.slice p n cap) (n) (rows (inC .u64) xs)]) [0] H26 (by decide) rfl⟩
theorem ent38 : ∀ args w, (callFunc 38 args).run Try.prog w = .ok (.enter 38 args) w := enters Try.func38 (by kernel_rfl) rfl
end Go.Proofs.Ytchcoenpnmgnhaa
