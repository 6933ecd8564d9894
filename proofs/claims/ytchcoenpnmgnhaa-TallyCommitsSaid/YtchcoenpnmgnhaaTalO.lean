/- The laws TallyCommits, TallyOrder. -/
import Derived.Test.YtchcoenpnmgnhaaTalH
import Derived.Test.YtchcoenpnmgnhaaTalU
set_option linter.unusedSimpArgs false
set_option linter.unusedVariables false
namespace Go.Proofs.Ytchcoenpnmgnhaa
open Go.ChangeShapes Go.WideShapes Go.ChangeAt Go.RowKit Go.Tri
theorem have_le (g : Int) (xs : List Mrk) (k : Nat) : (haveL g (xs.take k)).length ≤ k := by
  have : ∀ l : List Mrk, (haveL g l).length ≤ l.length := by
    intro l
    induction l using snocInd with
    | h0 => simp [haveL]
    | h1 l x ih => rw [haveL_snoc]; split <;> simp <;> omega
  have h := this (xs.take k)
  rw [List.length_take] at h
  omega
set_option maxRecDepth 100000 in
set_option maxHeartbeats 2000000 in
theorem have_core (xs : List Mrk) (hw : ∀ x ∈ xs, x.wf) (hxl : xs.length ≤ 1000) (gg0 : Int) (p : Option Addr) (cp : Nat) (w : World) (hp : 0 < xs.length → ∃ b off, p = some ⟨b, off, none⟩ ∧ Row w b off (rows Mrk.cells xs)) :
    Calls Try.prog 18 [.slice p xs.length cp, .int .u64 gg0].toArray w (fun e w' => e = .returned (.int .i64 (((haveL gg0 xs).length : Nat) : Int)) ∧ St w w' []) := by
  refine x_enter Try.func18 rfl rfl rfl ?_
  intro a0 F0
  replace F0 : Fr ⟨51, []⟩ a0 [(0, .slice p xs.length cp), (1, .int .u64 gg0)] := F0
  have H0 := St.nil w
  refine wp_seq ?_
  refine r_lit ?_
  refine s_val wkP F0 rfl rfl rfl rfl (y_assign F0 rfl rfl) ?_; intro a1 F1; clear F0
  refine wpList_nil ?_
  refine c_then ?_
  refine wp_seq ?_
  refine r_lit ?_
  refine s_val wkP F1 rfl rfl rfl rfl (y_assign F1 rfl rfl) ?_; intro a2 F2; clear F1
  refine wpList_nil ?_
  refine c_then ?_
  refine wp_seq ?_
  refine wp_seq ?_
  refine r_lit ?_
  refine s_val wkP F2 rfl rfl rfl rfl (y_assign F2 rfl rfl) ?_; intro a3 F3; clear F2
  refine wpList_nil ?_
  refine c_then ?_
  refine wp_block ?_
  refine x_loop (G := Nat × Nat) (fun gg aa ww => match gg with | (k, cn) => Fr ⟨51, []⟩ aa [(0, .slice p xs.length cp), (1, .int .u64 (gg0)), (4, .int .i64 (0)), (5, .int .i64 (((cn : Nat) : Int))), (6, .int .i64 (((k : Nat) : Int)))] ∧ St w ww [] ∧ (k ≤ xs.length) ∧ (cn = (haveL gg0 (xs.take k)).length)) (fun gg => match gg with | (k, cn) => xs.length - k) (0, 0) ⟨F3.cut _ ⟨rfl, rfl, rfl, rfl, rfl, trivial⟩, H0, Nat.zero_le _, rfl⟩ ?_
  clear F3
  rintro ⟨k, cn⟩ a4 w4 ⟨F4, H4, hk, hcn⟩
  refine wp_seq ?_
  refine wp_seq ?_
  refine r_lit ?_
  refine s_val wkP F4 rfl rfl rfl rfl (y_move F4 rfl rfl) ?_; intro a5 F5; clear F4
  refine s_val wkP F5 rfl rfl rfl rfl (y_move F5 rfl rfl) ?_; intro a6 F6; clear F5
  refine s_val wkP F6 rfl rfl rfl rfl (y_lenS F6 rfl Try.underlying22 rfl) ?_; intro a7 F7; clear F6
  refine s_val wkP F7 rfl rfl rfl rfl (y_lss F7 rfl rfl rfl) ?_; intro a8 F8; clear F7
  refine wpList_nil ?_
  refine c_then ?_
  refine x_condP F8 rfl (fun hlt => ?_) (fun hlt => ?_)
  · skip
    refine wp_skip ?_
    refine c_then ?_
    refine wp_seq ?_
    refine wp_block ?_
    refine wp_seq ?_
    have hcl : cn ≤ k := by rw [hcn]; exact have_le _ _ _
    refine r_lit ?_
    refine s_val wkP F8 rfl rfl rfl rfl (y_move F8 rfl rfl) ?_; intro a10 F10; clear F8
    refine s_val wkP F10 rfl rfl rfl rfl (y_move F10 rfl rfl) ?_; intro a11 F11; clear F10
    obtain ⟨bb12, of12, hpe12, hrow12⟩ := hp (by omega)
    obtain ⟨x, mx⟩ : ∃ x, (xs)[k]? = some x := ⟨_, List.getElem?_eq_getElem (by first | omega | (simp only [List.length_set]; omega))⟩
    have hx := hw x (List.mem_of_getElem? mx)
    refine s_val wkP F11 rfl rfl rfl rfl (y_indexP F11 elemMark rfl rfl rfl hpe12 (by omega)) ?_; intro a14 F14; clear F11
    refine s_val wkP F14 rfl rfl rfl rfl (y_fieldAddr F14 mfld1 rfl rfl) ?_; intro a15 F15; clear F14
    refine s_val wkP F15 rfl rfl rfl rfl (y_load1 F15 plU64 rfl rfl (Row.elem Mrk.len (hrow12.st H4) hw mx 1 _ rfl)) ?_; intro a16 F16; clear F15
    refine s_val wkP F16 rfl rfl rfl rfl (y_move F16 rfl rfl) ?_; intro a17 F17; clear F16
    refine s_val wkP F17 rfl rfl rfl rfl (y_geq F17 rfl rfl rfl) ?_; intro a18 F18; clear F17
    refine s_val wkP F18 rfl rfl rfl rfl (y_assign F18 rfl rfl) ?_; intro a19 F19; clear F18
    refine wpList_nil ?_
    refine c_then ?_
    refine wp_seq ?_
    refine wp_seq ?_
    refine r_lit ?_
    refine s_val wkP F19 rfl rfl rfl rfl (y_assign F19 rfl rfl) ?_; intro a20 F20; clear F19
    refine wpList_nil ?_
    refine c_then ?_
    refine wp_block ?_
    refine x_loop (G := Nat × Bool) (fun gg aa ww => match gg with | (j, fr) => Fr ⟨51, []⟩ aa [(0, .slice p xs.length cp), (1, .int .u64 (gg0)), (4, .int .i64 (0)), (5, .int .i64 (((cn : Nat) : Int))), (6, .int .i64 (((k : Nat) : Int))), (9, .int .i64 (((k : Nat) : Int))), (10, .slice p xs.length cp), (11, .int .i64 (((xs.length : Nat) : Int))), (12, .bool (decide ((((k : Nat) : Int)) < (((xs.length : Nat) : Int))))), (15, .slice p xs.length cp), (16, .int .i64 (((k : Nat) : Int))), (17, .pointer (some ⟨bb12, of12 + k * 2, none⟩)), (18, .pointer (some ⟨bb12, of12 + k * 2 + 1, none⟩)), (19, .int .u64 (x.gen)), (20, .int .u64 (gg0)), (21, .bool (decide ((gg0) ≤ (x.gen)))), (7, .bool (fr)), (8, .int .i64 (((j : Nat) : Int)))] ∧ St w ww [] ∧ (j ≤ k) ∧ (fr = freshT gg0 x (xs.take j))) (fun gg => match gg with | (j, fr) => k - j) (0, decide (gg0 ≤ x.gen)) ⟨F20.cut _ ⟨rfl, rfl, rfl, rfl, rfl, rfl, rfl, rfl, rfl, rfl, rfl, rfl, rfl, rfl, rfl, rfl, rfl, rfl, trivial⟩, H4, Nat.zero_le _, by simp [freshT]⟩ ?_
    clear F20
    rintro ⟨j, fr⟩ a21 w21 ⟨F21, H21, hj, hfr⟩
    refine wp_seq ?_
    refine wp_seq ?_
    refine r_lit ?_
    refine s_val wkP F21 rfl rfl rfl rfl (y_move F21 rfl rfl) ?_; intro a22 F22; clear F21
    refine s_val wkP F22 rfl rfl rfl rfl (y_move F22 rfl rfl) ?_; intro a23 F23; clear F22
    refine s_val wkP F23 rfl rfl rfl rfl (y_lss F23 rfl rfl rfl) ?_; intro a24 F24; clear F23
    refine wpList_nil ?_
    refine c_then ?_
    refine x_condP F24 rfl (fun hjk => ?_) (fun hjk => ?_)
    · skip
      refine wp_skip ?_
      refine c_then ?_
      refine wp_seq ?_
      refine wp_block ?_
      refine wp_seq ?_
      refine q_region (fun u => St w u []) (by kernel_rfl) (by kernel_rfl) H21.drew ?_
      refine q_val F24 rfl rfl rfl (fun u hu => y_move F24 rfl rfl) ?_; intro a26 F26; clear F24
      refine q_val F26 rfl rfl rfl (fun u hu => y_move F26 rfl rfl) ?_; intro a27 F27; clear F26
      obtain ⟨y, my⟩ : ∃ x, (xs)[j]? = some x := ⟨_, List.getElem?_eq_getElem (by first | omega | (simp only [List.length_set]; omega))⟩
      have hy := hw y (List.mem_of_getElem? my)
      refine q_val F27 rfl rfl rfl (fun u hu => y_indexP F27 elemMark rfl rfl rfl hpe12 (by omega)) ?_; intro a29 F29; clear F27
      refine q_val F29 rfl rfl rfl (fun u hu => y_fieldAddr F29 mfld0 rfl rfl) ?_; intro a30 F30; clear F29
      refine q_val F30 rfl rfl rfl (fun u hu => y_load1 F30 plInt rfl rfl (Row.elem Mrk.len (hrow12.st hu) hw my 0 _ rfl)) ?_; intro a31 F31; clear F30
      refine q_val F31 rfl rfl rfl (fun u hu => y_move F31 rfl rfl) ?_; intro a32 F32; clear F31
      refine q_val F32 rfl rfl rfl (fun u hu => y_move F32 rfl rfl) ?_; intro a33 F33; clear F32
      obtain ⟨x2, mx2⟩ : ∃ x, (xs)[k]? = some x := ⟨_, List.getElem?_eq_getElem (by first | omega | (simp only [List.length_set]; omega))⟩
      have hx2 := hw x2 (List.mem_of_getElem? mx2)
      refine q_val F33 rfl rfl rfl (fun u hu => y_indexP F33 elemMark rfl rfl rfl hpe12 (by omega)) ?_; intro a35 F35; clear F33
      refine q_val F35 rfl rfl rfl (fun u hu => y_fieldAddr F35 mfld0 rfl rfl) ?_; intro a36 F36; clear F35
      refine q_val F36 rfl rfl rfl (fun u hu => y_load1 F36 plInt rfl rfl (Row.elem Mrk.len (hrow12.st hu) hw mx2 0 _ rfl)) ?_; intro a37 F37; clear F36
      refine q_val F37 rfl rfl rfl (fun u hu => y_eql F37 rfl rfl rfl) ?_; intro a38 F38; clear F37
      refine q_val F38 rfl rfl rfl (fun u hu => y_move F38 rfl rfl) ?_; intro a39 F39; clear F38
      refine g_split (k := 38) F39 rfl (fun hnd F40 => ?_) (fun hnd F40 => ?_)
      · clear F39
        refine qg_on F40 rfl rfl rfl rfl ?_
        refine q_val F40 rfl rfl rfl (fun u hu => y_move F40 rfl rfl) ?_; intro a41 F41; clear F40
        refine qg_on F41 rfl rfl rfl rfl ?_
        refine q_val F41 rfl rfl rfl (fun u hu => y_move F41 rfl rfl) ?_; intro a42 F42; clear F41
        refine qg_on F42 rfl rfl rfl rfl ?_
        refine q_val F42 rfl rfl rfl (fun u hu => y_indexP F42 elemMark rfl rfl rfl hpe12 (by omega)) ?_; intro a43 F43; clear F42
        refine qg_on F43 rfl rfl rfl rfl ?_
        refine q_val F43 rfl rfl rfl (fun u hu => y_fieldAddr F43 mfld1 rfl rfl) ?_; intro a44 F44; clear F43
        refine qg_on F44 rfl rfl rfl rfl ?_
        refine q_val F44 rfl rfl rfl (fun u hu => y_load1 F44 plU64 rfl rfl (Row.elem Mrk.len (hrow12.st hu) hw my 1 _ rfl)) ?_; intro a45 F45; clear F44
        refine qg_on F45 rfl rfl rfl rfl ?_
        refine q_val F45 rfl rfl rfl (fun u hu => y_move F45 rfl rfl) ?_; intro a46 F46; clear F45
        refine qg_on F46 rfl rfl rfl rfl ?_
        refine q_val F46 rfl rfl rfl (fun u hu => y_geq F46 rfl rfl rfl) ?_; intro a47 F47; clear F46
        refine q_val F47 rfl rfl rfl (fun u hu => y_pickT F47 rfl rfl rfl) ?_; intro a48 F48; clear F47
        refine q_nil ?_; intro w49 H49
        refine c_then ?_
        refine x_condP F48 rfl (fun hge => ?_) (fun hge => ?_)
        · skip
          refine r_lit ?_
          refine s_val wkP F48 rfl rfl rfl rfl (y_assign F48 rfl rfl) ?_; intro a51 F51; clear F48
          refine wpList_nil ?_
          refine c_blkN ?_
          refine c_then ?_
          refine r_lit ?_
          refine s_val wkP F51 rfl rfl rfl rfl (y_move F51 rfl rfl) ?_; intro a52 F52; clear F51
          refine s_val wkP F52 rfl rfl rfl rfl (y_add F52 rfl rfl rfl (r := (((j : Nat) : Int)) + (1)) (wrap_i64 (by omega) (by omega) (by omega))) ?_; intro a53 F53; clear F52
          refine s_val wkP F53 rfl rfl rfl rfl (y_assign F53 rfl rfl) ?_; intro a54 F54; clear F53
          refine wpList_nil ?_
          refine c_then ?_
          obtain rfl : x = x2 := Option.some.inj (mx.symm.trans mx2)
          exact ⟨(j + 1, false), ⟨F54.cut _ ⟨rfl, rfl, rfl, rfl, rfl, rfl, rfl, rfl, rfl, rfl, rfl, rfl, rfl, rfl, rfl, rfl, rfl, rfl, trivial⟩, H49, by omega, by rw [fresh_step my, ← hfr]; simp [*]⟩, by first | omega | (dsimp only; omega)⟩
        · skip
          refine wp_skip ?_
          refine c_blkN ?_
          refine c_then ?_
          refine r_lit ?_
          refine s_val wkP F48 rfl rfl rfl rfl (y_move F48 rfl rfl) ?_; intro a55 F55; clear F48
          refine s_val wkP F55 rfl rfl rfl rfl (y_add F55 rfl rfl rfl (r := (((j : Nat) : Int)) + (1)) (wrap_i64 (by omega) (by omega) (by omega))) ?_; intro a56 F56; clear F55
          refine s_val wkP F56 rfl rfl rfl rfl (y_assign F56 rfl rfl) ?_; intro a57 F57; clear F56
          refine wpList_nil ?_
          refine c_then ?_
          obtain rfl : x = x2 := Option.some.inj (mx.symm.trans mx2)
          exact ⟨(j + 1, fr), ⟨F57.cut _ ⟨rfl, rfl, rfl, rfl, rfl, rfl, rfl, rfl, rfl, rfl, rfl, rfl, rfl, rfl, rfl, rfl, rfl, rfl, trivial⟩, H49, by omega, by rw [fresh_step my, ← hfr]; simp [*]⟩, by first | omega | (dsimp only; omega)⟩
      · clear F39
        refine qg_off F40 rfl rfl rfl rfl rfl rfl rfl ?_; intro a58 F58; clear F40
        refine qg_off F58 rfl rfl rfl rfl rfl rfl rfl ?_; intro a59 F59; clear F58
        refine qg_off F59 rfl rfl rfl rfl rfl rfl rfl ?_; intro a60 F60; clear F59
        refine qg_off F60 rfl rfl rfl rfl rfl rfl rfl ?_; intro a61 F61; clear F60
        refine qg_off F61 rfl rfl rfl rfl rfl rfl rfl ?_; intro a62 F62; clear F61
        refine qg_off F62 rfl rfl rfl rfl rfl rfl rfl ?_; intro a63 F63; clear F62
        refine qg_off F63 rfl rfl rfl rfl rfl rfl rfl ?_; intro a64 F64; clear F63
        refine q_val F64 rfl rfl rfl (fun u hu => y_pickF F64 rfl rfl rfl) ?_; intro a65 F65; clear F64
        refine q_nil ?_; intro w66 H66
        refine c_then ?_
        refine x_condF F65 rfl ?_
        refine wp_skip ?_
        refine c_blkN ?_
        refine c_then ?_
        refine r_lit ?_
        refine s_val wkP F65 rfl rfl rfl rfl (y_move F65 rfl rfl) ?_; intro a68 F68; clear F65
        refine s_val wkP F68 rfl rfl rfl rfl (y_add F68 rfl rfl rfl (r := (((j : Nat) : Int)) + (1)) (wrap_i64 (by omega) (by omega) (by omega))) ?_; intro a69 F69; clear F68
        refine s_val wkP F69 rfl rfl rfl rfl (y_assign F69 rfl rfl) ?_; intro a70 F70; clear F69
        refine wpList_nil ?_
        refine c_then ?_
        obtain rfl : x = x2 := Option.some.inj (mx.symm.trans mx2)
        exact ⟨(j + 1, fr), ⟨F70.cut _ ⟨rfl, rfl, rfl, rfl, rfl, rfl, rfl, rfl, rfl, rfl, rfl, rfl, rfl, rfl, rfl, rfl, rfl, rfl, trivial⟩, H66, by omega, by rw [fresh_step my, ← hfr]; simp [*]⟩, by first | omega | (dsimp only; omega)⟩
    · skip
      refine wp_exit ?_
      refine c_thenX ?_
      refine c_thenX ?_
      refine c_hit ?_
      refine c_then ?_
      refine wp_seq ?_
      refine r_lit ?_
      refine s_val wkP F24 rfl rfl rfl rfl (y_move F24 rfl rfl) ?_; intro a71 F71; clear F24
      refine wpList_nil ?_
      refine c_then ?_
      refine x_cond F71 rfl (fun hfr2 => ?_) (fun hfr2 => ?_)
      · skip
        refine r_lit ?_
        refine s_val wkP F71 rfl rfl rfl rfl (y_move F71 rfl rfl) ?_; intro a73 F73; clear F71
        refine s_val wkP F73 rfl rfl rfl rfl (y_add F73 rfl rfl rfl (r := (((cn : Nat) : Int)) + (1)) (wrap_i64 (by omega) (by omega) (by omega))) ?_; intro a74 F74; clear F73
        refine s_val wkP F74 rfl rfl rfl rfl (y_assign F74 rfl rfl) ?_; intro a75 F75; clear F74
        refine wpList_nil ?_
        refine c_blkN ?_
        refine c_then ?_
        refine r_lit ?_
        refine s_val wkP F75 rfl rfl rfl rfl (y_move F75 rfl rfl) ?_; intro a76 F76; clear F75
        refine s_val wkP F76 rfl rfl rfl rfl (y_add F76 rfl rfl rfl (r := (((k : Nat) : Int)) + (1)) (wrap_i64 (by omega) (by omega) (by omega))) ?_; intro a77 F77; clear F76
        refine s_val wkP F77 rfl rfl rfl rfl (y_assign F77 rfl rfl) ?_; intro a78 F78; clear F77
        refine wpList_nil ?_
        refine c_then ?_
        obtain rfl : k = j := by omega
        exact ⟨(k + 1, cn + 1), ⟨F78.cut _ ⟨rfl, rfl, rfl, rfl, rfl, trivial⟩, H21, by omega, by rw [haveL_succ mx, ← hfr, ← hcn]; simp [hfr2]⟩, by first | omega | (dsimp only; omega)⟩
      · skip
        refine wp_skip ?_
        refine c_blkN ?_
        refine c_then ?_
        refine r_lit ?_
        refine s_val wkP F71 rfl rfl rfl rfl (y_move F71 rfl rfl) ?_; intro a79 F79; clear F71
        refine s_val wkP F79 rfl rfl rfl rfl (y_add F79 rfl rfl rfl (r := (((k : Nat) : Int)) + (1)) (wrap_i64 (by omega) (by omega) (by omega))) ?_; intro a80 F80; clear F79
        refine s_val wkP F80 rfl rfl rfl rfl (y_assign F80 rfl rfl) ?_; intro a81 F81; clear F80
        refine wpList_nil ?_
        refine c_then ?_
        obtain rfl : k = j := by omega
        exact ⟨(k + 1, cn), ⟨F81.cut _ ⟨rfl, rfl, rfl, rfl, rfl, trivial⟩, H21, by omega, by rw [haveL_succ mx, ← hfr, ← hcn]; simp [hfr2]⟩, by first | omega | (dsimp only; omega)⟩
  · skip
    refine wp_exit ?_
    refine c_thenX ?_
    refine c_thenX ?_
    refine c_hit ?_
    refine c_then ?_
    refine wp_seq ?_
    refine r_lit ?_
    refine s_val wkP F8 rfl rfl rfl rfl (y_move F8 rfl rfl) ?_; intro a82 F82; clear F8
    refine s_val wkP F82 rfl rfl rfl rfl (y_assign F82 rfl rfl) ?_; intro a83 F83; clear F82
    refine wpList_nil ?_
    refine c_then ?_
    refine wp_ret ?_
    refine x_ret1 F83 rfl rfl ?_
    obtain rfl : k = xs.length := by omega
    rw [List.take_length] at hcn
    exact ⟨ret_int (by rw [hcn]), H4.drop0⟩
theorem haveW (xs : List Mrk) (hw : ∀ x ∈ xs, x.wf) (hxl : xs.length ≤ 1000) (gg0 : Int) (s : Value) (w : World) (hs : Sl w s xs.length (rows Mrk.cells xs)) :
    Calls Try.prog 18 [s, .int .u64 gg0].toArray w (fun e w' => e = .returned (.int .i64 (((haveL gg0 xs).length : Nat) : Int)) ∧ St w w' []) := by
  obtain ⟨p, cp, rfl, hp⟩ := hs.form
  exact have_core xs hw hxl gg0 p cp w hp
theorem ent18 : ∀ args w, (callFunc 18 args).run Try.prog w = .ok (.enter 18 args) w := enters Try.func18 (by kernel_rfl) rfl
set_option maxRecDepth 100000 in
set_option maxHeartbeats 2000000 in
theorem rmajority (n : Int) (h1 : -9223372036854775808 ≤ n) (h2 : n ≤ 9223372036854775807) (w : World) :
    Calls Try.prog 19 [.int .i64 n].toArray w (fun e w' => e = .returned (.int .i64 ((majN n : Nat) : Int)) ∧ St w w' []) := by
  refine x_enter Try.func19 rfl rfl rfl ?_
  intro a0 F0
  replace F0 : Fr ⟨8, []⟩ a0 [(0, .int .i64 n)] := F0
  have H0 := St.nil w
  refine wp_seq ?_
  refine r_lit ?_
  refine s_val wkP F0 rfl rfl rfl rfl (y_assign F0 rfl rfl) ?_; intro a1 F1; clear F0
  refine wpList_nil ?_
  refine c_then ?_
  refine wp_seq ?_
  refine wp_seq ?_
  refine r_lit ?_
  refine s_val wkP F1 rfl rfl rfl rfl (y_move F1 rfl rfl) ?_; intro a2 F2; clear F1
  refine s_val wkP F2 rfl rfl rfl rfl (y_lss F2 rfl rfl rfl) ?_; intro a3 F3; clear F2
  refine wpList_nil ?_
  refine c_then ?_
  refine x_condP F3 rfl (fun hc4 => ?_) (fun hc4 => ?_)
  · skip
    refine wp_seq ?_
    refine r_lit ?_
    refine s_val wkP F3 rfl rfl rfl rfl (y_assign F3 rfl rfl) ?_; intro a5 F5; clear F3
    refine wpList_nil ?_
    refine c_then ?_
    refine wp_ret ?_
    refine c_thenR ?_
    refine x_ret1 F5 rfl rfl ?_
    exact ⟨ret_int (by unfold majN; omega), H0⟩
  · skip
    refine wp_skip ?_
    refine c_then ?_
    refine wp_seq ?_
    refine r_lit ?_
    refine s_val wkP F3 rfl rfl rfl rfl (y_move F3 rfl rfl) ?_; intro a6 F6; clear F3
    refine s_val wkP F6 rfl rfl rfl rfl (y_quo F6 rfl rfl rfl (by omega) (r := (n) / (2)) (wrap_i64 (by rw [Int.tdiv_eq_ediv_of_nonneg (by omega)]; try omega) (by omega) (by omega))) ?_; intro a7 F7; clear F6
    refine s_val wkP F7 rfl rfl rfl rfl (y_add F7 rfl rfl rfl (r := ((n) / (2)) + (1)) (wrap_i64 (by omega) (by omega) (by omega))) ?_; intro a8 F8; clear F7
    refine s_val wkP F8 rfl rfl rfl rfl (y_assign F8 rfl rfl) ?_; intro a9 F9; clear F8
    refine wpList_nil ?_
    refine c_then ?_
    refine wp_ret ?_
    refine x_ret1 F9 rfl rfl ?_
    exact ⟨ret_int (by unfold majN; omega), H0⟩
theorem ent19 : ∀ args w, (callFunc 19 args).run Try.prog w = .ok (.enter 19 args) w := enters Try.func19 (by kernel_rfl) rfl
set_option maxRecDepth 100000 in
set_option maxHeartbeats 2000000 in
theorem rcommit (xs : List Mrk) (hw : ∀ x ∈ xs, x.wf) (hxl : xs.length ≤ 1000) (n : Int) (hn1 : -9223372036854775808 ≤ n) (hn2 : n ≤ 9223372036854775807) (s : Value) (w : World) (hs : Sl w s xs.length (rows Mrk.cells xs)) :
    Calls Try.prog 10 [s, .int .i64 n].toArray w (fun e w' => ∃ v, e = .returned v ∧ ∃ best, v = .int .u64 best ∧ (best = 0 ∨ majN n ≤ (haveL best xs).length) ∧ 0 ≤ best ∧ (∀ y ∈ xs, best < y.gen → (haveL y.gen xs).length < majN n) ∧ St w w' []) := by
  have hs0 := hs
  obtain ⟨p, cp, rfl, hp⟩ := hs0.form
  refine x_enter Try.func10 rfl rfl rfl ?_
  intro a0 F0
  replace F0 : Fr ⟨32, []⟩ a0 [(0, .slice p xs.length cp), (1, .int .i64 n)] := F0
  have H0 := St.nil w
  refine wp_seq ?_
  refine r_lit ?_
  refine s_val wkP F0 rfl rfl rfl rfl (y_assign F0 rfl rfl) ?_; intro a1 F1; clear F0
  refine wpList_nil ?_
  refine c_then ?_
  refine wp_seq ?_
  refine r_lit ?_
  refine s_val wkP F1 rfl rfl rfl rfl (y_assign F1 rfl rfl) ?_; intro a2 F2; clear F1
  refine wpList_nil ?_
  refine c_then ?_
  refine wp_seq ?_
  refine wp_seq ?_
  refine r_lit ?_
  refine s_val wkP F2 rfl rfl rfl rfl (y_assign F2 rfl rfl) ?_; intro a3 F3; clear F2
  refine wpList_nil ?_
  refine c_then ?_
  refine wp_block ?_
  refine x_loop (G := Nat × Int) (fun gg aa ww => match gg with | (k, best) => Fr ⟨32, []⟩ aa [(0, .slice p xs.length cp), (1, .int .i64 (n)), (4, .int .u64 (0)), (6, .int .i64 (((k : Nat) : Int))), (5, .int .u64 (best))] ∧ St w ww [] ∧ (k ≤ xs.length) ∧ (best = 0 ∨ majN n ≤ (haveL best xs).length) ∧ (0 ≤ best) ∧ (∀ y ∈ xs.take k, best < y.gen → (haveL y.gen xs).length < majN n)) (fun gg => match gg with | (k, best) => xs.length - k) (0, 0) ⟨F3.cut _ ⟨rfl, rfl, rfl, rfl, rfl, trivial⟩, H0, Nat.zero_le _, .inl rfl, Int.le_refl _, (fun y hy => by simp at hy)⟩ ?_
  clear F3
  rintro ⟨k, best⟩ a4 w4 ⟨F4, H4, hk, hb, hb0, hmx⟩
  refine wp_seq ?_
  refine wp_seq ?_
  refine r_lit ?_
  refine s_val wkP F4 rfl rfl rfl rfl (y_move F4 rfl rfl) ?_; intro a5 F5; clear F4
  refine s_val wkP F5 rfl rfl rfl rfl (y_move F5 rfl rfl) ?_; intro a6 F6; clear F5
  refine s_val wkP F6 rfl rfl rfl rfl (y_lenS F6 rfl Try.underlying22 rfl) ?_; intro a7 F7; clear F6
  refine s_val wkP F7 rfl rfl rfl rfl (y_lss F7 rfl rfl rfl) ?_; intro a8 F8; clear F7
  refine wpList_nil ?_
  refine c_then ?_
  refine x_condP F8 rfl (fun hlt => ?_) (fun hlt => ?_)
  · skip
    refine wp_skip ?_
    refine c_then ?_
    refine wp_seq ?_
    refine wp_block ?_
    refine wp_seq ?_
    refine r_lit ?_
    refine s_val wkP F8 rfl rfl rfl rfl (y_move F8 rfl rfl) ?_; intro a10 F10; clear F8
    refine s_val wkP F10 rfl rfl rfl rfl (y_move F10 rfl rfl) ?_; intro a11 F11; clear F10
    obtain ⟨bb12, of12, hpe12, hrow12⟩ := hp (by omega)
    obtain ⟨x, mx⟩ : ∃ x, (xs)[k]? = some x := ⟨_, List.getElem?_eq_getElem (by first | omega | (simp only [List.length_set]; omega))⟩
    have hx := hw x (List.mem_of_getElem? mx)
    refine s_val wkP F11 rfl rfl rfl rfl (y_indexP F11 elemMark rfl rfl rfl hpe12 (by omega)) ?_; intro a14 F14; clear F11
    refine s_val wkP F14 rfl rfl rfl rfl (y_fieldAddr F14 mfld1 rfl rfl) ?_; intro a15 F15; clear F14
    refine s_val wkP F15 rfl rfl rfl rfl (y_load1 F15 plU64 rfl rfl (Row.elem Mrk.len (hrow12.st H4) hw mx 1 _ rfl)) ?_; intro a16 F16; clear F15
    refine s_val wkP F16 rfl rfl rfl rfl (y_assign F16 rfl rfl) ?_; intro a17 F17; clear F16
    refine wpList_nil ?_
    refine c_then ?_
    refine wp_seq ?_
    have hxg := Mrk.genB hx
    refine r_lit ?_
    refine s_val wkP F17 rfl rfl rfl rfl (y_move F17 rfl rfl) ?_; intro a18 F18; clear F17
    refine s_val wkP F18 rfl rfl rfl rfl (y_move F18 rfl rfl) ?_; intro a19 F19; clear F18
    refine s_val wkP F19 rfl rfl rfl rfl (y_gtr F19 rfl rfl rfl) ?_; intro a20 F20; clear F19
    refine s_val wkP F20 rfl rfl rfl rfl (y_move F20 rfl rfl) ?_; intro a21 F21; clear F20
    refine g_split (k := 22) F21 rfl (fun hgb F22 => ?_) (fun hgb F22 => ?_)
    · clear F21
      refine g_onP F22 rfl rfl rfl rfl ?_
      refine s_val wkP F22 rfl rfl rfl rfl (y_move F22 rfl rfl) ?_; intro a23 F23; clear F22
      refine g_onP F23 rfl rfl rfl rfl ?_
      refine s_val wkP F23 rfl rfl rfl rfl (y_move F23 rfl rfl) ?_; intro a24 F24; clear F23
      refine g_onP F24 rfl rfl rfl rfl ?_
      refine s_callV wkP F24 rfl rfl rfl rfl (y_call F24 rfl rfl ent18) (haveW xs hw hxl x.gen _ _ (hs.st H4)) ?_; intro w25 a25 hR25 F25; clear F24
      have H25 : St w w25 [] := H4.call hR25
      refine g_onP F25 rfl rfl rfl rfl ?_
      refine s_val wkP F25 rfl rfl rfl rfl (y_move F25 rfl rfl) ?_; intro a26 F26; clear F25
      refine g_onP F26 rfl rfl rfl rfl ?_
      refine s_callV wkP F26 rfl rfl rfl rfl (y_call F26 rfl rfl ent19) (rmajority n hn1 hn2 _) ?_; intro w27 a27 hR27 F27; clear F26
      have H27 : St w w27 [] := H25.call hR27
      refine g_onP F27 rfl rfl rfl rfl ?_
      refine s_val wkP F27 rfl rfl rfl rfl (y_geq F27 rfl rfl rfl) ?_; intro a28 F28; clear F27
      refine s_val wkP F28 rfl rfl rfl rfl (y_pickT F28 rfl rfl rfl) ?_; intro a29 F29; clear F28
      refine wpList_nil ?_
      refine c_then ?_
      refine x_condP F29 rfl (fun hmj => ?_) (fun hmj => ?_)
      · skip
        refine r_lit ?_
        refine s_val wkP F29 rfl rfl rfl rfl (y_move F29 rfl rfl) ?_; intro a31 F31; clear F29
        refine s_val wkP F31 rfl rfl rfl rfl (y_assign F31 rfl rfl) ?_; intro a32 F32; clear F31
        refine wpList_nil ?_
        refine c_blkN ?_
        refine c_then ?_
        refine r_lit ?_
        refine s_val wkP F32 rfl rfl rfl rfl (y_move F32 rfl rfl) ?_; intro a33 F33; clear F32
        refine s_val wkP F33 rfl rfl rfl rfl (y_add F33 rfl rfl rfl (r := (((k : Nat) : Int)) + (1)) (wrap_i64 (by omega) (by omega) (by omega))) ?_; intro a34 F34; clear F33
        refine s_val wkP F34 rfl rfl rfl rfl (y_assign F34 rfl rfl) ?_; intro a35 F35; clear F34
        refine wpList_nil ?_
        refine c_then ?_
        exact ⟨(k + 1, x.gen), ⟨F35.cut _ ⟨rfl, rfl, rfl, rfl, rfl, trivial⟩, H27, by omega, .inr (by omega), by omega, take_all' mx (fun y hy h => hmx y hy (by omega)) (fun h => by exfalso; omega)⟩, by first | omega | (dsimp only; omega)⟩
      · skip
        refine wp_skip ?_
        refine c_blkN ?_
        refine c_then ?_
        refine r_lit ?_
        refine s_val wkP F29 rfl rfl rfl rfl (y_move F29 rfl rfl) ?_; intro a36 F36; clear F29
        refine s_val wkP F36 rfl rfl rfl rfl (y_add F36 rfl rfl rfl (r := (((k : Nat) : Int)) + (1)) (wrap_i64 (by omega) (by omega) (by omega))) ?_; intro a37 F37; clear F36
        refine s_val wkP F37 rfl rfl rfl rfl (y_assign F37 rfl rfl) ?_; intro a38 F38; clear F37
        refine wpList_nil ?_
        refine c_then ?_
        exact ⟨(k + 1, best), ⟨F38.cut _ ⟨rfl, rfl, rfl, rfl, rfl, trivial⟩, H27, by omega, hb, hb0, take_all' mx hmx (fun h => by omega)⟩, by first | omega | (dsimp only; omega)⟩
    · clear F21
      refine g_off wkP F22 rfl rfl rfl rfl rfl rfl rfl ?_; intro a39 F39; clear F22
      refine g_off wkP F39 rfl rfl rfl rfl rfl rfl rfl ?_; intro a40 F40; clear F39
      refine g_off wkP F40 rfl rfl rfl rfl rfl rfl rfl ?_; intro a41 F41; clear F40
      refine g_off wkP F41 rfl rfl rfl rfl rfl rfl rfl ?_; intro a42 F42; clear F41
      refine g_off wkP F42 rfl rfl rfl rfl rfl rfl rfl ?_; intro a43 F43; clear F42
      refine g_off wkP F43 rfl rfl rfl rfl rfl rfl rfl ?_; intro a44 F44; clear F43
      refine s_val wkP F44 rfl rfl rfl rfl (y_pickF F44 rfl rfl rfl) ?_; intro a45 F45; clear F44
      refine wpList_nil ?_
      refine c_then ?_
      refine x_condF F45 rfl ?_
      refine wp_skip ?_
      refine c_blkN ?_
      refine c_then ?_
      refine r_lit ?_
      refine s_val wkP F45 rfl rfl rfl rfl (y_move F45 rfl rfl) ?_; intro a47 F47; clear F45
      refine s_val wkP F47 rfl rfl rfl rfl (y_add F47 rfl rfl rfl (r := (((k : Nat) : Int)) + (1)) (wrap_i64 (by omega) (by omega) (by omega))) ?_; intro a48 F48; clear F47
      refine s_val wkP F48 rfl rfl rfl rfl (y_assign F48 rfl rfl) ?_; intro a49 F49; clear F48
      refine wpList_nil ?_
      refine c_then ?_
      exact ⟨(k + 1, best), ⟨F49.cut _ ⟨rfl, rfl, rfl, rfl, rfl, trivial⟩, H4, by omega, hb, hb0, take_all' mx hmx (fun h => by omega)⟩, by first | omega | (dsimp only; omega)⟩
  · skip
    refine wp_exit ?_
    refine c_thenX ?_
    refine c_thenX ?_
    refine c_hit ?_
    refine c_then ?_
    refine wp_seq ?_
    refine r_lit ?_
    refine s_val wkP F8 rfl rfl rfl rfl (y_move F8 rfl rfl) ?_; intro a50 F50; clear F8
    refine s_val wkP F50 rfl rfl rfl rfl (y_assign F50 rfl rfl) ?_; intro a51 F51; clear F50
    refine wpList_nil ?_
    refine c_then ?_
    refine wp_ret ?_
    refine x_ret1 F51 rfl rfl ?_
    obtain rfl : k = xs.length := by omega
    rw [List.take_length] at hmx
    exact ⟨_, rfl, best, rfl, hb, hb0, hmx, H4.drop0⟩
theorem ent10 : ∀ args w, (callFunc 10 args).run Try.prog w = .ok (.enter 10 args) w := enters Try.func10 (by kernel_rfl) rfl
set_option maxRecDepth 100000 in
set_option maxHeartbeats 2000000 in
theorem lawCommits (xs : List Mrk) (hw : ∀ x ∈ xs, x.wf) (hm : xs.length ≤ 9223372036854775807) (n : Int) (hn1 : -9223372036854775808 ≤ n) (hn2 : n ≤ 9223372036854775807) (s : Value) (w : World) (hs : Sl w s xs.length (rows Mrk.cells xs)) :
    Calls Try.prog 3 [s, .int .i64 n].toArray w (fun e w' => e = .returned (.bool true) ∧ Below w.heap.size w w') := by
  have hs0 := hs
  obtain ⟨p, cp, rfl, hp⟩ := hs0.form
  refine x_enter Try.func3 rfl rfl rfl ?_
  intro a0 F0
  replace F0 : Fr ⟨19, []⟩ a0 [(0, .slice p xs.length cp), (1, .int .i64 n)] := F0
  have H0 := St.nil w
  refine wp_seq ?_
  refine r_lit ?_
  refine s_val wkP F0 rfl rfl rfl rfl (y_assign F0 rfl rfl) ?_; intro a1 F1; clear F0
  refine wpList_nil ?_
  refine c_then ?_
  refine wp_seq ?_
  refine wp_seq ?_
  refine r_lit ?_
  refine s_callV wkP F1 rfl rfl rfl rfl (y_call F1 rfl rfl ent8) (speaks _) ?_; intro w2 a2 hR2 F2; clear F1
  have H2 : St w w2 [] := H0.call hR2
  refine s_val wkP F2 rfl rfl rfl rfl (y_not F2 rfl rfl) ?_; intro a3 F3; clear F2
  refine wpList_nil ?_
  refine c_then ?_
  refine x_condF F3 rfl ?_
  refine wp_skip ?_
  refine c_then ?_
  refine wp_seq ?_
  refine wp_seq ?_
  refine r_lit ?_
  refine s_val wkP F3 rfl rfl rfl rfl (y_move F3 rfl rfl) ?_; intro a5 F5; clear F3
  refine s_val wkP F5 rfl rfl rfl rfl (y_lenS F5 rfl Try.underlying22 rfl) ?_; intro a6 F6; clear F5
  refine s_val wkP F6 rfl rfl rfl rfl (y_gtr F6 rfl rfl rfl) ?_; intro a7 F7; clear F6
  refine wpList_nil ?_
  refine c_then ?_
  refine x_condP F7 rfl (fun hlen => ?_) (fun hlen => ?_)
  · skip
    refine wp_seq ?_
    refine r_lit ?_
    refine s_val wkP F7 rfl rfl rfl rfl (y_assign F7 rfl rfl) ?_; intro a9 F9; clear F7
    refine wpList_nil ?_
    refine c_then ?_
    refine wp_ret ?_
    refine c_thenR ?_
    refine x_ret1 F9 rfl rfl ?_
    exact ⟨rfl, H2.below⟩
  · skip
    refine wp_skip ?_
    refine c_then ?_
    refine wp_seq ?_
    refine r_lit ?_
    refine s_build0 wkP F7 rfl rfl rfl elemMark rfl H2 ?_; intro s10 w10 a10 H10 F10; clear F7
    refine s_val wkP F10 rfl rfl rfl rfl (y_move F10 rfl rfl) ?_; intro a11 F11; clear F10
    refine s_append wkP F11 rfl rfl rfl rfl H10 0 rfl rfl elemMark rfl (hs.st H10) (rows_len Mrk.len xs hw) (rows_flat Mrk.flat xs) (by unfold maxLen; omega) (by omega) ?_; intro s1 w12 a12 h12 F12; clear F11
    have H12 : St w w12 [HP.own 28 2 s1 (xs.length) (rows Mrk.cells xs)] := by rw [Nat.zero_add, List.nil_append] at h12; exact h12
    refine s_val wkP F12 rfl rfl rfl rfl (y_move F12 rfl rfl) ?_; intro a13 F13; clear F12
    refine s_call wkP F13 rfl rfl rfl rfl (y_call F13 rfl rfl ent9) (commit xs (hw) (by omega) n hn1 hn2 _ _ (H12.sl 0 rfl)) ?_; intro vc w14 a14 hR14 F14; clear F13
    obtain ⟨c, rfl, hc, hEc⟩ := hR14
    have H14 : St w w14 [HP.own 28 2 s1 (xs.length) (rows Mrk.cells xs)] := H12.call hEc
    refine s_val wkP F14 rfl rfl rfl rfl (y_move F14 rfl rfl) ?_; intro a15 F15; clear F14
    refine s_val wkP F15 rfl rfl rfl rfl (y_move F15 rfl rfl) ?_; intro a16 F16; clear F15
    refine s_call wkP F16 rfl rfl rfl rfl (y_call F16 rfl rfl ent10) (rcommit xs hw (by omega) n hn1 hn2 _ _ (hs.st H14)) ?_; intro vr w17 a17 hR17 F17; clear F16
    obtain ⟨best, rfl, hb, hb0, hmx, hEr⟩ := hR17
    have H17 : St w w17 [HP.own 28 2 s1 (xs.length) (rows Mrk.cells xs)] := H14.call hEr
    refine s_val wkP F17 rfl rfl rfl rfl (y_eql F17 rfl rfl rfl) ?_; intro a18 F18; clear F17
    refine s_val wkP F18 rfl rfl rfl rfl (y_assign F18 rfl rfl) ?_; intro a19 F19; clear F18
    refine wpList_nil ?_
    refine c_then ?_
    refine wp_ret ?_
    refine x_ret1 F19 rfl rfl ?_
    exact ⟨ret_bool (decide_eq_true (com_best (cmap_canon xs hw) hw (by unfold majN; omega) hc hb hb0 hmx)), H17.below⟩
theorem mem_take_succ {xs : List Mrk} {k : Nat} {x : Mrk} (hx : xs[k]? = some x) (y : Mrk) : (y ∈ xs.take k ∨ y = x) ↔ y ∈ xs.take (k + 1) := by
  rw [List.take_add_one, hx, List.mem_append]; simp
theorem mem_drop_pred {xs : List Mrk} {k : Nat} {x : Mrk} (hk : (k : Int) < (xs.length : Int)) (hx : xs[xs.length - 1 - k]? = some x) (y : Mrk) : ((y ∈ xs.drop (xs.length - k) ∨ y = x) ∨ y = x) ↔ y ∈ xs.drop (xs.length - (k + 1)) := by
  have h1 : xs.length - (k + 1) < xs.length := by omega
  obtain ⟨h2, h3⟩ := List.getElem?_eq_some_iff.1 hx
  have e : xs.length - 1 - k = xs.length - (k + 1) := by omega
  rw [List.drop_eq_getElem_cons h1, List.mem_cons]
  have e2 : xs[xs.length - (k + 1)] = x := by rw [← h3]; congr 1; omega
  rw [e2, show xs.length - (k + 1) + 1 = xs.length - k by omega]
  constructor
  · rintro ((h | h) | h)
    · exact .inr h
    · exact .inl h
    · exact .inl h
  · rintro (h | h)
    · exact .inr h
    · exact .inl (.inl h)
set_option maxRecDepth 100000 in
set_option maxHeartbeats 2000000 in
theorem lawOrder (xs : List Mrk) (hw : ∀ x ∈ xs, x.wf) (hm : xs.length ≤ 9223372036854775807) (n : Int) (hn1 : -9223372036854775808 ≤ n) (hn2 : n ≤ 9223372036854775807) (s : Value) (w : World) (hs : Sl w s xs.length (rows Mrk.cells xs)) :
    Calls Try.prog 7 [s, .int .i64 n].toArray w (fun e w' => e = .returned (.bool true) ∧ Below w.heap.size w w') := by
  have hs0 := hs
  obtain ⟨p, cp, rfl, hp⟩ := hs0.form
  refine x_enter Try.func7 rfl rfl rfl ?_
  intro a0 F0
  replace F0 : Fr ⟨68, []⟩ a0 [(0, .slice p xs.length cp), (1, .int .i64 n)] := F0
  have H0 := St.nil w
  refine wp_seq ?_
  refine r_lit ?_
  refine s_val wkP F0 rfl rfl rfl rfl (y_assign F0 rfl rfl) ?_; intro a1 F1; clear F0
  refine wpList_nil ?_
  refine c_then ?_
  refine wp_seq ?_
  refine wp_seq ?_
  refine r_lit ?_
  refine s_callV wkP F1 rfl rfl rfl rfl (y_call F1 rfl rfl ent8) (speaks _) ?_; intro w2 a2 hR2 F2; clear F1
  have H2 : St w w2 [] := H0.call hR2
  refine s_val wkP F2 rfl rfl rfl rfl (y_not F2 rfl rfl) ?_; intro a3 F3; clear F2
  refine wpList_nil ?_
  refine c_then ?_
  refine x_condF F3 rfl ?_
  refine wp_skip ?_
  refine c_then ?_
  refine wp_seq ?_
  refine wp_seq ?_
  refine r_lit ?_
  refine s_val wkP F3 rfl rfl rfl rfl (y_move F3 rfl rfl) ?_; intro a5 F5; clear F3
  refine s_val wkP F5 rfl rfl rfl rfl (y_lenS F5 rfl Try.underlying22 rfl) ?_; intro a6 F6; clear F5
  refine s_val wkP F6 rfl rfl rfl rfl (y_gtr F6 rfl rfl rfl) ?_; intro a7 F7; clear F6
  refine wpList_nil ?_
  refine c_then ?_
  refine x_condP F7 rfl (fun hlen => ?_) (fun hlen => ?_)
  · skip
    refine wp_seq ?_
    refine r_lit ?_
    refine s_val wkP F7 rfl rfl rfl rfl (y_assign F7 rfl rfl) ?_; intro a9 F9; clear F7
    refine wpList_nil ?_
    refine c_then ?_
    refine wp_ret ?_
    refine c_thenR ?_
    refine x_ret1 F9 rfl rfl ?_
    exact ⟨rfl, H2.below⟩
  · skip
    refine wp_skip ?_
    refine c_then ?_
    refine wp_seq ?_
    refine r_lit ?_
    refine s_build0 wkP F7 rfl rfl rfl elemMark rfl H2 ?_; intro s10 w10 a10 H10 F10; clear F7
    refine s_build0 wkP F10 rfl rfl rfl elemMark rfl H10 ?_; intro s11 w11 a11 H11 F11; clear F10
    refine s_val wkP F11 rfl rfl rfl rfl (y_assign F11 rfl rfl) ?_; intro a12 F12; clear F11
    refine s_val wkP F12 rfl rfl rfl rfl (y_assign F12 rfl rfl) ?_; intro a13 F13; clear F12
    refine wpList_nil ?_
    refine c_then ?_
    refine wp_seq ?_
    refine wp_seq ?_
    refine r_lit ?_
    refine s_val wkP F13 rfl rfl rfl rfl (y_move F13 rfl rfl) ?_; intro a14 F14; clear F13
    refine s_val wkP F14 rfl rfl rfl rfl (y_lenS F14 rfl Try.underlying22 rfl) ?_; intro a15 F15; clear F14
    refine s_val wkP F15 rfl rfl rfl rfl (y_move F15 rfl rfl) ?_; intro a16 F16; clear F15
    refine wpList_nil ?_
    refine c_then ?_
    refine wp_block ?_
    refine x_loop (G := Nat × List Mrk × List Mrk × Value × Value) (fun gg aa ww => match gg with | (k, A, B, sa, sb) => Fr ⟨68, []⟩ aa [(0, .slice p xs.length cp), (1, .int .i64 (n)), (4, .bool false), (16, .int .i64 (((xs.length : Nat) : Int))), (5, sa), (6, sb), (17, .int .i64 (((k : Nat) : Int)))] ∧ St w ww [HP.own 28 2 sb (B.length) (rows Mrk.cells B), HP.own 28 2 sa (A.length) (rows Mrk.cells A)] ∧ (k ≤ xs.length) ∧ (A.length ≤ k ∧ B.length ≤ 2 * k) ∧ (Up A) ∧ (Up B) ∧ (∀ x ∈ A, x.wf) ∧ (∀ x ∈ B, x.wf) ∧ (CanonM (· ∈ xs.take k) (pairs A)) ∧ (CanonM (· ∈ xs.drop (xs.length - k)) (pairs B))) (fun gg => match gg with | (k, A, B, sa, sb) => xs.length - k) (0, [], [], s10, s11) ⟨F16.cut _ ⟨rfl, rfl, rfl, rfl, rfl, rfl, rfl, trivial⟩, H11, Nat.zero_le _, by simp, List.Pairwise.nil, List.Pairwise.nil, (fun x hx => by cases hx), (fun x hx => by cases hx), CanonM.nil.congr (by simp), CanonM.nil.congr (by simp)⟩ ?_
    clear F16
    rintro ⟨k, A, B, sa, sb⟩ a17 w17 ⟨F17, H17, hk, hAl, huA, huB, hwA, hwB, hcA, hcB⟩
    refine wp_seq ?_
    refine r_lit ?_
    refine s_val wkP F17 rfl rfl rfl rfl (y_lss F17 rfl rfl rfl) ?_; intro a18 F18; clear F17
    refine wpList_nil ?_
    refine c_then ?_
    refine wp_seq ?_
    refine x_condP F18 rfl (fun hlt => ?_) (fun hlt => ?_)
    · skip
      refine wp_skip ?_
      refine c_then ?_
      refine wp_seq ?_
      refine wp_block ?_
      refine wp_seq ?_
      refine r_lit ?_
      refine s_val wkP F18 rfl rfl rfl rfl (y_move F18 rfl rfl) ?_; intro a20 F20; clear F18
      refine s_val wkP F20 rfl rfl rfl rfl (y_assign F20 rfl rfl) ?_; intro a21 F21; clear F20
      refine wpList_nil ?_
      refine c_then ?_
      refine wp_seq ?_
      refine r_lit ?_
      refine s_val wkP F21 rfl rfl rfl rfl (y_move F21 rfl rfl) ?_; intro a22 F22; clear F21
      refine s_val wkP F22 rfl rfl rfl rfl (y_move F22 rfl rfl) ?_; intro a23 F23; clear F22
      refine s_val wkP F23 rfl rfl rfl rfl (y_move F23 rfl rfl) ?_; intro a24 F24; clear F23
      obtain ⟨bb25, of25, hpe25, hrow25⟩ := hp (by omega)
      obtain ⟨x, mx⟩ : ∃ x, (xs)[k]? = some x := ⟨_, List.getElem?_eq_getElem (by first | omega | (simp only [List.length_set]; omega))⟩
      have hx := hw x (List.mem_of_getElem? mx)
      refine s_val wkP F24 rfl rfl rfl rfl (y_indexP F24 elemMark rfl rfl rfl hpe25 (by omega)) ?_; intro a27 F27; clear F24
      refine s_val wkP F27 rfl rfl rfl rfl (y_loadA F27 aggMark rfl rfl (Row.elem Mrk.len (hrow25.st H17) hw mx) (Mrk.len_cells hx)) ?_; intro a28 F28; clear F27
      have hlta := (addM_len A x).2
      refine s_call wkP F28 rfl rfl rfl rfl (y_call F28 rfl rfl ent11) (add _ (hwA) (by omega) _ x hx _ (H17.sl 1 rfl)) ?_; intro ta w29 a29 hR29 F29; clear F28
      have H29 : St w w29 [HP.own 28 2 ta ((addM A x).length) (rows Mrk.cells (addM A x)), HP.own 28 2 sb (B.length) (rows Mrk.cells B)] := (H17.call hR29).pick [0, 1] (by decide) rfl
      refine s_val wkP F29 rfl rfl rfl rfl (y_assign F29 rfl rfl) ?_; intro a30 F30; clear F29
      refine wpList_nil ?_
      refine c_then ?_
      refine wp_seq ?_
      refine r_lit ?_
      refine s_val wkP F30 rfl rfl rfl rfl (y_move F30 rfl rfl) ?_; intro a31 F31; clear F30
      refine s_val wkP F31 rfl rfl rfl rfl (y_move F31 rfl rfl) ?_; intro a32 F32; clear F31
      refine s_val wkP F32 rfl rfl rfl rfl (y_move F32 rfl rfl) ?_; intro a33 F33; clear F32
      refine s_val wkP F33 rfl rfl rfl rfl (y_lenS F33 rfl Try.underlying22 rfl) ?_; intro a34 F34; clear F33
      refine s_val wkP F34 rfl rfl rfl rfl (y_sub F34 rfl rfl rfl (r := ((xs.length - 1 : Nat) : Int)) (wrap_i64 (by omega) (by omega) (by omega))) ?_; intro a35 F35; clear F34
      refine s_val wkP F35 rfl rfl rfl rfl (y_move F35 rfl rfl) ?_; intro a36 F36; clear F35
      refine s_val wkP F36 rfl rfl rfl rfl (y_sub F36 rfl rfl rfl (r := ((xs.length - 1 - k : Nat) : Int)) (wrap_i64 (by omega) (by omega) (by omega))) ?_; intro a37 F37; clear F36
      obtain ⟨y, my⟩ : ∃ x, (xs)[xs.length - 1 - k]? = some x := ⟨_, List.getElem?_eq_getElem (by first | omega | (simp only [List.length_set]; omega))⟩
      have hy := hw y (List.mem_of_getElem? my)
      refine s_val wkP F37 rfl rfl rfl rfl (y_indexP F37 elemMark rfl rfl rfl hpe25 (by omega)) ?_; intro a39 F39; clear F37
      refine s_val wkP F39 rfl rfl rfl rfl (y_loadA F39 aggMark rfl rfl (Row.elem Mrk.len (hrow25.st H29) hw my) (Mrk.len_cells hy)) ?_; intro a40 F40; clear F39
      have hltb := (addM_len B y).2
      refine s_call wkP F40 rfl rfl rfl rfl (y_call F40 rfl rfl ent11) (add _ (hwB) (by omega) _ y hy _ (H29.sl 1 rfl)) ?_; intro tb w41 a41 hR41 F41; clear F40
      have H41 : St w w41 [HP.own 28 2 tb ((addM B y).length) (rows Mrk.cells (addM B y)), HP.own 28 2 ta ((addM A x).length) (rows Mrk.cells (addM A x))] := (H29.call hR41).pick [0, 1] (by decide) rfl
      refine s_val wkP F41 rfl rfl rfl rfl (y_assign F41 rfl rfl) ?_; intro a42 F42; clear F41
      refine wpList_nil ?_
      refine c_then ?_
      refine r_lit ?_
      refine s_val wkP F42 rfl rfl rfl rfl (y_move F42 rfl rfl) ?_; intro a43 F43; clear F42
      refine s_val wkP F43 rfl rfl rfl rfl (y_move F43 rfl rfl) ?_; intro a44 F44; clear F43
      refine s_val wkP F44 rfl rfl rfl rfl (y_move F44 rfl rfl) ?_; intro a45 F45; clear F44
      refine s_val wkP F45 rfl rfl rfl rfl (y_lenS F45 rfl Try.underlying22 rfl) ?_; intro a46 F46; clear F45
      refine s_val wkP F46 rfl rfl rfl rfl (y_sub F46 rfl rfl rfl (r := ((xs.length - 1 : Nat) : Int)) (wrap_i64 (by omega) (by omega) (by omega))) ?_; intro a47 F47; clear F46
      refine s_val wkP F47 rfl rfl rfl rfl (y_move F47 rfl rfl) ?_; intro a48 F48; clear F47
      refine s_val wkP F48 rfl rfl rfl rfl (y_sub F48 rfl rfl rfl (r := ((xs.length - 1 - k : Nat) : Int)) (wrap_i64 (by omega) (by omega) (by omega))) ?_; intro a49 F49; clear F48
      refine s_val wkP F49 rfl rfl rfl rfl (y_indexP F49 elemMark rfl rfl rfl hpe25 (by omega)) ?_; intro a50 F50; clear F49
      refine s_val wkP F50 rfl rfl rfl rfl (y_loadA F50 aggMark rfl rfl (Row.elem Mrk.len (hrow25.st H41) hw my) (Mrk.len_cells hy)) ?_; intro a51 F51; clear F50
      have hltc := (addM_len (addM B y) y).2
      refine s_call wkP F51 rfl rfl rfl rfl (y_call F51 rfl rfl ent11) (add _ (addM_wf hwB hy) (by omega) _ y hy _ (H41.sl 0 rfl)) ?_; intro tc w52 a52 hR52 F52; clear F51
      have H52 : St w w52 [HP.own 28 2 tc ((addM (addM B y) y).length) (rows Mrk.cells (addM (addM B y) y)), HP.own 28 2 ta ((addM A x).length) (rows Mrk.cells (addM A x))] := (H41.call hR52).pick [0, 2] (by decide) rfl
      refine s_val wkP F52 rfl rfl rfl rfl (y_assign F52 rfl rfl) ?_; intro a53 F53; clear F52
      refine wpList_nil ?_
      refine c_blkN ?_
      refine c_then ?_
      refine r_lit ?_
      refine s_val wkP F53 rfl rfl rfl rfl (y_add F53 rfl rfl rfl (r := (((k : Nat) : Int)) + (1)) (wrap_i64 (by omega) (by omega) (by omega))) ?_; intro a54 F54; clear F53
      refine s_val wkP F54 rfl rfl rfl rfl (y_move F54 rfl rfl) ?_; intro a55 F55; clear F54
      refine wpList_nil ?_
      refine c_then ?_
      exact ⟨(k + 1, addM A x, addM (addM B y) y, ta, tc), ⟨F55.cut _ ⟨rfl, rfl, rfl, rfl, rfl, rfl, rfl, trivial⟩, H52, by omega, by omega, addM_up huA x, addM_up (addM_up huB y) y, addM_wf hwA hx, addM_wf (addM_wf hwB hy) hy, (pairs_canon hcA huA x).congr (mem_take_succ mx), (pairs_canon (pairs_canon hcB huB y) (addM_up huB y) y).congr (mem_drop_pred hlt my)⟩, by first | omega | (dsimp only; omega)⟩
    · skip
      refine wp_exit ?_
      refine c_thenX ?_
      refine c_thenX ?_
      refine c_hit ?_
      refine c_then ?_
      refine wp_seq ?_
      obtain rfl : k = xs.length := by omega
      rw [List.take_length] at hcA
      rw [Nat.sub_self, List.drop_zero] at hcB
      have hAB : A = B := canon_eq hcA hcB huA huB
      refine r_lit ?_
      refine s_val wkP F18 rfl rfl rfl rfl (y_move F18 rfl rfl) ?_; intro a56 F56; clear F18
      refine s_val wkP F56 rfl rfl rfl rfl (y_move F56 rfl rfl) ?_; intro a57 F57; clear F56
      refine s_callV wkP F57 rfl rfl rfl rfl (y_call F57 rfl rfl ent12) (same A B hwA hwB (by omega) _ _ _ (H17.sl 1 rfl) (H17.sl 0 rfl)) ?_; intro w58 a58 hR58 F58; clear F57
      have H58 : St w w58 [HP.own 28 2 sb (B.length) (rows Mrk.cells B), HP.own 28 2 sa (A.length) (rows Mrk.cells A)] := H17.call hR58
      refine s_val wkP F58 rfl rfl rfl rfl (y_move F58 rfl rfl) ?_; intro a59 F59; clear F58
      refine g_split (k := 50) F59 rfl (fun hgs F60 => ?_) (fun hgs F60 => ?_)
      · clear F59
        refine g_onP F60 rfl rfl rfl rfl ?_
        refine s_val wkP F60 rfl rfl rfl rfl (y_move F60 rfl rfl) ?_; intro a61 F61; clear F60
        refine g_onP F61 rfl rfl rfl rfl ?_
        refine s_val wkP F61 rfl rfl rfl rfl (y_move F61 rfl rfl) ?_; intro a62 F62; clear F61
        refine g_onP F62 rfl rfl rfl rfl ?_
        refine s_call wkP F62 rfl rfl rfl rfl (y_call F62 rfl rfl ent9) (commit A (hwA) (by omega) n hn1 hn2 _ _ (H58.sl 1 rfl)) ?_; intro vc1 w63 a63 hR63 F63; clear F62
        obtain ⟨c1, rfl, hc1, hEc1⟩ := hR63
        have H63 : St w w63 [HP.own 28 2 sb (B.length) (rows Mrk.cells B), HP.own 28 2 sa (A.length) (rows Mrk.cells A)] := H58.call hEc1
        refine g_onP F63 rfl rfl rfl rfl ?_
        refine s_val wkP F63 rfl rfl rfl rfl (y_move F63 rfl rfl) ?_; intro a64 F64; clear F63
        refine g_onP F64 rfl rfl rfl rfl ?_
        refine s_val wkP F64 rfl rfl rfl rfl (y_move F64 rfl rfl) ?_; intro a65 F65; clear F64
        refine g_onP F65 rfl rfl rfl rfl ?_
        refine s_call wkP F65 rfl rfl rfl rfl (y_call F65 rfl rfl ent9) (commit B (hwB) (by omega) n hn1 hn2 _ _ (H63.sl 0 rfl)) ?_; intro vc2 w66 a66 hR66 F66; clear F65
        obtain ⟨c2, rfl, hc2, hEc2⟩ := hR66
        have H66 : St w w66 [HP.own 28 2 sb (B.length) (rows Mrk.cells B), HP.own 28 2 sa (A.length) (rows Mrk.cells A)] := H63.call hEc2
        refine g_onP F66 rfl rfl rfl rfl ?_
        refine s_val wkP F66 rfl rfl rfl rfl (y_eql F66 rfl rfl rfl) ?_; intro a67 F67; clear F66
        refine s_val wkP F67 rfl rfl rfl rfl (y_pickT F67 rfl rfl rfl) ?_; intro a68 F68; clear F67
        refine s_val wkP F68 rfl rfl rfl rfl (y_move F68 rfl rfl) ?_; intro a69 F69; clear F68
        refine g_split (k := 59) F69 rfl (fun hgc F70 => ?_) (fun hgc F70 => ?_)
        · clear F69
          refine g_onP F70 rfl rfl rfl rfl ?_
          refine s_val wkP F70 rfl rfl rfl rfl (y_move F70 rfl rfl) ?_; intro a71 F71; clear F70
          refine g_onP F71 rfl rfl rfl rfl ?_
          refine s_val wkP F71 rfl rfl rfl rfl (y_move F71 rfl rfl) ?_; intro a72 F72; clear F71
          refine g_onP F72 rfl rfl rfl rfl ?_
          refine s_call wkP F72 rfl rfl rfl rfl (y_call F72 rfl rfl ent9) (commit xs (hw) (by omega) n hn1 hn2 _ _ (hs.st H66)) ?_; intro vc3 w73 a73 hR73 F73; clear F72
          obtain ⟨c3, rfl, hc3, hEc3⟩ := hR73
          have H73 : St w w73 [HP.own 28 2 sb (B.length) (rows Mrk.cells B), HP.own 28 2 sa (A.length) (rows Mrk.cells A)] := H66.call hEc3
          refine g_onP F73 rfl rfl rfl rfl ?_
          refine s_val wkP F73 rfl rfl rfl rfl (y_move F73 rfl rfl) ?_; intro a74 F74; clear F73
          refine g_onP F74 rfl rfl rfl rfl ?_
          refine s_val wkP F74 rfl rfl rfl rfl (y_move F74 rfl rfl) ?_; intro a75 F75; clear F74
          refine g_onP F75 rfl rfl rfl rfl ?_
          refine s_call wkP F75 rfl rfl rfl rfl (y_call F75 rfl rfl ent9) (commit A (hwA) (by omega) n hn1 hn2 _ _ (H73.sl 1 rfl)) ?_; intro vc4 w76 a76 hR76 F76; clear F75
          obtain ⟨c4, rfl, hc4, hEc4⟩ := hR76
          have H76 : St w w76 [HP.own 28 2 sb (B.length) (rows Mrk.cells B), HP.own 28 2 sa (A.length) (rows Mrk.cells A)] := H73.call hEc4
          refine g_onP F76 rfl rfl rfl rfl ?_
          refine s_val wkP F76 rfl rfl rfl rfl (y_eql F76 rfl rfl rfl) ?_; intro a77 F77; clear F76
          refine s_val wkP F77 rfl rfl rfl rfl (y_pickT F77 rfl rfl rfl) ?_; intro a78 F78; clear F77
          refine s_val wkP F78 rfl rfl rfl rfl (y_assign F78 rfl rfl) ?_; intro a79 F79; clear F78
          refine wpList_nil ?_
          refine c_then ?_
          refine wp_ret ?_
          refine x_ret1 F79 rfl rfl ?_
          exact ⟨ret_bool (decide_eq_true (com_order hcA huA hw hwA hc3 hc4)), H76.below⟩
        · clear F69
          exact absurd (by subst hAB; exact hc1.uniq hc2) hgc
      · clear F59
        exact absurd hAB hgs
end Go.Proofs.Ytchcoenpnmgnhaa
