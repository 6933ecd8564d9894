/- pdqsort, Sort. -/
import Derived.Test.YtchcoenpnmgnhaaTalQ2
set_option linter.unusedSimpArgs false
set_option linter.unusedVariables false
namespace Go.Proofs.Ytchcoenpnmgnhaa
open Go.ChangeShapes Go.WideShapes Go.ChangeAt Go.RowKit Go.Tri
theorem ent32 : ∀ args w, (callFunc 32 args).run Try.prog w = .ok (.enter 32 args) w := enters Try.func32 (by kernel_rfl) rfl
set_option maxRecDepth 100000 in
set_option maxHeartbeats 4000000 in
theorem pdqF_ind : ∀ (d : Nat) {w0 w : World} {ls : List HP} {p : Option Addr} {n cap : Nat} (xs : List Int) (hn : xs.length = n) (hn1 : n ≤ 1000000) (a b : Nat) (lim : Int) (hab : a ≤ b) (hbn : b ≤ n) (hl0 : 0 ≤ lim) (hl1 : lim ≤ 1000) (hlo0 : Lo ltI a b xs) (H : St w0 w (HP.own 24 1 (.slice p n cap) (n) (rows (inC .u64) xs) :: ls)), b - a < d →
    Calls Try.prog 32 [.slice p n cap, .int .i64 (a : Int), .int .i64 (b : Int), .int .i64 lim].toArray w (fun e w' => ∃ v, e = .returned v ∧ ∃ ys, v = .tuple #[] ∧ (Seg a b xs ys ∧ Srt ltI a b ys) ∧ St w0 w' (HP.own 24 1 (.slice p n cap) (n) (rows (inC .u64) ys) :: ls)) := by
  intro d
  induction d with
  | zero => intros; omega
  | succ d ih =>
    intro w0 w ls p n cap xs hn hn1 a b lim hab hbn hl0 hl1 hlo0 H hd
    have hp := (H.ownP 0 rfl).2.2
    refine x_enter Try.func32 rfl rfl rfl ?_
    intro a0 F0
    replace F0 : Fr ⟨134, []⟩ a0 [(0, .slice p n cap), (1, .int .i64 (a : Int)), (2, .int .i64 (b : Int)), (3, .int .i64 lim)] := F0
    have H0 : St w0 w ([HP.own 24 1 (.slice p n cap) (n) (rows (inC .u64) xs)] ++ ls) := H
    refine wp_seq ?_
    refine r_lit ?_
    refine s_val wkP F0 rfl rfl rfl rfl (y_assign F0 rfl rfl) ?_; intro a1 F1; clear F0
    refine wpList_nil ?_
    refine c_then ?_
    refine wp_seq ?_
    refine r_lit ?_
    refine s_val wkP F1 rfl rfl rfl rfl (y_assign F1 rfl rfl) ?_; intro a2 F2; clear F1
    refine wpList_nil ?_
    refine c_then ?_
    refine wp_block ?_
    refine x_loop (G := Nat × Nat × Int × List Int × Bool × Bool) (fun gg aa ww => match gg with | (al, be, li, ys, wb, wp) => Fr ⟨134, []⟩ aa [(0, .slice p n cap), (1, .int .i64 (((al : Nat) : Int))), (2, .int .i64 (((be : Nat) : Int))), (3, .int .i64 (li)), (8, .bool (wb)), (9, .bool (wp))] ∧ St w0 ww ([HP.own 24 1 (.slice p n cap) (n) (rows (inC .u64) ys)] ++ ls) ∧ (a ≤ al ∧ al ≤ be ∧ be ≤ b) ∧ (0 ≤ li ∧ li ≤ 1000) ∧ (Seg a b xs ys) ∧ (ys.length = n) ∧ (Done ltI a b al be ys) ∧ (Lo ltI al be ys)) (fun gg => match gg with | (al, be, li, ys, wb, wp) => be - al) (a, b, lim, xs, true, true) ⟨F2.cut _ ⟨rfl, rfl, rfl, rfl, rfl, rfl, trivial⟩, H0, by omega, by omega, Seg.refl _ _ _, hn, Done.start, hlo0⟩ ?_
    clear F2
    rintro ⟨al, be, li, ys, wb, wp⟩ a3 w3 ⟨F3, H3, hr, hli, hsg, hyl, hdn, hlo⟩
    refine wp_block ?_
    refine wp_seq ?_
    refine r_lit ?_
    refine s_val wkP F3 rfl rfl rfl rfl (y_move F3 rfl rfl) ?_; intro a4 F4; clear F3
    refine s_val wkP F4 rfl rfl rfl rfl (y_move F4 rfl rfl) ?_; intro a5 F5; clear F4
    refine s_val wkP F5 rfl rfl rfl rfl (y_sub F5 rfl rfl rfl (r := ((be - al : Nat) : Int)) (wrap_i64 (by omega) (by omega) (by omega))) ?_; intro a6 F6; clear F5
    refine s_val wkP F6 rfl rfl rfl rfl (y_assign F6 rfl rfl) ?_; intro a7 F7; clear F6
    refine wpList_nil ?_
    refine c_then ?_
    refine wp_seq ?_
    refine wp_seq ?_
    refine r_lit ?_
    refine s_val wkP F7 rfl rfl rfl rfl (y_move F7 rfl rfl) ?_; intro a8 F8; clear F7
    refine s_val wkP F8 rfl rfl rfl rfl (y_leq F8 rfl rfl rfl) ?_; intro a9 F9; clear F8
    refine wpList_nil ?_
    refine c_then ?_
    refine x_condP F9 rfl (fun hsm => ?_) (fun hsm => ?_)
    · skip
      refine wp_seq ?_
      refine r_lit ?_
      refine s_val wkP F9 rfl rfl rfl rfl (y_move F9 rfl rfl) ?_; intro a11 F11; clear F9
      refine s_val wkP F11 rfl rfl rfl rfl (y_move F11 rfl rfl) ?_; intro a12 F12; clear F11
      refine s_val wkP F12 rfl rfl rfl rfl (y_move F12 rfl rfl) ?_; intro a13 F13; clear F12
      refine s_call wkP F13 rfl rfl rfl rfl (y_call F13 rfl rfl ent35) (insSort (ls := ls) ys hyl hn1 al be (by omega) (by omega) H3) ?_; intro v14 w14 a14 hR14 F14; clear F13
      obtain ⟨ys14, rfl, ⟨hs14, hr14⟩, H14⟩ := hR14
      replace H14 : St w0 w14 ([HP.own 24 1 (.slice p n cap) (n) (rows (inC .u64) ys14)] ++ ls) := H14
      have hl14 : ys14.length = n := hs14.len.trans hyl
      refine wpList_nil ?_
      refine c_then ?_
      refine wp_ret ?_
      refine c_thenR ?_
      refine c_blkR ?_
      refine c_thenR ?_
      refine c_blkR ?_
      refine x_ret0 F14 rfl ?_
      exact ⟨_, rfl, _, rfl, ⟨hsg.trans (hs14.wide (by omega) (by omega)), (hdn.seg hs14 (by omega) (by omega)).full hr14⟩, H14⟩
    · skip
      refine wp_skip ?_
      refine c_then ?_
      refine wp_seq ?_
      refine wp_seq ?_
      refine r_lit ?_
      refine s_val wkP F9 rfl rfl rfl rfl (y_move F9 rfl rfl) ?_; intro a15 F15; clear F9
      refine s_val wkP F15 rfl rfl rfl rfl (y_eql F15 rfl rfl rfl) ?_; intro a16 F16; clear F15
      refine wpList_nil ?_
      refine c_then ?_
      refine x_condP F16 rfl (fun hl0 => ?_) (fun hl0 => ?_)
      · skip
        refine wp_seq ?_
        refine r_lit ?_
        refine s_val wkP F16 rfl rfl rfl rfl (y_move F16 rfl rfl) ?_; intro a18 F18; clear F16
        refine s_val wkP F18 rfl rfl rfl rfl (y_move F18 rfl rfl) ?_; intro a19 F19; clear F18
        refine s_val wkP F19 rfl rfl rfl rfl (y_move F19 rfl rfl) ?_; intro a20 F20; clear F19
        refine s_call wkP F20 rfl rfl rfl rfl (y_call F20 rfl rfl ent36) (heapSort (ls := ls) ys hyl hn1 al be (by omega) (by omega) H3) ?_; intro v21 w21 a21 hR21 F21; clear F20
        obtain ⟨ys21, rfl, ⟨hs21, hr21⟩, H21⟩ := hR21
        replace H21 : St w0 w21 ([HP.own 24 1 (.slice p n cap) (n) (rows (inC .u64) ys21)] ++ ls) := H21
        have hl21 : ys21.length = n := hs21.len.trans hyl
        refine wpList_nil ?_
        refine c_then ?_
        refine wp_ret ?_
        refine c_thenR ?_
        refine c_blkR ?_
        refine c_thenR ?_
        refine c_blkR ?_
        refine x_ret0 F21 rfl ?_
        exact ⟨_, rfl, _, rfl, ⟨hsg.trans (hs21.wide (by omega) (by omega)), (hdn.seg hs21 (by omega) (by omega)).full hr21⟩, H21⟩
      · skip
        refine wp_skip ?_
        refine c_then ?_
        refine x_seqM (fun aa ww => ∃ (zs : List Int) (li2 : Int), Fr ⟨134, []⟩ aa [(0, .slice p n cap), (1, .int .i64 (((al : Nat) : Int))), (2, .int .i64 (((be : Nat) : Int))), (8, .bool (wb)), (9, .bool (wp)), (10, .int .i64 (((be - al : Nat) : Int))), (19, .int .i64 (((be : Nat) : Int))), (20, .int .i64 (((al : Nat) : Int))), (21, .int .i64 (((be - al : Nat) : Int))), (22, .int .i64 (((be - al : Nat) : Int))), (23, .bool (decide ((((be - al : Nat) : Int)) ≤ (12)))), (28, .int .i64 (li)), (29, .bool (decide ((li) = (0)))), (3, .int .i64 (li2))] ∧ St w0 ww ([HP.own 24 1 (.slice p n cap) (n) (rows (inC .u64) zs)] ++ ls) ∧ (0 ≤ li2 ∧ li2 ≤ 1000) ∧ (Seg a b xs zs) ∧ (zs.length = n) ∧ (Done ltI a b al be zs) ∧ (Lo ltI al be zs)) ?_ ?_
        · skip
          refine wp_seq ?_
          refine r_lit ?_
          refine s_val wkP F16 rfl rfl rfl rfl (y_move F16 rfl rfl) ?_; intro a23 F23; clear F16
          refine s_val wkP F23 rfl rfl rfl rfl (y_not F23 rfl rfl) ?_; intro a24 F24; clear F23
          refine wpList_nil ?_
          refine c_then ?_
          refine x_cond F24 rfl (fun hnb => ?_) (fun hnb => ?_)
          · skip
            refine wp_seq ?_
            refine r_lit ?_
            refine s_val wkP F24 rfl rfl rfl rfl (y_move F24 rfl rfl) ?_; intro a26 F26; clear F24
            refine s_val wkP F26 rfl rfl rfl rfl (y_move F26 rfl rfl) ?_; intro a27 F27; clear F26
            refine s_val wkP F27 rfl rfl rfl rfl (y_move F27 rfl rfl) ?_; intro a28 F28; clear F27
            refine s_call wkP F28 rfl rfl rfl rfl (y_call F28 rfl rfl ent37) (breakPatterns (ls := ls) ys hyl hn1 al be (by omega) (by omega) H3) ?_; intro v29 w29 a29 hR29 F29; clear F28
            obtain ⟨ys29, rfl, hs29, H29⟩ := hR29
            replace H29 : St w0 w29 ([HP.own 24 1 (.slice p n cap) (n) (rows (inC .u64) ys29)] ++ ls) := H29
            have hl29 : ys29.length = n := hs29.len.trans hyl
            refine wpList_nil ?_
            refine c_then ?_
            refine r_lit ?_
            refine s_val wkP F29 rfl rfl rfl rfl (y_move F29 rfl rfl) ?_; intro a30 F30; clear F29
            refine s_val wkP F30 rfl rfl rfl rfl (y_sub F30 rfl rfl rfl (r := (li) - (1)) (wrap_i64 (by omega) (by omega) (by omega))) ?_; intro a31 F31; clear F30
            refine s_val wkP F31 rfl rfl rfl rfl (y_assign F31 rfl rfl) ?_; intro a32 F32; clear F31
            refine wpList_nil ?_
            refine c_then ?_
            exact ⟨ys29, (li) - (1), F32.cut _ ⟨rfl, rfl, rfl, rfl, rfl, rfl, rfl, rfl, rfl, rfl, rfl, rfl, rfl, rfl, trivial⟩, H29, by omega, hsg.trans (hs29.wide (by omega) (by omega)), hl29, hdn.seg hs29 (by omega) (by omega), hlo.seg hs29⟩
          · skip
            refine wp_skip ?_
            refine c_then ?_
            exact ⟨ys, li, F24.cut _ ⟨rfl, rfl, rfl, rfl, rfl, rfl, rfl, rfl, rfl, rfl, rfl, rfl, rfl, rfl, trivial⟩, H3, by omega, hsg, hyl, hdn, hlo⟩
        · skip
          clear F16
          rintro a22 w22 ⟨zs, li2, F22, H22, hli2, hsz, hzl, hdz, hlz⟩
          refine wp_seq ?_
          refine r_lit ?_
          refine s_val wkP F22 rfl rfl rfl rfl (y_move F22 rfl rfl) ?_; intro a33 F33; clear F22
          refine s_val wkP F33 rfl rfl rfl rfl (y_move F33 rfl rfl) ?_; intro a34 F34; clear F33
          refine s_val wkP F34 rfl rfl rfl rfl (y_move F34 rfl rfl) ?_; intro a35 F35; clear F34
          refine s_call wkP F35 rfl rfl rfl rfl (y_call F35 rfl rfl ent38) (choosePivot (ls := ls) zs hzl hn1 al be (by omega) (by omega) H22) ?_; intro v36 w36 a36 hR36 F36; clear F35
          obtain ⟨pv, hint, rfl, hpv, H36⟩ := hR36
          replace H36 : St w0 w36 ([HP.own 24 1 (.slice p n cap) (n) (rows (inC .u64) zs)] ++ ls) := H36
          refine s_val wkP F36 rfl rfl rfl rfl (y_move F36 rfl rfl) ?_; intro a37 F37; clear F36
          refine s_val wkP F37 rfl rfl rfl rfl (y_extract F37 rfl rfl rfl) ?_; intro a38 F38; clear F37
          refine s_val wkP F38 rfl rfl rfl rfl (y_extract F38 rfl rfl rfl) ?_; intro a39 F39; clear F38
          refine s_val wkP F39 rfl rfl rfl rfl (y_assign F39 rfl rfl) ?_; intro a40 F40; clear F39
          refine s_val wkP F40 rfl rfl rfl rfl (y_assign F40 rfl rfl) ?_; intro a41 F41; clear F40
          refine wpList_nil ?_
          refine c_then ?_
          refine x_seqM (fun aa ww => ∃ (us : List Int) (pv2 : Nat) (hint2 : Int), Fr ⟨134, []⟩ aa [(0, .slice p n cap), (1, .int .i64 (((al : Nat) : Int))), (2, .int .i64 (((be : Nat) : Int))), (3, .int .i64 (li2)), (8, .bool (wb)), (9, .bool (wp)), (10, .int .i64 (((be - al : Nat) : Int))), (19, .int .i64 (((be : Nat) : Int))), (20, .int .i64 (((al : Nat) : Int))), (21, .int .i64 (((be - al : Nat) : Int))), (22, .int .i64 (((be - al : Nat) : Int))), (23, .bool (decide ((((be - al : Nat) : Int)) ≤ (12)))), (28, .int .i64 (li)), (29, .bool (decide ((li) = (0)))), (43, .slice p n cap), (44, .int .i64 (((al : Nat) : Int))), (45, .int .i64 (((be : Nat) : Int))), (47, .int .i64 (((pv : Nat) : Int))), (48, .int .i64 (hint)), (11, .int .i64 (((pv2 : Nat) : Int))), (12, .int .i64 (hint2))] ∧ St w0 ww ([HP.own 24 1 (.slice p n cap) (n) (rows (inC .u64) us)] ++ ls) ∧ (al ≤ pv2 ∧ pv2 < be) ∧ (Seg a b xs us) ∧ (us.length = n) ∧ (Done ltI a b al be us) ∧ (Lo ltI al be us)) ?_ ?_
          · skip
            refine wp_seq ?_
            refine r_lit ?_
            refine s_val wkP F41 rfl rfl rfl rfl (y_move F41 rfl rfl) ?_; intro a43 F43; clear F41
            refine s_val wkP F43 rfl rfl rfl rfl (y_eql F43 rfl rfl rfl) ?_; intro a44 F44; clear F43
            refine wpList_nil ?_
            refine c_then ?_
            refine x_condP F44 rfl (fun hh2 => ?_) (fun hh2 => ?_)
            · skip
              refine wp_seq ?_
              refine r_lit ?_
              refine s_val wkP F44 rfl rfl rfl rfl (y_move F44 rfl rfl) ?_; intro a46 F46; clear F44
              refine s_val wkP F46 rfl rfl rfl rfl (y_move F46 rfl rfl) ?_; intro a47 F47; clear F46
              refine s_val wkP F47 rfl rfl rfl rfl (y_move F47 rfl rfl) ?_; intro a48 F48; clear F47
              refine s_call wkP F48 rfl rfl rfl rfl (y_call F48 rfl rfl ent39) (reverseRange (ls := ls) zs hzl hn1 al be (by omega) (by omega) H36) ?_; intro v49 w49 a49 hR49 F49; clear F48
              obtain ⟨ys49, rfl, hs49, H49⟩ := hR49
              replace H49 : St w0 w49 ([HP.own 24 1 (.slice p n cap) (n) (rows (inC .u64) ys49)] ++ ls) := H49
              have hl49 : ys49.length = n := hs49.len.trans hzl
              refine wpList_nil ?_
              refine c_then ?_
              refine wp_seq ?_
              refine r_lit ?_
              refine s_val wkP F49 rfl rfl rfl rfl (y_move F49 rfl rfl) ?_; intro a50 F50; clear F49
              refine s_val wkP F50 rfl rfl rfl rfl (y_sub F50 rfl rfl rfl (r := ((be - 1 : Nat) : Int)) (wrap_i64 (by omega) (by omega) (by omega))) ?_; intro a51 F51; clear F50
              refine s_val wkP F51 rfl rfl rfl rfl (y_move F51 rfl rfl) ?_; intro a52 F52; clear F51
              refine s_val wkP F52 rfl rfl rfl rfl (y_move F52 rfl rfl) ?_; intro a53 F53; clear F52
              refine s_val wkP F53 rfl rfl rfl rfl (y_sub F53 rfl rfl rfl (r := ((pv - al : Nat) : Int)) (wrap_i64 (by omega) (by omega) (by omega))) ?_; intro a54 F54; clear F53
              refine s_val wkP F54 rfl rfl rfl rfl (y_sub F54 rfl rfl rfl (r := ((be - 1 - (pv - al) : Nat) : Int)) (wrap_i64 (by omega) (by omega) (by omega))) ?_; intro a55 F55; clear F54
              refine s_val wkP F55 rfl rfl rfl rfl (y_assign F55 rfl rfl) ?_; intro a56 F56; clear F55
              refine wpList_nil ?_
              refine c_then ?_
              refine r_lit ?_
              refine s_val wkP F56 rfl rfl rfl rfl (y_assign F56 rfl rfl) ?_; intro a57 F57; clear F56
              refine wpList_nil ?_
              refine c_then ?_
              exact ⟨ys49, be - 1 - (pv - al), 1, F57.cut _ ⟨rfl, rfl, rfl, rfl, rfl, rfl, rfl, rfl, rfl, rfl, rfl, rfl, rfl, rfl, rfl, rfl, rfl, rfl, rfl, rfl, rfl, trivial⟩, H49, by omega, hsz.trans (hs49.wide (by omega) (by omega)), hl49, hdz.seg hs49 (by omega) (by omega), hlz.seg hs49⟩
            · skip
              refine wp_skip ?_
              refine c_then ?_
              exact ⟨zs, pv, hint, F44.cut _ ⟨rfl, rfl, rfl, rfl, rfl, rfl, rfl, rfl, rfl, rfl, rfl, rfl, rfl, rfl, rfl, rfl, rfl, rfl, rfl, rfl, rfl, trivial⟩, H36, by omega, hsz, hzl, hdz, hlz⟩
          · skip
            clear F41
            rintro a42 w42 ⟨us, pv2, hint2, F42, H42, hpv2, hsu, hul, hdu, hlu⟩
            refine x_seqM (fun aa ww => ∃ vs : List Int, Fr ⟨134, []⟩ aa [(0, .slice p n cap), (1, .int .i64 (((al : Nat) : Int))), (2, .int .i64 (((be : Nat) : Int))), (3, .int .i64 (li2)), (8, .bool (wb)), (9, .bool (wp)), (10, .int .i64 (((be - al : Nat) : Int))), (11, .int .i64 (((pv2 : Nat) : Int))), (12, .int .i64 (hint2)), (19, .int .i64 (((be : Nat) : Int))), (20, .int .i64 (((al : Nat) : Int))), (21, .int .i64 (((be - al : Nat) : Int))), (22, .int .i64 (((be - al : Nat) : Int))), (23, .bool (decide ((((be - al : Nat) : Int)) ≤ (12)))), (28, .int .i64 (li)), (29, .bool (decide ((li) = (0)))), (43, .slice p n cap), (44, .int .i64 (((al : Nat) : Int))), (45, .int .i64 (((be : Nat) : Int))), (47, .int .i64 (((pv : Nat) : Int))), (48, .int .i64 (hint))] ∧ St w0 ww ([HP.own 24 1 (.slice p n cap) (n) (rows (inC .u64) vs)] ++ ls) ∧ (Seg a b xs vs) ∧ (vs.length = n) ∧ (Done ltI a b al be vs) ∧ (Lo ltI al be vs)) ?_ ?_
            · skip
              refine wp_seq ?_
              refine r_lit ?_
              refine s_val wkP F42 rfl rfl rfl rfl (y_move F42 rfl rfl) ?_; intro a59 F59; clear F42
              refine s_val wkP F59 rfl rfl rfl rfl (y_move F59 rfl rfl) ?_; intro a60 F60; clear F59
              refine g_splitB (k := 62) F60 rfl (fun hg61 F61 => ?_) (fun hg61 F61 => ?_)
              · clear F60
                refine g_onP F61 rfl rfl rfl rfl ?_
                refine s_val wkP F61 rfl rfl rfl rfl (y_move F61 rfl rfl) ?_; intro a62 F62; clear F61
                refine s_val wkP F62 rfl rfl rfl rfl (y_pickT F62 rfl rfl rfl) ?_; intro a63 F63; clear F62
                refine s_val wkP F63 rfl rfl rfl rfl (y_move F63 rfl rfl) ?_; intro a64 F64; clear F63
                refine g_splitB (k := 65) F64 rfl (fun hg65 F65 => ?_) (fun hg65 F65 => ?_)
                · clear F64
                  refine g_onP F65 rfl rfl rfl rfl ?_
                  refine s_val wkP F65 rfl rfl rfl rfl (y_move F65 rfl rfl) ?_; intro a66 F66; clear F65
                  refine g_onP F66 rfl rfl rfl rfl ?_
                  refine s_val wkP F66 rfl rfl rfl rfl (y_eql F66 rfl rfl rfl) ?_; intro a67 F67; clear F66
                  refine s_val wkP F67 rfl rfl rfl rfl (y_pickT F67 rfl rfl rfl) ?_; intro a68 F68; clear F67
                  refine wpList_nil ?_
                  refine c_then ?_
                  refine x_condP F68 rfl (fun hc15 => ?_) (fun hc15 => ?_)
                  · skip
                    refine wp_seq ?_
                    refine r_lit ?_
                    refine s_val wkP F68 rfl rfl rfl rfl (y_move F68 rfl rfl) ?_; intro a70 F70; clear F68
                    refine s_val wkP F70 rfl rfl rfl rfl (y_move F70 rfl rfl) ?_; intro a71 F71; clear F70
                    refine s_val wkP F71 rfl rfl rfl rfl (y_move F71 rfl rfl) ?_; intro a72 F72; clear F71
                    refine s_call wkP F72 rfl rfl rfl rfl (y_call F72 rfl rfl ent40) (partialIns (ls := ls) us hul hn1 al be (by omega) (by omega) hlu H42) ?_; intro v73 w73 a73 hR73 F73; clear F72
                    obtain ⟨ys73, bb, rfl, ⟨hs73, hr73⟩, H73⟩ := hR73
                    replace H73 : St w0 w73 ([HP.own 24 1 (.slice p n cap) (n) (rows (inC .u64) ys73)] ++ ls) := H73
                    have hl73 : ys73.length = n := hs73.len.trans hul
                    refine wpList_nil ?_
                    refine c_then ?_
                    refine x_cond F73 rfl (fun hpi => ?_) (fun hpi => ?_)
                    · skip
                      have hb73 := hpi
                      refine wp_ret ?_
                      refine c_thenR ?_
                      refine c_blkR ?_
                      refine c_thenR ?_
                      refine c_blkR ?_
                      refine x_ret0 F73 rfl ?_
                      exact ⟨_, rfl, _, rfl, ⟨hsu.trans (hs73.wide (by omega) (by omega)), (hdu.seg hs73 (by omega) (by omega)).full (hr73 hb73)⟩, H73⟩
                    · skip
                      refine wp_skip ?_
                      refine c_then ?_
                      exact ⟨ys73, F73.cut _ ⟨rfl, rfl, rfl, rfl, rfl, rfl, rfl, rfl, rfl, rfl, rfl, rfl, rfl, rfl, rfl, rfl, rfl, rfl, rfl, rfl, rfl, trivial⟩, H73, hsu.trans (hs73.wide (by omega) (by omega)), hl73, hdu.seg hs73 (by omega) (by omega), hlu.seg hs73⟩
                  · skip
                    refine wp_skip ?_
                    refine c_then ?_
                    exact ⟨us, F68.cut _ ⟨rfl, rfl, rfl, rfl, rfl, rfl, rfl, rfl, rfl, rfl, rfl, rfl, rfl, rfl, rfl, rfl, rfl, rfl, rfl, rfl, rfl, trivial⟩, H42, hsu, hul, hdu, hlu⟩
                · clear F64
                  refine g_off wkP F65 rfl rfl rfl rfl rfl rfl rfl ?_; intro a75 F75; clear F65
                  refine g_off wkP F75 rfl rfl rfl rfl rfl rfl rfl ?_; intro a76 F76; clear F75
                  refine s_val wkP F76 rfl rfl rfl rfl (y_pickF F76 rfl rfl rfl) ?_; intro a77 F77; clear F76
                  refine wpList_nil ?_
                  refine c_then ?_
                  refine x_condF F77 rfl ?_
                  refine wp_skip ?_
                  refine c_then ?_
                  exact ⟨us, F77.cut _ ⟨rfl, rfl, rfl, rfl, rfl, rfl, rfl, rfl, rfl, rfl, rfl, rfl, rfl, rfl, rfl, rfl, rfl, rfl, rfl, rfl, rfl, trivial⟩, H42, hsu, hul, hdu, hlu⟩
              · clear F60
                refine g_off wkP F61 rfl rfl rfl rfl rfl rfl rfl ?_; intro a79 F79; clear F61
                refine s_val wkP F79 rfl rfl rfl rfl (y_pickF F79 rfl rfl rfl) ?_; intro a80 F80; clear F79
                refine s_val wkP F80 rfl rfl rfl rfl (y_move F80 rfl rfl) ?_; intro a81 F81; clear F80
                refine g_off wkP F81 rfl rfl rfl rfl rfl rfl rfl ?_; intro a82 F82; clear F81
                refine g_off wkP F82 rfl rfl rfl rfl rfl rfl rfl ?_; intro a83 F83; clear F82
                refine s_val wkP F83 rfl rfl rfl rfl (y_pickF F83 rfl rfl rfl) ?_; intro a84 F84; clear F83
                refine wpList_nil ?_
                refine c_then ?_
                refine x_condF F84 rfl ?_
                refine wp_skip ?_
                refine c_then ?_
                exact ⟨us, F84.cut _ ⟨rfl, rfl, rfl, rfl, rfl, rfl, rfl, rfl, rfl, rfl, rfl, rfl, rfl, rfl, rfl, rfl, rfl, rfl, rfl, rfl, rfl, trivial⟩, H42, hsu, hul, hdu, hlu⟩
            · skip
              clear F42
              rintro a58 w58 ⟨vs, F58, H58, hsv, hvl, hdv, hlv⟩
              refine wp_seq ?_
              refine wp_seq ?_
              refine q_region (fun u => St w0 u ([HP.own 24 1 (.slice p n cap) (n) (rows (inC .u64) vs)] ++ ls)) (by kernel_rfl) (by kernel_rfl) H58.drew ?_
              refine q_val F58 rfl rfl rfl (fun u hu => y_move F58 rfl rfl) ?_; intro a86 F86; clear F58
              refine q_val F86 rfl rfl rfl (fun u hu => y_gtr F86 rfl rfl rfl) ?_; intro a87 F87; clear F86
              refine q_val F87 rfl rfl rfl (fun u hu => y_move F87 rfl rfl) ?_; intro a88 F88; clear F87
              refine g_split (k := 75) F88 rfl (fun ha0 F89 => ?_) (fun ha0 F89 => ?_)
              · clear F88
                refine qg_on F89 rfl rfl rfl rfl ?_
                refine q_val F89 rfl rfl rfl (fun u hu => y_move F89 rfl rfl) ?_; intro a90 F90; clear F89
                refine qg_on F90 rfl rfl rfl rfl ?_
                refine q_val F90 rfl rfl rfl (fun u hu => y_move F90 rfl rfl) ?_; intro a91 F91; clear F90
                refine qg_on F91 rfl rfl rfl rfl ?_
                refine q_val F91 rfl rfl rfl (fun u hu => y_sub F91 rfl rfl rfl (r := ((al - 1 : Nat) : Int)) (wrap_i64 (by omega) (by omega) (by omega))) ?_; intro a92 F92; clear F91
                refine qg_on F92 rfl rfl rfl rfl ?_
                obtain ⟨bb93, hpe93⟩ := hp (by omega)
                obtain ⟨x17, mx17⟩ : ∃ x, (vs)[al - 1]? = some x := ⟨_, List.getElem?_eq_getElem (by first | omega | (simp only [List.length_set]; omega))⟩
                refine q_val F92 rfl rfl rfl (fun u hu => y_indexP F92 elemU64 rfl rfl rfl hpe93 (by omega)) ?_; intro a95 F95; clear F92
                refine qg_on F95 rfl rfl rfl rfl ?_
                refine q_val F95 rfl rfl rfl (fun u hu => y_load1 F95 plU64 rfl rfl (Row.elem (inC_len .u64) (hu.ownRowP 0 rfl hpe93) (fun _ _ => trivial) mx17 0 _ rfl)) ?_; intro a96 F96; clear F95
                refine qg_on F96 rfl rfl rfl rfl ?_
                refine q_val F96 rfl rfl rfl (fun u hu => y_move F96 rfl rfl) ?_; intro a97 F97; clear F96
                refine qg_on F97 rfl rfl rfl rfl ?_
                refine q_val F97 rfl rfl rfl (fun u hu => y_move F97 rfl rfl) ?_; intro a98 F98; clear F97
                refine qg_on F98 rfl rfl rfl rfl ?_
                obtain ⟨y17, my17⟩ : ∃ x, (vs)[pv2]? = some x := ⟨_, List.getElem?_eq_getElem (by first | omega | (simp only [List.length_set]; omega))⟩
                refine q_val F98 rfl rfl rfl (fun u hu => y_indexP F98 elemU64 rfl rfl rfl hpe93 (by omega)) ?_; intro a100 F100; clear F98
                refine qg_on F100 rfl rfl rfl rfl ?_
                refine q_val F100 rfl rfl rfl (fun u hu => y_load1 F100 plU64 rfl rfl (Row.elem (inC_len .u64) (hu.ownRowP 0 rfl hpe93) (fun _ _ => trivial) my17 0 _ rfl)) ?_; intro a101 F101; clear F100
                refine qg_on F101 rfl rfl rfl rfl ?_
                refine q_call F101 rfl rfl rfl (fun u hu => y_call F101 rfl rfl ent41) (fun u hu => (lessU _ _ _).mono fun e u2 he => ⟨he.1, hu.call0 he.2⟩) ?_; intro a102 F102; clear F101
                refine qg_on F102 rfl rfl rfl rfl ?_
                refine q_val F102 rfl rfl rfl (fun u hu => y_not F102 rfl rfl) ?_; intro a103 F103; clear F102
                refine q_val F103 rfl rfl rfl (fun u hu => y_pickT F103 rfl rfl rfl) ?_; intro a104 F104; clear F103
                refine q_nil ?_; intro w105 H105
                refine c_then ?_
                refine x_cond F104 rfl (fun hst => ?_) (fun hst => ?_)
                · skip
                  replace hst : ltI x17 y17 = false := by simpa using hst
                  refine wp_seq ?_
                  refine r_lit ?_
                  refine s_val wkP F104 rfl rfl rfl rfl (y_move F104 rfl rfl) ?_; intro a107 F107; clear F104
                  refine s_val wkP F107 rfl rfl rfl rfl (y_move F107 rfl rfl) ?_; intro a108 F108; clear F107
                  refine s_val wkP F108 rfl rfl rfl rfl (y_move F108 rfl rfl) ?_; intro a109 F109; clear F108
                  refine s_val wkP F109 rfl rfl rfl rfl (y_move F109 rfl rfl) ?_; intro a110 F110; clear F109
                  refine s_call wkP F110 rfl rfl rfl rfl (y_call F110 rfl rfl ent42) (partitionEqual (ls := ls) vs hvl hn1 al be pv2 (by omega) (by omega) (by omega) H105) ?_; intro v111 w111 a111 hR111 F111; clear F110
                  obtain ⟨ys111, mm, rfl, ⟨hs111, hm111, hm2111, hq111, hya111⟩, H111⟩ := hR111
                  replace H111 : St w0 w111 ([HP.own 24 1 (.slice p n cap) (n) (rows (inC .u64) ys111)] ++ ls) := H111
                  have hl111 : ys111.length = n := hs111.len.trans hvl
                  have hpe : ∀ x y, ys111[al - 1]? = some x → ys111[al]? = some y → ltI x y = false := by
                    intro x y hx hy
                    rw [hs111.out (al - 1) (by omega)] at hx
                    rw [hya111] at hy
                    cases hx.symm.trans mx17; cases hy.symm.trans my17; exact hst
                  refine s_val wkP F111 rfl rfl rfl rfl (y_assign F111 rfl rfl) ?_; intro a112 F112; clear F111
                  refine wpList_nil ?_
                  refine c_then ?_
                  refine wp_seq ?_
                  refine r_lit ?_
                  refine s_val wkP F112 rfl rfl rfl rfl (y_move F112 rfl rfl) ?_; intro a113 F113; clear F112
                  refine s_val wkP F113 rfl rfl rfl rfl (y_assign F113 rfl rfl) ?_; intro a114 F114; clear F113
                  refine wpList_nil ?_
                  refine c_then ?_
                  refine wp_exit ?_
                  refine c_thenX ?_
                  refine c_hit ?_
                  refine c_then ?_
                  exact ⟨(mm, be, li2, ys111, (wb), (wp)), ⟨F114.cut _ ⟨rfl, rfl, rfl, rfl, rfl, rfl, trivial⟩, H111, by omega, by omega, hsv.trans (hs111.wide (by omega) (by omega)), hl111, (hdv.seg hs111 (by omega) (by omega)).eq swoI hq111 (hlv.seg hs111) (by omega) (by omega) (by omega) (by omega) hpe, Lo.eq swoI hq111 (hlv.seg hs111) (by omega) (by omega) (by omega) (by omega) hpe⟩, by first | omega | (dsimp only; omega)⟩
                · skip
                  refine wp_skip ?_
                  refine c_then ?_
                  refine wp_seq ?_
                  refine r_lit ?_
                  refine s_val wkP F104 rfl rfl rfl rfl (y_move F104 rfl rfl) ?_; intro a115 F115; clear F104
                  refine s_val wkP F115 rfl rfl rfl rfl (y_move F115 rfl rfl) ?_; intro a116 F116; clear F115
                  refine s_val wkP F116 rfl rfl rfl rfl (y_move F116 rfl rfl) ?_; intro a117 F117; clear F116
                  refine s_val wkP F117 rfl rfl rfl rfl (y_move F117 rfl rfl) ?_; intro a118 F118; clear F117
                  refine s_call wkP F118 rfl rfl rfl rfl (y_call F118 rfl rfl ent43) (partition (ls := ls) vs hvl hn1 al be pv2 (by omega) (by omega) (by omega) H105) ?_; intro v119 w119 a119 hR119 F119; clear F118
                  obtain ⟨ys119, mm, pp, rfl, ⟨hs119, hm119, hm2119, hq119⟩, H119⟩ := hR119
                  replace H119 : St w0 w119 ([HP.own 24 1 (.slice p n cap) (n) (rows (inC .u64) ys119)] ++ ls) := H119
                  have hl119 : ys119.length = n := hs119.len.trans hvl
                  refine s_val wkP F119 rfl rfl rfl rfl (y_move F119 rfl rfl) ?_; intro a120 F120; clear F119
                  refine s_val wkP F120 rfl rfl rfl rfl (y_extract F120 rfl rfl rfl) ?_; intro a121 F121; clear F120
                  refine s_val wkP F121 rfl rfl rfl rfl (y_extract F121 rfl rfl rfl) ?_; intro a122 F122; clear F121
                  refine s_val wkP F122 rfl rfl rfl rfl (y_assign F122 rfl rfl) ?_; intro a123 F123; clear F122
                  refine s_val wkP F123 rfl rfl rfl rfl (y_assign F123 rfl rfl) ?_; intro a124 F124; clear F123
                  refine wpList_nil ?_
                  refine c_then ?_
                  refine wp_seq ?_
                  refine r_lit ?_
                  refine s_val wkP F124 rfl rfl rfl rfl (y_move F124 rfl rfl) ?_; intro a125 F125; clear F124
                  refine s_val wkP F125 rfl rfl rfl rfl (y_assign F125 rfl rfl) ?_; intro a126 F126; clear F125
                  refine wpList_nil ?_
                  refine c_then ?_
                  refine wp_seq ?_
                  refine r_lit ?_
                  refine s_val wkP F126 rfl rfl rfl rfl (y_move F126 rfl rfl) ?_; intro a127 F127; clear F126
                  refine s_val wkP F127 rfl rfl rfl rfl (y_move F127 rfl rfl) ?_; intro a128 F128; clear F127
                  refine s_val wkP F128 rfl rfl rfl rfl (y_sub F128 rfl rfl rfl (r := ((mm - al : Nat) : Int)) (wrap_i64 (by omega) (by omega) (by omega))) ?_; intro a129 F129; clear F128
                  refine s_val wkP F129 rfl rfl rfl rfl (y_move F129 rfl rfl) ?_; intro a130 F130; clear F129
                  refine s_val wkP F130 rfl rfl rfl rfl (y_move F130 rfl rfl) ?_; intro a131 F131; clear F130
                  refine s_val wkP F131 rfl rfl rfl rfl (y_sub F131 rfl rfl rfl (r := ((be - mm : Nat) : Int)) (wrap_i64 (by omega) (by omega) (by omega))) ?_; intro a132 F132; clear F131
                  refine s_val wkP F132 rfl rfl rfl rfl (y_assign F132 rfl rfl) ?_; intro a133 F133; clear F132
                  refine s_val wkP F133 rfl rfl rfl rfl (y_assign F133 rfl rfl) ?_; intro a134 F134; clear F133
                  refine wpList_nil ?_
                  refine c_then ?_
                  refine wp_seq ?_
                  refine r_lit ?_
                  refine s_val wkP F134 rfl rfl rfl rfl (y_move F134 rfl rfl) ?_; intro a135 F135; clear F134
                  refine s_val wkP F135 rfl rfl rfl rfl (y_quo F135 rfl rfl rfl (by omega) (r := (((be - al) / 8 : Nat) : Int)) (wrap_i64 (by rw [Int.tdiv_eq_ediv_of_nonneg (by omega)]; try omega) (by omega) (by omega))) ?_; intro a136 F136; clear F135
                  refine s_val wkP F136 rfl rfl rfl rfl (y_assign F136 rfl rfl) ?_; intro a137 F137; clear F136
                  refine wpList_nil ?_
                  refine c_then ?_
                  refine wp_seq ?_
                  refine r_lit ?_
                  refine s_val wkP F137 rfl rfl rfl rfl (y_move F137 rfl rfl) ?_; intro a138 F138; clear F137
                  refine s_val wkP F138 rfl rfl rfl rfl (y_move F138 rfl rfl) ?_; intro a139 F139; clear F138
                  refine s_val wkP F139 rfl rfl rfl rfl (y_lss F139 rfl rfl rfl) ?_; intro a140 F140; clear F139
                  refine wpList_nil ?_
                  refine c_then ?_
                  refine x_condP F140 rfl (fun hlr => ?_) (fun hlr => ?_)
                  · skip
                    refine wp_seq ?_
                    refine r_lit ?_
                    refine s_val wkP F140 rfl rfl rfl rfl (y_move F140 rfl rfl) ?_; intro a142 F142; clear F140
                    refine s_val wkP F142 rfl rfl rfl rfl (y_move F142 rfl rfl) ?_; intro a143 F143; clear F142
                    refine s_val wkP F143 rfl rfl rfl rfl (y_geq F143 rfl rfl rfl) ?_; intro a144 F144; clear F143
                    refine s_val wkP F144 rfl rfl rfl rfl (y_assign F144 rfl rfl) ?_; intro a145 F145; clear F144
                    refine wpList_nil ?_
                    refine c_then ?_
                    refine wp_seq ?_
                    refine r_lit ?_
                    refine s_val wkP F145 rfl rfl rfl rfl (y_move F145 rfl rfl) ?_; intro a146 F146; clear F145
                    refine s_val wkP F146 rfl rfl rfl rfl (y_move F146 rfl rfl) ?_; intro a147 F147; clear F146
                    refine s_val wkP F147 rfl rfl rfl rfl (y_move F147 rfl rfl) ?_; intro a148 F148; clear F147
                    refine s_val wkP F148 rfl rfl rfl rfl (y_move F148 rfl rfl) ?_; intro a149 F149; clear F148
                    refine s_call wkP F149 rfl rfl rfl rfl (y_call F149 rfl rfl ent32) (ih (ls := ls) ys119 hl119 hn1 al mm li2 (by omega) (by omega) (by omega) (by omega) ((hlv.seg hs119).narrow (by omega)) H119 (by omega)) ?_; intro v150 w150 a150 hR150 F150; clear F149
                    obtain ⟨ys150, rfl, ⟨hs150, hr150⟩, H150⟩ := hR150
                    replace H150 : St w0 w150 ([HP.own 24 1 (.slice p n cap) (n) (rows (inC .u64) ys150)] ++ ls) := H150
                    have hl150 : ys150.length = n := hs150.len.trans hl119
                    refine wpList_nil ?_
                    refine c_then ?_
                    refine r_lit ?_
                    refine s_val wkP F150 rfl rfl rfl rfl (y_move F150 rfl rfl) ?_; intro a151 F151; clear F150
                    refine s_val wkP F151 rfl rfl rfl rfl (y_add F151 rfl rfl rfl (r := ((mm + 1 : Nat) : Int)) (wrap_i64 (by omega) (by omega) (by omega))) ?_; intro a152 F152; clear F151
                    refine s_val wkP F152 rfl rfl rfl rfl (y_assign F152 rfl rfl) ?_; intro a153 F153; clear F152
                    refine wpList_nil ?_
                    refine c_blkN ?_
                    refine c_then ?_
                    exact ⟨(mm + 1, be, li2, ys150, (decide (((((be - al) / 8 : Nat) : Int)) ≤ (((mm - al : Nat) : Int)))), (pp)), ⟨F153.cut _ ⟨rfl, rfl, rfl, rfl, rfl, rfl, trivial⟩, H150, by omega, by omega, (hsv.trans (hs119.wide (by omega) (by omega))).trans (hs150.wide (by omega) (by omega)), hl150, ((hdv.seg hs119 (by omega) (by omega)).seg (hs150.wide (by omega) (by omega)) (by omega) (by omega)).left swoI (hq119.segL hs150) hr150 (by omega), Lo.right (hq119.segL hs150)⟩, by first | omega | (dsimp only; omega)⟩
                  · skip
                    refine wp_seq ?_
                    refine r_lit ?_
                    refine s_val wkP F140 rfl rfl rfl rfl (y_move F140 rfl rfl) ?_; intro a154 F154; clear F140
                    refine s_val wkP F154 rfl rfl rfl rfl (y_move F154 rfl rfl) ?_; intro a155 F155; clear F154
                    refine s_val wkP F155 rfl rfl rfl rfl (y_geq F155 rfl rfl rfl) ?_; intro a156 F156; clear F155
                    refine s_val wkP F156 rfl rfl rfl rfl (y_assign F156 rfl rfl) ?_; intro a157 F157; clear F156
                    refine wpList_nil ?_
                    refine c_then ?_
                    refine wp_seq ?_
                    refine r_lit ?_
                    refine s_val wkP F157 rfl rfl rfl rfl (y_move F157 rfl rfl) ?_; intro a158 F158; clear F157
                    refine s_val wkP F158 rfl rfl rfl rfl (y_move F158 rfl rfl) ?_; intro a159 F159; clear F158
                    refine s_val wkP F159 rfl rfl rfl rfl (y_add F159 rfl rfl rfl (r := ((mm + 1 : Nat) : Int)) (wrap_i64 (by omega) (by omega) (by omega))) ?_; intro a160 F160; clear F159
                    refine s_val wkP F160 rfl rfl rfl rfl (y_move F160 rfl rfl) ?_; intro a161 F161; clear F160
                    refine s_val wkP F161 rfl rfl rfl rfl (y_move F161 rfl rfl) ?_; intro a162 F162; clear F161
                    refine s_call wkP F162 rfl rfl rfl rfl (y_call F162 rfl rfl ent32) (ih (ls := ls) ys119 hl119 hn1 (mm + 1) be li2 (by omega) (by omega) (by omega) (by omega) (Lo.right hq119) H119 (by omega)) ?_; intro v163 w163 a163 hR163 F163; clear F162
                    obtain ⟨ys163, rfl, ⟨hs163, hr163⟩, H163⟩ := hR163
                    replace H163 : St w0 w163 ([HP.own 24 1 (.slice p n cap) (n) (rows (inC .u64) ys163)] ++ ls) := H163
                    have hl163 : ys163.length = n := hs163.len.trans hl119
                    refine wpList_nil ?_
                    refine c_then ?_
                    refine r_lit ?_
                    refine s_val wkP F163 rfl rfl rfl rfl (y_move F163 rfl rfl) ?_; intro a164 F164; clear F163
                    refine s_val wkP F164 rfl rfl rfl rfl (y_assign F164 rfl rfl) ?_; intro a165 F165; clear F164
                    refine wpList_nil ?_
                    refine c_blkN ?_
                    refine c_then ?_
                    exact ⟨(al, mm, li2, ys163, (decide (((((be - al) / 8 : Nat) : Int)) ≤ (((be - mm : Nat) : Int)))), (pp)), ⟨F165.cut _ ⟨rfl, rfl, rfl, rfl, rfl, rfl, trivial⟩, H163, by omega, by omega, (hsv.trans (hs119.wide (by omega) (by omega))).trans (hs163.wide (by omega) (by omega)), hl163, ((hdv.seg hs119 (by omega) (by omega)).seg (hs163.wide (by omega) (by omega)) (by omega) (by omega)).right swoI (hq119.segR hs163) hr163 (by omega), ((hlv.seg hs119).seg (hs163.wide (by omega) (by omega))).narrow (by omega)⟩, by first | omega | (dsimp only; omega)⟩
              · clear F88
                refine qg_off F89 rfl rfl rfl rfl rfl rfl rfl ?_; intro a166 F166; clear F89
                refine qg_off F166 rfl rfl rfl rfl rfl rfl rfl ?_; intro a167 F167; clear F166
                refine qg_off F167 rfl rfl rfl rfl rfl rfl rfl ?_; intro a168 F168; clear F167
                refine qg_off F168 rfl rfl rfl rfl rfl rfl rfl ?_; intro a169 F169; clear F168
                refine qg_off F169 rfl rfl rfl rfl rfl rfl rfl ?_; intro a170 F170; clear F169
                refine qg_off F170 rfl rfl rfl rfl rfl rfl rfl ?_; intro a171 F171; clear F170
                refine qg_off F171 rfl rfl rfl rfl rfl rfl rfl ?_; intro a172 F172; clear F171
                refine qg_off F172 rfl rfl rfl rfl rfl rfl rfl ?_; intro a173 F173; clear F172
                refine qg_off F173 rfl rfl rfl rfl rfl rfl rfl ?_; intro a174 F174; clear F173
                refine qg_off F174 rfl rfl rfl rfl rfl rfl rfl ?_; intro a175 F175; clear F174
                refine qg_off F175 rfl rfl rfl rfl rfl rfl rfl ?_; intro a176 F176; clear F175
                refine q_val F176 rfl rfl rfl (fun u hu => y_pickF F176 rfl rfl rfl) ?_; intro a177 F177; clear F176
                refine q_nil ?_; intro w178 H178
                refine c_then ?_
                refine x_condF F177 rfl ?_
                refine wp_skip ?_
                refine c_then ?_
                refine wp_seq ?_
                refine r_lit ?_
                refine s_val wkP F177 rfl rfl rfl rfl (y_move F177 rfl rfl) ?_; intro a180 F180; clear F177
                refine s_val wkP F180 rfl rfl rfl rfl (y_move F180 rfl rfl) ?_; intro a181 F181; clear F180
                refine s_val wkP F181 rfl rfl rfl rfl (y_move F181 rfl rfl) ?_; intro a182 F182; clear F181
                refine s_val wkP F182 rfl rfl rfl rfl (y_move F182 rfl rfl) ?_; intro a183 F183; clear F182
                refine s_call wkP F183 rfl rfl rfl rfl (y_call F183 rfl rfl ent43) (partition (ls := ls) vs hvl hn1 al be pv2 (by omega) (by omega) (by omega) H178) ?_; intro v184 w184 a184 hR184 F184; clear F183
                obtain ⟨ys184, mm, pp, rfl, ⟨hs184, hm184, hm2184, hq184⟩, H184⟩ := hR184
                replace H184 : St w0 w184 ([HP.own 24 1 (.slice p n cap) (n) (rows (inC .u64) ys184)] ++ ls) := H184
                have hl184 : ys184.length = n := hs184.len.trans hvl
                refine s_val wkP F184 rfl rfl rfl rfl (y_move F184 rfl rfl) ?_; intro a185 F185; clear F184
                refine s_val wkP F185 rfl rfl rfl rfl (y_extract F185 rfl rfl rfl) ?_; intro a186 F186; clear F185
                refine s_val wkP F186 rfl rfl rfl rfl (y_extract F186 rfl rfl rfl) ?_; intro a187 F187; clear F186
                refine s_val wkP F187 rfl rfl rfl rfl (y_assign F187 rfl rfl) ?_; intro a188 F188; clear F187
                refine s_val wkP F188 rfl rfl rfl rfl (y_assign F188 rfl rfl) ?_; intro a189 F189; clear F188
                refine wpList_nil ?_
                refine c_then ?_
                refine wp_seq ?_
                refine r_lit ?_
                refine s_val wkP F189 rfl rfl rfl rfl (y_move F189 rfl rfl) ?_; intro a190 F190; clear F189
                refine s_val wkP F190 rfl rfl rfl rfl (y_assign F190 rfl rfl) ?_; intro a191 F191; clear F190
                refine wpList_nil ?_
                refine c_then ?_
                refine wp_seq ?_
                refine r_lit ?_
                refine s_val wkP F191 rfl rfl rfl rfl (y_move F191 rfl rfl) ?_; intro a192 F192; clear F191
                refine s_val wkP F192 rfl rfl rfl rfl (y_move F192 rfl rfl) ?_; intro a193 F193; clear F192
                refine s_val wkP F193 rfl rfl rfl rfl (y_sub F193 rfl rfl rfl (r := ((mm - al : Nat) : Int)) (wrap_i64 (by omega) (by omega) (by omega))) ?_; intro a194 F194; clear F193
                refine s_val wkP F194 rfl rfl rfl rfl (y_move F194 rfl rfl) ?_; intro a195 F195; clear F194
                refine s_val wkP F195 rfl rfl rfl rfl (y_move F195 rfl rfl) ?_; intro a196 F196; clear F195
                refine s_val wkP F196 rfl rfl rfl rfl (y_sub F196 rfl rfl rfl (r := ((be - mm : Nat) : Int)) (wrap_i64 (by omega) (by omega) (by omega))) ?_; intro a197 F197; clear F196
                refine s_val wkP F197 rfl rfl rfl rfl (y_assign F197 rfl rfl) ?_; intro a198 F198; clear F197
                refine s_val wkP F198 rfl rfl rfl rfl (y_assign F198 rfl rfl) ?_; intro a199 F199; clear F198
                refine wpList_nil ?_
                refine c_then ?_
                refine wp_seq ?_
                refine r_lit ?_
                refine s_val wkP F199 rfl rfl rfl rfl (y_move F199 rfl rfl) ?_; intro a200 F200; clear F199
                refine s_val wkP F200 rfl rfl rfl rfl (y_quo F200 rfl rfl rfl (by omega) (r := (((be - al) / 8 : Nat) : Int)) (wrap_i64 (by rw [Int.tdiv_eq_ediv_of_nonneg (by omega)]; try omega) (by omega) (by omega))) ?_; intro a201 F201; clear F200
                refine s_val wkP F201 rfl rfl rfl rfl (y_assign F201 rfl rfl) ?_; intro a202 F202; clear F201
                refine wpList_nil ?_
                refine c_then ?_
                refine wp_seq ?_
                refine r_lit ?_
                refine s_val wkP F202 rfl rfl rfl rfl (y_move F202 rfl rfl) ?_; intro a203 F203; clear F202
                refine s_val wkP F203 rfl rfl rfl rfl (y_move F203 rfl rfl) ?_; intro a204 F204; clear F203
                refine s_val wkP F204 rfl rfl rfl rfl (y_lss F204 rfl rfl rfl) ?_; intro a205 F205; clear F204
                refine wpList_nil ?_
                refine c_then ?_
                refine x_condP F205 rfl (fun hlr => ?_) (fun hlr => ?_)
                · skip
                  refine wp_seq ?_
                  refine r_lit ?_
                  refine s_val wkP F205 rfl rfl rfl rfl (y_move F205 rfl rfl) ?_; intro a207 F207; clear F205
                  refine s_val wkP F207 rfl rfl rfl rfl (y_move F207 rfl rfl) ?_; intro a208 F208; clear F207
                  refine s_val wkP F208 rfl rfl rfl rfl (y_geq F208 rfl rfl rfl) ?_; intro a209 F209; clear F208
                  refine s_val wkP F209 rfl rfl rfl rfl (y_assign F209 rfl rfl) ?_; intro a210 F210; clear F209
                  refine wpList_nil ?_
                  refine c_then ?_
                  refine wp_seq ?_
                  refine r_lit ?_
                  refine s_val wkP F210 rfl rfl rfl rfl (y_move F210 rfl rfl) ?_; intro a211 F211; clear F210
                  refine s_val wkP F211 rfl rfl rfl rfl (y_move F211 rfl rfl) ?_; intro a212 F212; clear F211
                  refine s_val wkP F212 rfl rfl rfl rfl (y_move F212 rfl rfl) ?_; intro a213 F213; clear F212
                  refine s_val wkP F213 rfl rfl rfl rfl (y_move F213 rfl rfl) ?_; intro a214 F214; clear F213
                  refine s_call wkP F214 rfl rfl rfl rfl (y_call F214 rfl rfl ent32) (ih (ls := ls) ys184 hl184 hn1 al mm li2 (by omega) (by omega) (by omega) (by omega) ((hlv.seg hs184).narrow (by omega)) H184 (by omega)) ?_; intro v215 w215 a215 hR215 F215; clear F214
                  obtain ⟨ys215, rfl, ⟨hs215, hr215⟩, H215⟩ := hR215
                  replace H215 : St w0 w215 ([HP.own 24 1 (.slice p n cap) (n) (rows (inC .u64) ys215)] ++ ls) := H215
                  have hl215 : ys215.length = n := hs215.len.trans hl184
                  refine wpList_nil ?_
                  refine c_then ?_
                  refine r_lit ?_
                  refine s_val wkP F215 rfl rfl rfl rfl (y_move F215 rfl rfl) ?_; intro a216 F216; clear F215
                  refine s_val wkP F216 rfl rfl rfl rfl (y_add F216 rfl rfl rfl (r := ((mm + 1 : Nat) : Int)) (wrap_i64 (by omega) (by omega) (by omega))) ?_; intro a217 F217; clear F216
                  refine s_val wkP F217 rfl rfl rfl rfl (y_assign F217 rfl rfl) ?_; intro a218 F218; clear F217
                  refine wpList_nil ?_
                  refine c_blkN ?_
                  refine c_then ?_
                  exact ⟨(mm + 1, be, li2, ys215, (decide (((((be - al) / 8 : Nat) : Int)) ≤ (((mm - al : Nat) : Int)))), (pp)), ⟨F218.cut _ ⟨rfl, rfl, rfl, rfl, rfl, rfl, trivial⟩, H215, by omega, by omega, (hsv.trans (hs184.wide (by omega) (by omega))).trans (hs215.wide (by omega) (by omega)), hl215, ((hdv.seg hs184 (by omega) (by omega)).seg (hs215.wide (by omega) (by omega)) (by omega) (by omega)).left swoI (hq184.segL hs215) hr215 (by omega), Lo.right (hq184.segL hs215)⟩, by first | omega | (dsimp only; omega)⟩
                · skip
                  refine wp_seq ?_
                  refine r_lit ?_
                  refine s_val wkP F205 rfl rfl rfl rfl (y_move F205 rfl rfl) ?_; intro a219 F219; clear F205
                  refine s_val wkP F219 rfl rfl rfl rfl (y_move F219 rfl rfl) ?_; intro a220 F220; clear F219
                  refine s_val wkP F220 rfl rfl rfl rfl (y_geq F220 rfl rfl rfl) ?_; intro a221 F221; clear F220
                  refine s_val wkP F221 rfl rfl rfl rfl (y_assign F221 rfl rfl) ?_; intro a222 F222; clear F221
                  refine wpList_nil ?_
                  refine c_then ?_
                  refine wp_seq ?_
                  refine r_lit ?_
                  refine s_val wkP F222 rfl rfl rfl rfl (y_move F222 rfl rfl) ?_; intro a223 F223; clear F222
                  refine s_val wkP F223 rfl rfl rfl rfl (y_move F223 rfl rfl) ?_; intro a224 F224; clear F223
                  refine s_val wkP F224 rfl rfl rfl rfl (y_add F224 rfl rfl rfl (r := ((mm + 1 : Nat) : Int)) (wrap_i64 (by omega) (by omega) (by omega))) ?_; intro a225 F225; clear F224
                  refine s_val wkP F225 rfl rfl rfl rfl (y_move F225 rfl rfl) ?_; intro a226 F226; clear F225
                  refine s_val wkP F226 rfl rfl rfl rfl (y_move F226 rfl rfl) ?_; intro a227 F227; clear F226
                  refine s_call wkP F227 rfl rfl rfl rfl (y_call F227 rfl rfl ent32) (ih (ls := ls) ys184 hl184 hn1 (mm + 1) be li2 (by omega) (by omega) (by omega) (by omega) (Lo.right hq184) H184 (by omega)) ?_; intro v228 w228 a228 hR228 F228; clear F227
                  obtain ⟨ys228, rfl, ⟨hs228, hr228⟩, H228⟩ := hR228
                  replace H228 : St w0 w228 ([HP.own 24 1 (.slice p n cap) (n) (rows (inC .u64) ys228)] ++ ls) := H228
                  have hl228 : ys228.length = n := hs228.len.trans hl184
                  refine wpList_nil ?_
                  refine c_then ?_
                  refine r_lit ?_
                  refine s_val wkP F228 rfl rfl rfl rfl (y_move F228 rfl rfl) ?_; intro a229 F229; clear F228
                  refine s_val wkP F229 rfl rfl rfl rfl (y_assign F229 rfl rfl) ?_; intro a230 F230; clear F229
                  refine wpList_nil ?_
                  refine c_blkN ?_
                  refine c_then ?_
                  exact ⟨(al, mm, li2, ys228, (decide (((((be - al) / 8 : Nat) : Int)) ≤ (((be - mm : Nat) : Int)))), (pp)), ⟨F230.cut _ ⟨rfl, rfl, rfl, rfl, rfl, rfl, trivial⟩, H228, by omega, by omega, (hsv.trans (hs184.wide (by omega) (by omega))).trans (hs228.wide (by omega) (by omega)), hl228, ((hdv.seg hs184 (by omega) (by omega)).seg (hs228.wide (by omega) (by omega)) (by omega) (by omega)).right swoI (hq184.segR hs228) hr228 (by omega), ((hlv.seg hs184).seg (hs228.wide (by omega) (by omega))).narrow (by omega)⟩, by first | omega | (dsimp only; omega)⟩
theorem pdqF {w0 w : World} {ls : List HP} {p : Option Addr} {n cap : Nat} (xs : List Int) (hn : xs.length = n) (hn1 : n ≤ 1000000) (a b : Nat) (lim : Int) (hab : a ≤ b) (hbn : b ≤ n) (hl0 : 0 ≤ lim) (hl1 : lim ≤ 1000) (hlo0 : Lo ltI a b xs) (H : St w0 w (HP.own 24 1 (.slice p n cap) (n) (rows (inC .u64) xs) :: ls)) :
    Calls Try.prog 32 [.slice p n cap, .int .i64 (a : Int), .int .i64 (b : Int), .int .i64 lim].toArray w (fun e w' => ∃ v, e = .returned v ∧ ∃ ys, v = .tuple #[] ∧ (Seg a b xs ys ∧ Srt ltI a b ys) ∧ St w0 w' (HP.own 24 1 (.slice p n cap) (n) (rows (inC .u64) ys) :: ls)) := pdqF_ind (b - a + 1) xs hn hn1 a b lim hab hbn hl0 hl1 hlo0 H (by omega)
set_option maxRecDepth 100000 in
set_option maxHeartbeats 2000000 in
theorem sortS_core {w0 w : World} {ls : List HP} {p : Option Addr} {n cap : Nat} (xs : List Int) (hn : xs.length = n) (hn1 : n ≤ 1000000)  (H : St w0 w (HP.own 24 1 (.slice p n cap) (n) (rows (inC .u64) xs) :: ls)) :
    Calls Try.prog 26 [.slice p n cap].toArray w (fun e w' => ∃ v, e = .returned v ∧ ∃ ys, v = .tuple #[] ∧ (Seg 0 n xs ys ∧ Srt ltI 0 n ys) ∧ St w0 w' (HP.own 24 1 (.slice p n cap) (n) (rows (inC .u64) ys) :: ls)) := by
  have hp := (H.ownP 0 rfl).2.2
  refine x_enter Try.func26 rfl rfl rfl ?_
  intro a0 F0
  replace F0 : Fr ⟨11, []⟩ a0 [(0, .slice p n cap)] := F0
  have H0 : St w0 w ([HP.own 24 1 (.slice p n cap) (n) (rows (inC .u64) xs)] ++ ls) := H
  refine wp_seq ?_
  refine r_lit ?_
  refine s_val wkP F0 rfl rfl rfl rfl (y_move F0 rfl rfl) ?_; intro a1 F1; clear F0
  refine s_val wkP F1 rfl rfl rfl rfl (y_lenS F1 rfl Try.underlying33 rfl) ?_; intro a2 F2; clear F1
  refine s_val wkP F2 rfl rfl rfl rfl (y_assign F2 rfl rfl) ?_; intro a3 F3; clear F2
  refine wpList_nil ?_
  refine c_then ?_
  refine r_lit ?_
  refine s_val wkP F3 rfl rfl rfl rfl (y_move F3 rfl rfl) ?_; intro a4 F4; clear F3
  refine s_val wkP F4 rfl rfl rfl rfl (y_move F4 rfl rfl) ?_; intro a5 F5; clear F4
  refine s_val wkP F5 rfl rfl rfl rfl (y_move F5 rfl rfl) ?_; intro a6 F6; clear F5
  refine s_val wkP F6 rfl rfl rfl rfl (y_conv F6 Try.underlying3 Try.underlying51 rfl rfl (r := ((n : Nat) : Int)) (wrap_u64 (by omega) (by omega) (by omega))) ?_; intro a7 F7; clear F6
  refine s_call wkP F7 rfl rfl rfl rfl (y_call F7 rfl rfl ent33) (bitsLen n (by omega) _) ?_; intro v0 w8 a8 hR8 F8; clear F7
  obtain ⟨k0, rfl, hk1, hk2, hE⟩ := hR8
  have H8 : St w0 w8 ([HP.own 24 1 (.slice p n cap) (n) (rows (inC .u64) xs)] ++ ls) := H0.call hE
  refine s_call wkP F8 rfl rfl rfl rfl (y_call F8 rfl rfl ent32) (pdqF (ls := ls) xs hn hn1 0 n ((k0 : Nat) : Int) (Nat.zero_le _) (Nat.le_refl _) (by omega) (by omega) Lo.zero H8) ?_; intro v9 w9 a9 hR9 F9; clear F8
  obtain ⟨ys9, rfl, ⟨hs9, hr9⟩, H9⟩ := hR9
  replace H9 : St w0 w9 ([HP.own 24 1 (.slice p n cap) (n) (rows (inC .u64) ys9)] ++ ls) := H9
  have hl9 : ys9.length = n := hs9.len.trans hn
  refine wpList_nil ?_
  refine x_end0 F9 rfl ?_
  exact ⟨_, rfl, _, rfl, ⟨hs9, hr9⟩, H9⟩
theorem ent26 : ∀ args w, (callFunc 26 args).run Try.prog w = .ok (.enter 26 args) w := enters Try.func26 (by kernel_rfl) rfl
end Go.Proofs.Ytchcoenpnmgnhaa
