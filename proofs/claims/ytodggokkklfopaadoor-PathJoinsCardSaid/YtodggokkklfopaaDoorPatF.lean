/- The document's path functions. -/
import Derived.Test.YtodggokkklfopaaDoorPathL
import Derived.Test.YtodggokkklfopaaDoorU
set_option linter.unusedSimpArgs false
set_option linter.unusedVariables false
namespace Go.Proofs.YtodggokkklfopaaDoor
open Go.ChangeShapes Go.WideShapes Go.ChangeAt Go.RowKit Go.Tri
set_option maxRecDepth 100000 in
set_option maxHeartbeats 2000000 in
theorem rjoin (xs : List (List UInt8)) (p : Option Addr) (n cap : Nat) (hn : xs.length = n) (hj : tot xs ≤ 100000) (w : World) (hp : 0 < n → ∃ b off, p = some ⟨b, off, none⟩ ∧ Row w b off (rows txC xs)) :
    Calls Tryd.prog 9 [.slice p n cap].toArray w (fun e w' => e = .returned (.string (txb (pth xs))) ∧ St w w' []) := by
  have hn2 : xs.length ≤ tot xs := by
    clear hn hj hp
    induction xs with
    | nil => simp
    | cons x xs ih => simp [tot] at *; omega
  refine x_enter Tryd.func9 rfl rfl rfl ?_
  intro a0 F0
  replace F0 : Fr ⟨22, []⟩ a0 [(0, .slice p n cap)] := F0
  have H0 := St.nil w
  refine wp_seq ?_
  refine r_lit ?_
  refine s_val wkP F0 rfl rfl rfl rfl (y_assign F0 rfl rfl) ?_; intro a1 F1; clear F0
  refine wpList_nil ?_
  refine c_then ?_
  refine wp_seq ?_
  refine wp_seq ?_
  refine r_lit ?_
  refine s_val wkP F1 rfl rfl rfl rfl (y_move F1 rfl rfl) ?_; intro a2 F2; clear F1
  refine s_val wkP F2 rfl rfl rfl rfl (y_lenS F2 rfl Tryd.underlying23 rfl) ?_; intro a3 F3; clear F2
  refine s_val wkP F3 rfl rfl rfl rfl (y_eql F3 rfl rfl rfl) ?_; intro a4 F4; clear F3
  refine wpList_nil ?_
  refine c_then ?_
  refine x_condP F4 rfl (fun hz => ?_) (fun hz => ?_)
  · skip
    refine wp_seq ?_
    refine r_lit ?_
    refine s_val wkP F4 rfl rfl rfl rfl (y_assign F4 rfl rfl) ?_; intro a6 F6; clear F4
    refine wpList_nil ?_
    refine c_then ?_
    refine wp_ret ?_
    refine c_thenR ?_
    refine x_ret1 F6 rfl rfl ?_
    have h0 : xs = [] := List.eq_nil_of_length_eq_zero (by omega)
    exact ⟨by rw [h0]; rfl, H0.drop0⟩
  · skip
    refine wp_skip ?_
    refine c_then ?_
    refine wp_seq ?_
    refine r_lit ?_
    refine s_val wkP F4 rfl rfl rfl rfl (y_assign F4 rfl rfl) ?_; intro a7 F7; clear F4
    refine wpList_nil ?_
    refine c_then ?_
    refine wp_seq ?_
    refine wp_seq ?_
    refine r_lit ?_
    refine s_val wkP F7 rfl rfl rfl rfl (y_assign F7 rfl rfl) ?_; intro a8 F8; clear F7
    refine wpList_nil ?_
    refine c_then ?_
    refine wp_block ?_
    refine x_loop (G := Nat × List UInt8) (fun gg aa ww => match gg with | (k, s) => Fr ⟨22, []⟩ aa [(0, .slice p n cap), (2, .string (txb ([]))), (4, .int .i64 (((k : Nat) : Int))), (3, .string (txb (s)))] ∧ St w ww [] ∧ (k ≤ n) ∧ (s = flt (xs.take k))) (fun gg => match gg with | (k, s) => n - k) (0, []) ⟨F8.cut _ ⟨rfl, rfl, rfl, rfl, trivial⟩, H0, Nat.zero_le _, rfl⟩ ?_
    clear F8
    rintro ⟨k, s⟩ a9 w9 ⟨F9, H9, hk, hs⟩
    refine wp_seq ?_
    refine wp_seq ?_
    refine r_lit ?_
    refine s_val wkP F9 rfl rfl rfl rfl (y_move F9 rfl rfl) ?_; intro a10 F10; clear F9
    refine s_val wkP F10 rfl rfl rfl rfl (y_move F10 rfl rfl) ?_; intro a11 F11; clear F10
    refine s_val wkP F11 rfl rfl rfl rfl (y_lenS F11 rfl Tryd.underlying23 rfl) ?_; intro a12 F12; clear F11
    refine s_val wkP F12 rfl rfl rfl rfl (y_lss F12 rfl rfl rfl) ?_; intro a13 F13; clear F12
    refine wpList_nil ?_
    refine c_then ?_
    refine x_condP F13 rfl (fun hlt => ?_) (fun hlt => ?_)
    · skip
      refine wp_skip ?_
      refine c_then ?_
      refine wp_seq ?_
      refine wp_block ?_
      refine r_lit ?_
      refine s_val wkP F13 rfl rfl rfl rfl (y_move F13 rfl rfl) ?_; intro a15 F15; clear F13
      refine s_val wkP F15 rfl rfl rfl rfl (y_move F15 rfl rfl) ?_; intro a16 F16; clear F15
      refine s_val wkP F16 rfl rfl rfl rfl (y_move F16 rfl rfl) ?_; intro a17 F17; clear F16
      obtain ⟨bb18, of18, hpe18, hrow18⟩ := hp (by omega)
      obtain ⟨x, mx⟩ : ∃ x, (xs)[k]? = some x := ⟨_, List.getElem?_eq_getElem (by first | omega | (simp only [List.length_set]; omega))⟩
      refine s_val wkP F17 rfl rfl rfl rfl (y_indexP F17 elemStr rfl rfl rfl hpe18 (by omega)) ?_; intro a20 F20; clear F17
      refine s_val wkP F20 rfl rfl rfl rfl (y_load1 F20 plStr rfl rfl (Row.elem txC_len (hrow18.st H9) (fun _ _ => trivial) mx 0 _ rfl)) ?_; intro a21 F21; clear F20
      have hxm := tot_mem (List.mem_of_getElem? mx)
      have hfl := flt_len (xs.take k)
      have hft := tot_take xs k
      rw [← hs] at hfl
      refine s_val wkP F21 rfl rfl rfl rfl (y_addT (l := [47]) (m := x) F21 rfl rfl rfl (by first | omega | (simp; omega))) ?_; intro a22 F22; clear F21
      refine s_val wkP F22 rfl rfl rfl rfl (y_addT (l := s) (m := ([47] ++ x)) F22 rfl rfl rfl (by first | omega | (simp; omega))) ?_; intro a23 F23; clear F22
      refine s_val wkP F23 rfl rfl rfl rfl (y_assign F23 rfl rfl) ?_; intro a24 F24; clear F23
      refine wpList_nil ?_
      refine c_blkN ?_
      refine c_then ?_
      refine r_lit ?_
      refine s_val wkP F24 rfl rfl rfl rfl (y_move F24 rfl rfl) ?_; intro a25 F25; clear F24
      refine s_val wkP F25 rfl rfl rfl rfl (y_add F25 rfl rfl rfl (r := (((k : Nat) : Int)) + (1)) (wrap_i64 (by omega) (by omega) (by omega))) ?_; intro a26 F26; clear F25
      refine s_val wkP F26 rfl rfl rfl rfl (y_assign F26 rfl rfl) ?_; intro a27 F27; clear F26
      refine wpList_nil ?_
      refine c_then ?_
      exact ⟨(k + 1, s ++ ([47] ++ x)), ⟨F27.cut _ ⟨rfl, rfl, rfl, rfl, trivial⟩, H9, by omega, by rw [hs, flt_succ mx]⟩, by first | omega | (dsimp only; omega)⟩
    · skip
      refine wp_exit ?_
      refine c_thenX ?_
      refine c_thenX ?_
      refine c_hit ?_
      refine c_then ?_
      refine wp_seq ?_
      refine r_lit ?_
      refine s_val wkP F13 rfl rfl rfl rfl (y_move F13 rfl rfl) ?_; intro a28 F28; clear F13
      refine s_val wkP F28 rfl rfl rfl rfl (y_assign F28 rfl rfl) ?_; intro a29 F29; clear F28
      refine wpList_nil ?_
      refine c_then ?_
      refine wp_ret ?_
      refine x_ret1 F29 rfl rfl ?_
      obtain rfl : k = n := by omega
      rw [← hn, List.take_length, flt_pth xs (fun e => by rw [e] at hn; exact hz (by simp at hn; omega))] at hs
      exact ⟨by rw [hs], H9.drop0⟩
theorem ent9 : ∀ args w, (callFunc 9 args).run Tryd.prog w = .ok (.enter 9 args) w := enters Tryd.func9 (by kernel_rfl) rfl
set_option maxRecDepth 100000 in
set_option maxHeartbeats 2000000 in
theorem rsame (xs ys : List (List UInt8)) (hx1 : xs.length ≤ 1000000) (hy1 : ys.length ≤ 1000000) (p q : Option Addr) (cp cq : Nat) (w : World) (hp : 0 < xs.length → ∃ b off, p = some ⟨b, off, none⟩ ∧ Row w b off (rows txC xs)) (hq : 0 < ys.length → ∃ b off, q = some ⟨b, off, none⟩ ∧ Row w b off (rows txC ys)) :
    Calls Tryd.prog 13 [.slice p xs.length cp, .slice q ys.length cq].toArray w (fun e w' => e = .returned (.bool (decide (xs = ys))) ∧ St w w' []) := by
  refine x_enter Tryd.func13 rfl rfl rfl ?_
  intro a0 F0
  replace F0 : Fr ⟨26, []⟩ a0 [(0, .slice p xs.length cp), (1, .slice q ys.length cq)] := F0
  have H0 := St.nil w
  refine wp_seq ?_
  refine r_lit ?_
  refine s_val wkP F0 rfl rfl rfl rfl (y_assign F0 rfl rfl) ?_; intro a1 F1; clear F0
  refine wpList_nil ?_
  refine c_then ?_
  refine wp_seq ?_
  refine wp_seq ?_
  refine r_lit ?_
  refine s_val wkP F1 rfl rfl rfl rfl (y_move F1 rfl rfl) ?_; intro a2 F2; clear F1
  refine s_val wkP F2 rfl rfl rfl rfl (y_lenS F2 rfl Tryd.underlying23 rfl) ?_; intro a3 F3; clear F2
  refine s_val wkP F3 rfl rfl rfl rfl (y_move F3 rfl rfl) ?_; intro a4 F4; clear F3
  refine s_val wkP F4 rfl rfl rfl rfl (y_lenS F4 rfl Tryd.underlying23 rfl) ?_; intro a5 F5; clear F4
  refine s_val wkP F5 rfl rfl rfl rfl (y_neq F5 rfl rfl rfl) ?_; intro a6 F6; clear F5
  refine wpList_nil ?_
  refine c_then ?_
  refine x_condN F6 rfl (fun hc => ?_) (fun hc => ?_)
  · skip
    refine wp_seq ?_
    refine r_lit ?_
    refine s_val wkP F6 rfl rfl rfl rfl (y_assign F6 rfl rfl) ?_; intro a8 F8; clear F6
    refine wpList_nil ?_
    refine c_then ?_
    refine wp_ret ?_
    refine c_thenR ?_
    refine x_ret1 F8 rfl rfl ?_
    refine ⟨ret_bool ?_, H0.drop0⟩
    rw [eq_comm, decide_eq_false_iff_not]
    intro e
    exact hc (by rw [e])
  · skip
    refine wp_skip ?_
    refine c_then ?_
    refine wp_seq ?_
    refine wp_seq ?_
    refine r_lit ?_
    refine s_val wkP F6 rfl rfl rfl rfl (y_assign F6 rfl rfl) ?_; intro a9 F9; clear F6
    refine wpList_nil ?_
    refine c_then ?_
    refine wp_block ?_
    refine x_loop (G := Nat) (fun k aa ww => Fr ⟨26, []⟩ aa [(0, .slice p xs.length cp), (1, .slice q ys.length cq), (5, .int .i64 (((k : Nat) : Int)))] ∧ St w ww [] ∧ (k ≤ xs.length) ∧ (xs.take k = ys.take k)) (fun k => xs.length - k) 0 ⟨F9.cut _ ⟨rfl, rfl, rfl, trivial⟩, H0, Nat.zero_le _, rfl⟩ ?_
    clear F9
    rintro k a10 w10 ⟨F10, H10, hk, hpre⟩
    refine wp_seq ?_
    refine wp_seq ?_
    refine r_lit ?_
    refine s_val wkP F10 rfl rfl rfl rfl (y_move F10 rfl rfl) ?_; intro a11 F11; clear F10
    refine s_val wkP F11 rfl rfl rfl rfl (y_move F11 rfl rfl) ?_; intro a12 F12; clear F11
    refine s_val wkP F12 rfl rfl rfl rfl (y_lenS F12 rfl Tryd.underlying23 rfl) ?_; intro a13 F13; clear F12
    refine s_val wkP F13 rfl rfl rfl rfl (y_lss F13 rfl rfl rfl) ?_; intro a14 F14; clear F13
    refine wpList_nil ?_
    refine c_then ?_
    refine x_condP F14 rfl (fun hlt => ?_) (fun hlt => ?_)
    · skip
      refine wp_skip ?_
      refine c_then ?_
      refine wp_seq ?_
      refine wp_block ?_
      refine wp_seq ?_
      refine q_region (fun u => St w u []) (by kernel_rfl) (by kernel_rfl) H10.drew ?_
      refine q_val F14 rfl rfl rfl (fun u hu => y_move F14 rfl rfl) ?_; intro a16 F16; clear F14
      refine q_val F16 rfl rfl rfl (fun u hu => y_move F16 rfl rfl) ?_; intro a17 F17; clear F16
      obtain ⟨bb18, of18, hpe18, hrow18⟩ := hp (by omega)
      obtain ⟨x, mx⟩ : ∃ x, (xs)[k]? = some x := ⟨_, List.getElem?_eq_getElem (by first | omega | (simp only [List.length_set]; omega))⟩
      refine q_val F17 rfl rfl rfl (fun u hu => y_indexP F17 elemStr rfl rfl rfl hpe18 (by omega)) ?_; intro a20 F20; clear F17
      refine q_val F20 rfl rfl rfl (fun u hu => y_load1 F20 plStr rfl rfl (Row.elem txC_len (hrow18.st hu) (fun _ _ => trivial) mx 0 _ rfl)) ?_; intro a21 F21; clear F20
      refine q_val F21 rfl rfl rfl (fun u hu => y_move F21 rfl rfl) ?_; intro a22 F22; clear F21
      refine q_val F22 rfl rfl rfl (fun u hu => y_move F22 rfl rfl) ?_; intro a23 F23; clear F22
      obtain ⟨bb24, of24, hpe24, hrow24⟩ := hq (by omega)
      obtain ⟨y, my⟩ : ∃ x, (ys)[k]? = some x := ⟨_, List.getElem?_eq_getElem (by first | omega | (simp only [List.length_set]; omega))⟩
      refine q_val F23 rfl rfl rfl (fun u hu => y_indexP F23 elemStr rfl rfl rfl hpe24 (by omega)) ?_; intro a26 F26; clear F23
      refine q_val F26 rfl rfl rfl (fun u hu => y_load1 F26 plStr rfl rfl (Row.elem txC_len (hrow24.st hu) (fun _ _ => trivial) my 0 _ rfl)) ?_; intro a27 F27; clear F26
      refine q_val F27 rfl rfl rfl (fun u hu => y_neT (l := x) (m := y) F27 rfl rfl rfl) ?_; intro a28 F28; clear F27
      refine q_nil ?_; intro w29 H29
      refine c_then ?_
      refine x_condN F28 rfl (fun hd => ?_) (fun hd => ?_)
      · skip
        refine wp_seq ?_
        refine r_lit ?_
        refine s_val wkP F28 rfl rfl rfl rfl (y_assign F28 rfl rfl) ?_; intro a31 F31; clear F28
        refine wpList_nil ?_
        refine c_then ?_
        refine wp_ret ?_
        refine c_blkR ?_
        refine c_thenR ?_
        refine c_thenR ?_
        refine c_blkR ?_
        refine c_thenR ?_
        refine x_ret1 F31 rfl rfl ?_
        refine ⟨ret_bool ?_, H29.drop0⟩
        rw [eq_comm, decide_eq_false_iff_not]
        intro e
        subst e
        rw [mx] at my
        exact hd (Option.some.inj my)
      · skip
        refine wp_skip ?_
        refine c_blkN ?_
        refine c_then ?_
        refine r_lit ?_
        refine s_val wkP F28 rfl rfl rfl rfl (y_move F28 rfl rfl) ?_; intro a32 F32; clear F28
        refine s_val wkP F32 rfl rfl rfl rfl (y_add F32 rfl rfl rfl (r := (((k : Nat) : Int)) + (1)) (wrap_i64 (by omega) (by omega) (by omega))) ?_; intro a33 F33; clear F32
        refine s_val wkP F33 rfl rfl rfl rfl (y_assign F33 rfl rfl) ?_; intro a34 F34; clear F33
        refine wpList_nil ?_
        refine c_then ?_
        exact ⟨k + 1, ⟨F34.cut _ ⟨rfl, rfl, rfl, trivial⟩, H29, by omega, by rw [List.take_add_one, List.take_add_one, mx, my, hpre, hd]⟩, by first | omega | (dsimp only; omega)⟩
    · skip
      refine wp_exit ?_
      refine c_thenX ?_
      refine c_thenX ?_
      refine c_hit ?_
      refine c_then ?_
      refine wp_seq ?_
      refine r_lit ?_
      refine s_val wkP F14 rfl rfl rfl rfl (y_assign F14 rfl rfl) ?_; intro a35 F35; clear F14
      refine wpList_nil ?_
      refine c_then ?_
      refine wp_ret ?_
      refine x_ret1 F35 rfl rfl ?_
      refine ⟨ret_bool ?_, H10.drop0⟩
      rw [eq_comm, decide_eq_true_eq]
      rw [List.take_of_length_le (by omega), List.take_of_length_le (by omega)] at hpre
      exact hpre
theorem ent13 : ∀ args w, (callFunc 13 args).run Tryd.prog w = .ok (.enter 13 args) w := enters Tryd.func13 (by kernel_rfl) rfl
set_option maxRecDepth 100000 in
set_option maxHeartbeats 2000000 in
theorem rright (l : List UInt8) (hl : l.length ≤ 80000) (w : World) :
    Calls Tryd.prog 25 [.string (txb l)].toArray w (fun e w' => e = .returned (.bool (okP l)) ∧ St w w' []) := by
  refine x_enter Tryd.func25 rfl rfl rfl ?_
  intro a0 F0
  replace F0 : Fr ⟨11, []⟩ a0 [(0, .string (txb l))] := F0
  have H0 := St.nil w
  refine wp_seq ?_
  refine r_lit ?_
  refine s_val wkP F0 rfl rfl rfl rfl (y_assign F0 rfl rfl) ?_; intro a1 F1; clear F0
  refine wpList_nil ?_
  refine c_then ?_
  refine wp_seq ?_
  refine r_lit ?_
  refine s_val wkP F1 rfl rfl rfl rfl (y_move F1 rfl rfl) ?_; intro a2 F2; clear F1
  refine s_call wkP F2 rfl rfl rfl rfl (y_call F2 rfl rfl ent8) (rsplit l (by omega) _) ?_; intro vvv1 w3 a3 hR3 F3; clear F2
  obtain ⟨v1, rfl, hEv1⟩ := hR3
  have H3 : St w w3 [HP.own 9 1 v1 ((pns l).length) (rows txC (pns l))] := H0.call hEv1
  have hplv1 := pns_len l
  refine s_val wkP F3 rfl rfl rfl rfl (y_move F3 rfl rfl) ?_; intro a4 F4; clear F3
  refine s_val wkP F4 rfl rfl rfl rfl (y_extract F4 rfl rfl rfl) ?_; intro a5 F5; clear F4
  refine s_val wkP F5 rfl rfl rfl rfl (y_extract F5 rfl rfl rfl) ?_; intro a6 F6; clear F5
  refine s_val wkP F6 rfl rfl rfl rfl (y_assign F6 rfl rfl) ?_; intro a7 F7; clear F6
  refine s_val wkP F7 rfl rfl rfl rfl (y_assign F7 rfl rfl) ?_; intro a8 F8; clear F7
  refine wpList_nil ?_
  refine c_then ?_
  refine wp_seq ?_
  refine r_lit ?_
  refine s_val wkP F8 rfl rfl rfl rfl (y_move F8 rfl rfl) ?_; intro a9 F9; clear F8
  refine s_val wkP F9 rfl rfl rfl rfl (y_assign F9 rfl rfl) ?_; intro a10 F10; clear F9
  refine wpList_nil ?_
  refine c_then ?_
  refine wp_ret ?_
  refine x_ret1 F10 rfl rfl ?_
  exact ⟨rfl, H3.drop0⟩
theorem ent25 : ∀ args w, (callFunc 25 args).run Tryd.prog w = .ok (.enter 25 args) w := enters Tryd.func25 (by kernel_rfl) rfl
set_option maxRecDepth 100000 in
set_option maxHeartbeats 2000000 in
theorem rparent (l : List UInt8) (hl : l.length ≤ 80000) (w : World) :
    Calls Tryd.prog 16 [.string (txb l)].toArray w (fun e w' => e = .returned (.string (txb (parP l))) ∧ St w w' []) := by
  refine x_enter Tryd.func16 rfl rfl rfl ?_
  intro a0 F0
  replace F0 : Fr ⟨19, []⟩ a0 [(0, .string (txb l))] := F0
  have H0 := St.nil w
  refine wp_seq ?_
  refine r_lit ?_
  refine s_val wkP F0 rfl rfl rfl rfl (y_assign F0 rfl rfl) ?_; intro a1 F1; clear F0
  refine wpList_nil ?_
  refine c_then ?_
  refine wp_seq ?_
  refine r_lit ?_
  refine s_val wkP F1 rfl rfl rfl rfl (y_move F1 rfl rfl) ?_; intro a2 F2; clear F1
  refine s_call wkP F2 rfl rfl rfl rfl (y_call F2 rfl rfl ent8) (rsplit l (by omega) _) ?_; intro vvv1 w3 a3 hR3 F3; clear F2
  obtain ⟨v1, rfl, hEv1⟩ := hR3
  have H3 : St w w3 [HP.own 9 1 v1 ((pns l).length) (rows txC (pns l))] := H0.call hEv1
  have hplv1 := pns_len l
  refine s_val wkP F3 rfl rfl rfl rfl (y_move F3 rfl rfl) ?_; intro a4 F4; clear F3
  refine s_val wkP F4 rfl rfl rfl rfl (y_extract F4 rfl rfl rfl) ?_; intro a5 F5; clear F4
  refine s_val wkP F5 rfl rfl rfl rfl (y_extract F5 rfl rfl rfl) ?_; intro a6 F6; clear F5
  refine s_val wkP F6 rfl rfl rfl rfl (y_assign F6 rfl rfl) ?_; intro a7 F7; clear F6
  refine s_val wkP F7 rfl rfl rfl rfl (y_assign F7 rfl rfl) ?_; intro a8 F8; clear F7
  refine wpList_nil ?_
  refine c_then ?_
  refine wp_seq ?_
  refine wp_seq ?_
  refine r_lit ?_
  refine s_val wkP F8 rfl rfl rfl rfl (y_move F8 rfl rfl) ?_; intro a9 F9; clear F8
  obtain ⟨p10, cap10, rfl, hcap10, hp10⟩ := H3.ownForm 0 rfl
  refine s_val wkP F9 rfl rfl rfl rfl (y_lenS F9 rfl Tryd.underlying23 rfl) ?_; intro a11 F11; clear F9
  refine s_val wkP F11 rfl rfl rfl rfl (y_eql F11 rfl rfl rfl) ?_; intro a12 F12; clear F11
  refine wpList_nil ?_
  refine c_then ?_
  refine x_condP F12 rfl (fun hz => ?_) (fun hz => ?_)
  · skip
    refine wp_seq ?_
    refine r_lit ?_
    refine s_val wkP F12 rfl rfl rfl rfl (y_assign F12 rfl rfl) ?_; intro a14 F14; clear F12
    refine wpList_nil ?_
    refine c_then ?_
    refine wp_ret ?_
    refine c_thenR ?_
    refine x_ret1 F14 rfl rfl ?_
    have h0 : pns l = [] := List.eq_nil_of_length_eq_zero (by omega)
    exact ⟨by simp [parP, h0]; rfl, H3.drop0⟩
  · skip
    refine wp_skip ?_
    refine c_then ?_
    refine wp_seq ?_
    refine r_lit ?_
    refine s_val wkP F12 rfl rfl rfl rfl (y_move F12 rfl rfl) ?_; intro a15 F15; clear F12
    refine s_val wkP F15 rfl rfl rfl rfl (y_move F15 rfl rfl) ?_; intro a16 F16; clear F15
    refine s_val wkP F16 rfl rfl rfl rfl (y_lenS F16 rfl Tryd.underlying23 rfl) ?_; intro a17 F17; clear F16
    refine s_val wkP F17 rfl rfl rfl rfl (y_sub F17 rfl rfl rfl (r := (((pns l).length - 1 : Nat) : Int)) (wrap_i64 (by omega) (by omega) (by omega))) ?_; intro a18 F18; clear F17
    refine s_val wkP F18 rfl rfl rfl rfl (y_sliceHi (j := (pns l).length - 1) F18 elemStr rfl rfl rfl (by omega)) ?_; intro a19 F19; clear F18
    refine s_callV wkP F19 rfl rfl rfl rfl (y_call F19 rfl rfl ent9) (rjoin ((pns l).take ((pns l).length - 1)) p10 _ _ (by rw [List.length_take]; omega) (by have h2 := tot_take (pns l) ((pns l).length - 1); have h3 := pns_tot l; omega) _ (fun h => by obtain ⟨b, e⟩ := hp10 (by omega); exact ⟨b, 0, e, Row.takeT (H3.ownRowP 0 rfl e) _⟩)) ?_; intro w20 a20 hR20 F20; clear F19
    have H20 : St w w20 [HP.own 9 1 (.slice p10 ((pns l).length) cap10) ((pns l).length) (rows txC (pns l))] := H3.call hR20
    refine s_val wkP F20 rfl rfl rfl rfl (y_assign F20 rfl rfl) ?_; intro a21 F21; clear F20
    refine wpList_nil ?_
    refine c_then ?_
    refine wp_ret ?_
    refine x_ret1 F21 rfl rfl ?_
    have h0 : pns l ≠ [] := fun h => hz (by rw [h]; rfl)
    exact ⟨by rw [parP_some h0], H20.drop0⟩
theorem ent16 : ∀ args w, (callFunc 16 args).run Tryd.prog w = .ok (.enter 16 args) w := enters Tryd.func16 (by kernel_rfl) rfl
set_option maxRecDepth 100000 in
set_option maxHeartbeats 2000000 in
theorem rbase (l : List UInt8) (hl : l.length ≤ 80000) (w : World) :
    Calls Tryd.prog 18 [.string (txb l)].toArray w (fun e w' => e = .returned (.string (txb (basP l))) ∧ St w w' []) := by
  refine x_enter Tryd.func18 rfl rfl rfl ?_
  intro a0 F0
  replace F0 : Fr ⟨19, []⟩ a0 [(0, .string (txb l))] := F0
  have H0 := St.nil w
  refine wp_seq ?_
  refine r_lit ?_
  refine s_val wkP F0 rfl rfl rfl rfl (y_assign F0 rfl rfl) ?_; intro a1 F1; clear F0
  refine wpList_nil ?_
  refine c_then ?_
  refine wp_seq ?_
  refine r_lit ?_
  refine s_val wkP F1 rfl rfl rfl rfl (y_move F1 rfl rfl) ?_; intro a2 F2; clear F1
  refine s_call wkP F2 rfl rfl rfl rfl (y_call F2 rfl rfl ent8) (rsplit l (by omega) _) ?_; intro vvv1 w3 a3 hR3 F3; clear F2
  obtain ⟨v1, rfl, hEv1⟩ := hR3
  have H3 : St w w3 [HP.own 9 1 v1 ((pns l).length) (rows txC (pns l))] := H0.call hEv1
  have hplv1 := pns_len l
  refine s_val wkP F3 rfl rfl rfl rfl (y_move F3 rfl rfl) ?_; intro a4 F4; clear F3
  refine s_val wkP F4 rfl rfl rfl rfl (y_extract F4 rfl rfl rfl) ?_; intro a5 F5; clear F4
  refine s_val wkP F5 rfl rfl rfl rfl (y_extract F5 rfl rfl rfl) ?_; intro a6 F6; clear F5
  refine s_val wkP F6 rfl rfl rfl rfl (y_assign F6 rfl rfl) ?_; intro a7 F7; clear F6
  refine s_val wkP F7 rfl rfl rfl rfl (y_assign F7 rfl rfl) ?_; intro a8 F8; clear F7
  refine wpList_nil ?_
  refine c_then ?_
  refine wp_seq ?_
  refine wp_seq ?_
  refine r_lit ?_
  refine s_val wkP F8 rfl rfl rfl rfl (y_move F8 rfl rfl) ?_; intro a9 F9; clear F8
  obtain ⟨p10, cap10, rfl, hcap10, hp10⟩ := H3.ownForm 0 rfl
  refine s_val wkP F9 rfl rfl rfl rfl (y_lenS F9 rfl Tryd.underlying23 rfl) ?_; intro a11 F11; clear F9
  refine s_val wkP F11 rfl rfl rfl rfl (y_eql F11 rfl rfl rfl) ?_; intro a12 F12; clear F11
  refine wpList_nil ?_
  refine c_then ?_
  refine x_condP F12 rfl (fun hz => ?_) (fun hz => ?_)
  · skip
    refine wp_seq ?_
    refine r_lit ?_
    refine s_val wkP F12 rfl rfl rfl rfl (y_assign F12 rfl rfl) ?_; intro a14 F14; clear F12
    refine wpList_nil ?_
    refine c_then ?_
    refine wp_ret ?_
    refine c_thenR ?_
    refine x_ret1 F14 rfl rfl ?_
    have h0 : pns l = [] := List.eq_nil_of_length_eq_zero (by omega)
    exact ⟨by simp [basP, h0]; rfl, H3.drop0⟩
  · skip
    refine wp_skip ?_
    refine c_then ?_
    refine wp_seq ?_
    refine r_lit ?_
    refine s_val wkP F12 rfl rfl rfl rfl (y_move F12 rfl rfl) ?_; intro a15 F15; clear F12
    refine s_val wkP F15 rfl rfl rfl rfl (y_move F15 rfl rfl) ?_; intro a16 F16; clear F15
    refine s_val wkP F16 rfl rfl rfl rfl (y_lenS F16 rfl Tryd.underlying23 rfl) ?_; intro a17 F17; clear F16
    refine s_val wkP F17 rfl rfl rfl rfl (y_sub F17 rfl rfl rfl (r := (((pns l).length - 1 : Nat) : Int)) (wrap_i64 (by omega) (by omega) (by omega))) ?_; intro a18 F18; clear F17
    obtain ⟨bb19, hpe19⟩ := hp10 (by omega)
    obtain ⟨x, mx⟩ : ∃ x, ((pns l))[(pns l).length - 1]? = some x := ⟨_, List.getElem?_eq_getElem (by first | omega | (simp only [List.length_set]; omega))⟩
    refine s_val wkP F18 rfl rfl rfl rfl (y_indexP F18 elemStr rfl rfl rfl hpe19 (by omega)) ?_; intro a21 F21; clear F18
    refine s_val wkP F21 rfl rfl rfl rfl (y_load1 F21 plStr rfl rfl (Row.elem txC_len (H3.ownRowP 0 rfl hpe19) (fun _ _ => trivial) mx 0 _ rfl)) ?_; intro a22 F22; clear F21
    refine s_val wkP F22 rfl rfl rfl rfl (y_assign F22 rfl rfl) ?_; intro a23 F23; clear F22
    refine wpList_nil ?_
    refine c_then ?_
    refine wp_ret ?_
    refine x_ret1 F23 rfl rfl ?_
    exact ⟨by simp [basP, mx], H3.drop0⟩
theorem ent18 : ∀ args w, (callFunc 18 args).run Tryd.prog w = .ok (.enter 18 args) w := enters Tryd.func18 (by kernel_rfl) rfl
set_option maxRecDepth 100000 in
set_option maxHeartbeats 2000000 in
theorem rwithin (l m : List UInt8) (hl : l.length ≤ 80000) (hm : m.length ≤ 80000) (w : World) :
    Calls Tryd.prog 21 [.string (txb l), .string (txb m)].toArray w (fun e w' => e = .returned (.bool (wthP l m)) ∧ St w w' []) := by
  refine x_enter Tryd.func21 rfl rfl rfl ?_
  intro a0 F0
  replace F0 : Fr ⟨40, []⟩ a0 [(0, .string (txb l)), (1, .string (txb m))] := F0
  have H0 := St.nil w
  refine wp_seq ?_
  refine r_lit ?_
  refine s_val wkP F0 rfl rfl rfl rfl (y_assign F0 rfl rfl) ?_; intro a1 F1; clear F0
  refine wpList_nil ?_
  refine c_then ?_
  refine wp_seq ?_
  refine wp_seq ?_
  refine r_lit ?_
  refine s_val wkP F1 rfl rfl rfl rfl (y_move F1 rfl rfl) ?_; intro a2 F2; clear F1
  refine s_callV wkP F2 rfl rfl rfl rfl (y_call F2 rfl rfl ent25) (rright l (by omega) _) ?_; intro w3 a3 hR3 F3; clear F2
  have H3 : St w w3 [] := H0.call hR3
  refine s_val wkP F3 rfl rfl rfl rfl (y_not F3 rfl rfl) ?_; intro a4 F4; clear F3
  refine s_val wkP F4 rfl rfl rfl rfl (y_move F4 rfl rfl) ?_; intro a5 F5; clear F4
  refine g_splitB (k := 8) F5 rfl (fun h1 F6 => ?_) (fun h1 F6 => ?_)
  · clear F5
    refine g_off wkP F6 rfl rfl rfl rfl rfl rfl rfl ?_; intro a7 F7; clear F6
    refine g_off wkP F7 rfl rfl rfl rfl rfl rfl rfl ?_; intro a8 F8; clear F7
    refine g_off wkP F8 rfl rfl rfl rfl rfl rfl rfl ?_; intro a9 F9; clear F8
    refine s_val wkP F9 rfl rfl rfl rfl (y_pickT F9 rfl rfl rfl) ?_; intro a10 F10; clear F9
    refine wpList_nil ?_
    refine c_then ?_
    refine x_condT F10 rfl ?_
    refine wp_seq ?_
    refine r_lit ?_
    refine s_val wkP F10 rfl rfl rfl rfl (y_assign F10 rfl rfl) ?_; intro a12 F12; clear F10
    refine wpList_nil ?_
    refine c_then ?_
    refine wp_ret ?_
    refine c_thenR ?_
    refine x_ret1 F12 rfl rfl ?_
    try simp only [Bool.not_eq_true', Bool.not_eq_false'] at h1
    try simp only [Bool.not_eq_true', Bool.not_eq_false'] at h2
    refine ⟨ret_bool ?_, H3.drop0⟩
    clear F12
    rw [← rwth_eq]
    unfold rwth
    try rw [Int.ofNat_lt] at h5
    simp [*]
    try (intro h; exact absurd h h5)
  · clear F5
    refine g_onP F6 rfl rfl rfl rfl ?_
    refine s_val wkP F6 rfl rfl rfl rfl (y_move F6 rfl rfl) ?_; intro a13 F13; clear F6
    refine g_onP F13 rfl rfl rfl rfl ?_
    refine s_callV wkP F13 rfl rfl rfl rfl (y_call F13 rfl rfl ent25) (rright m (by omega) _) ?_; intro w14 a14 hR14 F14; clear F13
    have H14 : St w w14 [] := H3.call hR14
    refine g_onP F14 rfl rfl rfl rfl ?_
    refine s_val wkP F14 rfl rfl rfl rfl (y_not F14 rfl rfl) ?_; intro a15 F15; clear F14
    refine s_val wkP F15 rfl rfl rfl rfl (y_pickF F15 rfl rfl rfl) ?_; intro a16 F16; clear F15
    refine wpList_nil ?_
    refine c_then ?_
    refine x_cond F16 rfl (fun h2 => ?_) (fun h2 => ?_)
    · skip
      refine wp_seq ?_
      refine r_lit ?_
      refine s_val wkP F16 rfl rfl rfl rfl (y_assign F16 rfl rfl) ?_; intro a18 F18; clear F16
      refine wpList_nil ?_
      refine c_then ?_
      refine wp_ret ?_
      refine c_thenR ?_
      refine x_ret1 F18 rfl rfl ?_
      try simp only [Bool.not_eq_true', Bool.not_eq_false'] at h1
      try simp only [Bool.not_eq_true', Bool.not_eq_false'] at h2
      refine ⟨ret_bool ?_, H14.drop0⟩
      clear F18
      rw [← rwth_eq]
      unfold rwth
      try rw [Int.ofNat_lt] at h5
      simp [*]
      try (intro h; exact absurd h h5)
    · skip
      refine wp_skip ?_
      refine c_then ?_
      refine wp_seq ?_
      refine wp_seq ?_
      refine r_lit ?_
      refine s_val wkP F16 rfl rfl rfl rfl (y_move F16 rfl rfl) ?_; intro a19 F19; clear F16
      refine s_val wkP F19 rfl rfl rfl rfl (y_eqT (l := l) (m := [47]) F19 rfl rfl rfl) ?_; intro a20 F20; clear F19
      refine s_val wkP F20 rfl rfl rfl rfl (y_move F20 rfl rfl) ?_; intro a21 F21; clear F20
      refine g_split (k := 15) F21 rfl (fun h3 F22 => ?_) (fun h3 F22 => ?_)
      · clear F21
        refine g_off wkP F22 rfl rfl rfl rfl rfl rfl rfl ?_; intro a23 F23; clear F22
        refine g_off wkP F23 rfl rfl rfl rfl rfl rfl rfl ?_; intro a24 F24; clear F23
        refine g_off wkP F24 rfl rfl rfl rfl rfl rfl rfl ?_; intro a25 F25; clear F24
        refine s_val wkP F25 rfl rfl rfl rfl (y_pickT F25 rfl rfl rfl) ?_; intro a26 F26; clear F25
        refine wpList_nil ?_
        refine c_then ?_
        refine x_condT F26 rfl ?_
        refine wp_seq ?_
        refine r_lit ?_
        refine s_val wkP F26 rfl rfl rfl rfl (y_assign F26 rfl rfl) ?_; intro a28 F28; clear F26
        refine wpList_nil ?_
        refine c_then ?_
        refine wp_ret ?_
        refine c_thenR ?_
        refine x_ret1 F28 rfl rfl ?_
        try simp only [Bool.not_eq_true', Bool.not_eq_false'] at h1
        try simp only [Bool.not_eq_true', Bool.not_eq_false'] at h2
        refine ⟨ret_bool ?_, H14.drop0⟩
        clear F28
        rw [← rwth_eq]
        unfold rwth
        try rw [Int.ofNat_lt] at h5
        simp [*]
        try decide
      · clear F21
        refine g_onP F22 rfl rfl rfl rfl ?_
        refine s_val wkP F22 rfl rfl rfl rfl (y_move F22 rfl rfl) ?_; intro a29 F29; clear F22
        refine g_onP F29 rfl rfl rfl rfl ?_
        refine s_val wkP F29 rfl rfl rfl rfl (y_move F29 rfl rfl) ?_; intro a30 F30; clear F29
        refine g_onP F30 rfl rfl rfl rfl ?_
        refine s_val wkP F30 rfl rfl rfl rfl (y_eqT (l := l) (m := m) F30 rfl rfl rfl) ?_; intro a31 F31; clear F30
        refine s_val wkP F31 rfl rfl rfl rfl (y_pickF F31 rfl rfl rfl) ?_; intro a32 F32; clear F31
        refine wpList_nil ?_
        refine c_then ?_
        refine x_condP F32 rfl (fun h4 => ?_) (fun h4 => ?_)
        · skip
          refine wp_seq ?_
          refine r_lit ?_
          refine s_val wkP F32 rfl rfl rfl rfl (y_assign F32 rfl rfl) ?_; intro a34 F34; clear F32
          refine wpList_nil ?_
          refine c_then ?_
          refine wp_ret ?_
          refine c_thenR ?_
          refine x_ret1 F34 rfl rfl ?_
          try simp only [Bool.not_eq_true', Bool.not_eq_false'] at h1
          try simp only [Bool.not_eq_true', Bool.not_eq_false'] at h2
          refine ⟨ret_bool ?_, H14.drop0⟩
          clear F34
          rw [← rwth_eq]
          unfold rwth
          try rw [Int.ofNat_lt] at h5
          simp [*]
          try decide
        · skip
          refine wp_skip ?_
          refine c_then ?_
          refine wp_seq ?_
          refine r_lit ?_
          refine s_val wkP F32 rfl rfl rfl rfl (y_move F32 rfl rfl) ?_; intro a35 F35; clear F32
          refine s_val wkP F35 rfl rfl rfl rfl (y_lenT (l := m) F35 rfl Tryd.underlying9 rfl) ?_; intro a36 F36; clear F35
          refine s_val wkP F36 rfl rfl rfl rfl (y_move F36 rfl rfl) ?_; intro a37 F37; clear F36
          refine s_val wkP F37 rfl rfl rfl rfl (y_lenT (l := l) F37 rfl Tryd.underlying9 rfl) ?_; intro a38 F38; clear F37
          refine s_val wkP F38 rfl rfl rfl rfl (y_gtr F38 rfl rfl rfl) ?_; intro a39 F39; clear F38
          refine s_val wkP F39 rfl rfl rfl rfl (y_move F39 rfl rfl) ?_; intro a40 F40; clear F39
          refine g_split (k := 25) F40 rfl (fun h5 F41 => ?_) (fun h5 F41 => ?_)
          · clear F40
            refine g_onP F41 rfl rfl rfl rfl ?_
            refine s_val wkP F41 rfl rfl rfl rfl (y_move F41 rfl rfl) ?_; intro a42 F42; clear F41
            refine g_onP F42 rfl rfl rfl rfl ?_
            refine s_val wkP F42 rfl rfl rfl rfl (y_move F42 rfl rfl) ?_; intro a43 F43; clear F42
            refine g_onP F43 rfl rfl rfl rfl ?_
            refine s_val wkP F43 rfl rfl rfl rfl (y_lenT (l := l) F43 rfl Tryd.underlying9 rfl) ?_; intro a44 F44; clear F43
            refine g_onP F44 rfl rfl rfl rfl ?_
            refine s_val wkP F44 rfl rfl rfl rfl (y_sliceThi (l := m) (j := (l).length) F44 rfl Tryd.underlying9 rfl rfl (by first | omega | (simp; omega))) ?_; intro a45 F45; clear F44
            refine g_onP F45 rfl rfl rfl rfl ?_
            refine s_val wkP F45 rfl rfl rfl rfl (y_move F45 rfl rfl) ?_; intro a46 F46; clear F45
            refine g_onP F46 rfl rfl rfl rfl ?_
            refine s_val wkP F46 rfl rfl rfl rfl (y_eqT (l := ((m).take ((l).length))) (m := l) F46 rfl rfl rfl) ?_; intro a47 F47; clear F46
            refine s_val wkP F47 rfl rfl rfl rfl (y_pickT F47 rfl rfl rfl) ?_; intro a48 F48; clear F47
            refine s_val wkP F48 rfl rfl rfl rfl (y_move F48 rfl rfl) ?_; intro a49 F49; clear F48
            refine g_split (k := 33) F49 rfl (fun h6 F50 => ?_) (fun h6 F50 => ?_)
            · clear F49
              refine g_onP F50 rfl rfl rfl rfl ?_
              refine s_val wkP F50 rfl rfl rfl rfl (y_move F50 rfl rfl) ?_; intro a51 F51; clear F50
              refine g_onP F51 rfl rfl rfl rfl ?_
              refine s_val wkP F51 rfl rfl rfl rfl (y_move F51 rfl rfl) ?_; intro a52 F52; clear F51
              refine g_onP F52 rfl rfl rfl rfl ?_
              refine s_val wkP F52 rfl rfl rfl rfl (y_lenT (l := l) F52 rfl Tryd.underlying9 rfl) ?_; intro a53 F53; clear F52
              refine g_onP F53 rfl rfl rfl rfl ?_
              obtain ⟨c, mc⟩ : ∃ x, (m)[(l).length]? = some x := ⟨_, List.getElem?_eq_getElem (by omega)⟩
              have hc := c.toNat_lt
              refine s_val wkP F53 rfl rfl rfl rfl (y_indexT (l := m) (i := (l).length) F53 rfl Tryd.underlying9 rfl rfl mc) ?_; intro a55 F55; clear F53
              refine g_onP F55 rfl rfl rfl rfl ?_
              refine s_val wkP F55 rfl rfl rfl rfl (y_eql F55 rfl rfl rfl) ?_; intro a56 F56; clear F55
              refine s_val wkP F56 rfl rfl rfl rfl (y_pickT F56 rfl rfl rfl) ?_; intro a57 F57; clear F56
              refine s_val wkP F57 rfl rfl rfl rfl (y_assign F57 rfl rfl) ?_; intro a58 F58; clear F57
              refine wpList_nil ?_
              refine c_then ?_
              refine wp_ret ?_
              refine x_ret1 F58 rfl rfl ?_
              try simp only [Bool.not_eq_true', Bool.not_eq_false'] at h1
              try simp only [Bool.not_eq_true', Bool.not_eq_false'] at h2
              refine ⟨ret_bool ?_, H14.drop0⟩
              clear F58
              rw [← rwth_eq]
              unfold rwth
              try rw [Int.ofNat_lt] at h5
              simp [*]
              rw [show ((c.toNat : Int) = 47) = (c = 47) from propext ⟨fun h => UInt8.toNat_inj.1 (by have : (47 : UInt8).toNat = 47 := rfl; omega), fun h => by rw [h]; rfl⟩]
              rw [(List.getElem?_eq_some_iff.1 mc).2]
            · clear F49
              refine g_off wkP F50 rfl rfl rfl rfl rfl rfl rfl ?_; intro a59 F59; clear F50
              refine g_off wkP F59 rfl rfl rfl rfl rfl rfl rfl ?_; intro a60 F60; clear F59
              refine g_off wkP F60 rfl rfl rfl rfl rfl rfl rfl ?_; intro a61 F61; clear F60
              refine g_off wkP F61 rfl rfl rfl rfl rfl rfl rfl ?_; intro a62 F62; clear F61
              refine g_off wkP F62 rfl rfl rfl rfl rfl rfl rfl ?_; intro a63 F63; clear F62
              refine s_val wkP F63 rfl rfl rfl rfl (y_pickF F63 rfl rfl rfl) ?_; intro a64 F64; clear F63
              refine s_val wkP F64 rfl rfl rfl rfl (y_assign F64 rfl rfl) ?_; intro a65 F65; clear F64
              refine wpList_nil ?_
              refine c_then ?_
              refine wp_ret ?_
              refine x_ret1 F65 rfl rfl ?_
              try simp only [Bool.not_eq_true', Bool.not_eq_false'] at h1
              try simp only [Bool.not_eq_true', Bool.not_eq_false'] at h2
              refine ⟨ret_bool ?_, H14.drop0⟩
              clear F65
              rw [← rwth_eq]
              unfold rwth
              try rw [Int.ofNat_lt] at h5
              simp [*]
              try (intro h; exact absurd h h5)
          · clear F40
            refine g_off wkP F41 rfl rfl rfl rfl rfl rfl rfl ?_; intro a66 F66; clear F41
            refine g_off wkP F66 rfl rfl rfl rfl rfl rfl rfl ?_; intro a67 F67; clear F66
            refine g_off wkP F67 rfl rfl rfl rfl rfl rfl rfl ?_; intro a68 F68; clear F67
            refine g_off wkP F68 rfl rfl rfl rfl rfl rfl rfl ?_; intro a69 F69; clear F68
            refine g_off wkP F69 rfl rfl rfl rfl rfl rfl rfl ?_; intro a70 F70; clear F69
            refine g_off wkP F70 rfl rfl rfl rfl rfl rfl rfl ?_; intro a71 F71; clear F70
            refine s_val wkP F71 rfl rfl rfl rfl (y_pickF F71 rfl rfl rfl) ?_; intro a72 F72; clear F71
            refine s_val wkP F72 rfl rfl rfl rfl (y_move F72 rfl rfl) ?_; intro a73 F73; clear F72
            refine g_off wkP F73 rfl rfl rfl rfl rfl rfl rfl ?_; intro a74 F74; clear F73
            refine g_off wkP F74 rfl rfl rfl rfl rfl rfl rfl ?_; intro a75 F75; clear F74
            refine g_off wkP F75 rfl rfl rfl rfl rfl rfl rfl ?_; intro a76 F76; clear F75
            refine g_off wkP F76 rfl rfl rfl rfl rfl rfl rfl ?_; intro a77 F77; clear F76
            refine g_off wkP F77 rfl rfl rfl rfl rfl rfl rfl ?_; intro a78 F78; clear F77
            refine s_val wkP F78 rfl rfl rfl rfl (y_pickF F78 rfl rfl rfl) ?_; intro a79 F79; clear F78
            refine s_val wkP F79 rfl rfl rfl rfl (y_assign F79 rfl rfl) ?_; intro a80 F80; clear F79
            refine wpList_nil ?_
            refine c_then ?_
            refine wp_ret ?_
            refine x_ret1 F80 rfl rfl ?_
            try simp only [Bool.not_eq_true', Bool.not_eq_false'] at h1
            try simp only [Bool.not_eq_true', Bool.not_eq_false'] at h2
            refine ⟨ret_bool ?_, H14.drop0⟩
            clear F80
            rw [← rwth_eq]
            unfold rwth
            try rw [Int.ofNat_lt] at h5
            simp [*]
            try (intro h; exact absurd h h5)
theorem ent21 : ∀ args w, (callFunc 21 args).run Tryd.prog w = .ok (.enter 21 args) w := enters Tryd.func21 (by kernel_rfl) rfl
end Go.Proofs.YtodggokkklfopaaDoor
