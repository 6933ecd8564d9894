/- The path package. -/
import Derived.Test.YtodggokkklfopaaDoorPatC
set_option linter.unusedSimpArgs false
set_option linter.unusedVariables false
namespace Go.Proofs.YtodggokkklfopaaDoor
open Go.ChangeShapes Go.WideShapes Go.ChangeAt Go.RowKit Go.Tri
theorem jn_cons (x y : List UInt8) (r : List (List UInt8)) : jn (x :: y :: r) = x ++ 47 :: jn (y :: r) := by
  simp [jn, Lib.join, List.intercalate, List.intersperse]
theorem jn_one (x : List UInt8) : jn [x] = x := by simp [jn, Lib.join, List.intercalate]
theorem jn_nil : jn [] = [] := rfl
def tot (xs : List (List UInt8)) : Nat := (xs.map fun x => x.length + 1).sum
theorem jn_tot : ∀ xs : List (List UInt8), (jn xs).length ≤ tot xs
  | [] => by simp [jn_nil]
  | [x] => by simp [jn_one, tot]
  | x :: y :: r => by
    have := jn_tot (y :: r)
    rw [jn_cons]
    simp only [tot, List.map_cons, List.sum_cons, List.length_append, List.length_cons] at *
    omega
theorem tot_take (xs : List (List UInt8)) (k : Nat) : tot (xs.take k) ≤ tot xs := by
  have h : tot xs = tot (xs.take k) + tot (xs.drop k) := by
    unfold tot
    rw [← List.sum_append, ← List.map_append, List.take_append_drop]
  omega
theorem tot_sp : ∀ l : List UInt8, tot (sp l) = l.length + 1
  | [] => rfl
  | c :: r => by
    have ih := tot_sp r
    simp only [sp]
    split
    · simp [tot] at *; omega
    · split
      · rename_i h t e; rw [e] at ih; simp [tot] at *; omega
      · rename_i e; rw [e] at ih; simp [tot] at ih
theorem pns_tot (l : List UInt8) : tot (pns l) ≤ l.length + 1 := by
  unfold pns
  split
  · split
    · simp [tot]
    · rw [tot_sp]; have := trim_le l; omega
  · simp [tot]
theorem pns_len (l : List UInt8) : (pns l).length ≤ l.length + 1 := by
  have h1 : ∀ xs : List (List UInt8), xs.length ≤ tot xs := by
    intro xs
    induction xs with
    | nil => simp
    | cons x xs ih => simp [tot] at *; omega
  have := h1 (pns l); have := pns_tot l; omega
theorem Row.takeT {w : World} {b off : Nat} {xs : List (List UInt8)} (h : Row w b off (rows txC xs)) (k : Nat) : Row w b off (rows txC (xs.take k)) := by
  intro j v hv
  refine h j v ?_
  rw [rows_txC] at hv ⊢
  rw [List.getElem?_map] at hv ⊢
  cases e : (xs.take k)[j]? with
  | none => rw [e] at hv; cases hv
  | some z =>
    rw [e] at hv
    have := (List.getElem?_eq_some_iff.1 e).1
    rw [List.length_take] at this
    rw [List.getElem?_take_of_lt (by omega)] at e
    rw [e]; exact hv
/-- The path of names. -/
def pth (xs : List (List UInt8)) : List UInt8 := [47] ++ jn xs
set_option maxRecDepth 100000 in
set_option maxHeartbeats 2000000 in
theorem pjoin (xs : List (List UInt8)) (p : Option Addr) (n cap : Nat) (hn : xs.length = n) (hx : xs.length ≤ 100000) (hj : (jn xs).length ≤ 100000) (w : World) (hcap : n ≤ cap) (hp : 0 < xs.length → ∃ b off, p = some ⟨b, off, none⟩ ∧ Row w b off (rows txC xs)) :
    Calls Tryd.prog 23 [.slice p n cap].toArray w (fun e w' => e = .returned (.string (txb (pth xs))) ∧ St w w' []) := by
  refine x_enter Tryd.func23 rfl rfl rfl ?_
  intro a0 F0
  replace F0 : Fr ⟨6, []⟩ a0 [(0, .slice p n cap)] := F0
  have H0 := St.nil w
  refine wp_seq ?_
  refine r_lit ?_
  refine s_val wkP F0 rfl rfl rfl rfl (y_assign F0 rfl rfl) ?_; intro a1 F1; clear F0
  refine wpList_nil ?_
  refine c_then ?_
  refine wp_seq ?_
  refine r_lit ?_
  refine s_val wkP F1 rfl rfl rfl rfl (y_move F1 rfl rfl) ?_; intro a2 F2; clear F1
  refine s_callV wkP F2 rfl rfl rfl rfl (y_call F2 rfl rfl ent30) (joinT xs p n cap hn hx (by omega) _ hcap (fun h => by obtain ⟨b, off, e, hr⟩ := hp h; exact ⟨b, off, e, hr.st H0⟩)) ?_; intro w3 a3 hR3 F3; clear F2
  have H3 : St w w3 [] := H0.call hR3
  refine s_val wkP F3 rfl rfl rfl rfl (y_addT (l := [47]) (m := (jn xs)) F3 rfl rfl rfl (by first | omega | (simp; omega))) ?_; intro a4 F4; clear F3
  refine s_val wkP F4 rfl rfl rfl rfl (y_assign F4 rfl rfl) ?_; intro a5 F5; clear F4
  refine wpList_nil ?_
  refine c_then ?_
  refine wp_ret ?_
  refine x_ret1 F5 rfl rfl ?_
  exact ⟨rfl, H3⟩
theorem ent23 : ∀ args w, (callFunc 23 args).run Tryd.prog w = .ok (.enter 23 args) w := enters Tryd.func23 (by kernel_rfl) rfl
set_option maxRecDepth 100000 in
set_option maxHeartbeats 2000000 in
theorem equalT (xs ys : List (List UInt8)) (hx1 : xs.length ≤ 1000000) (hy1 : ys.length ≤ 1000000) (p q : Option Addr) (cp cq : Nat) (w : World) (hp : 0 < xs.length → ∃ b off, p = some ⟨b, off, none⟩ ∧ Row w b off (rows txC xs)) (hq : 0 < ys.length → ∃ b off, q = some ⟨b, off, none⟩ ∧ Row w b off (rows txC ys)) :
    Calls Tryd.prog 24 [.slice p xs.length cp, .slice q ys.length cq].toArray w (fun e w' => e = .returned (.bool (decide (xs = ys))) ∧ St w w' []) := by
  refine x_enter Tryd.func24 rfl rfl rfl ?_
  intro a0 F0
  replace F0 : Fr ⟨26, []⟩ a0 [(0, .slice p xs.length cp), (1, .slice q ys.length cq)] := F0
  have H0 := St.nil w
  refine wp_seq ?_
  refine r_lit ?_
  refine s_val wkP F0 rfl rfl rfl rfl (y_assign F0 rfl rfl) ?_; intro a1 F1; clear F0
  refine wpList_nil ?_
  refine c_then ?_
  refine wp_seq ?_
  refine wp_seq ?_
  refine r_lit ?_
  refine s_val wkP F1 rfl rfl rfl rfl (y_move F1 rfl rfl) ?_; intro a2 F2; clear F1
  refine s_val wkP F2 rfl rfl rfl rfl (y_lenS F2 rfl Tryd.underlying23 rfl) ?_; intro a3 F3; clear F2
  refine s_val wkP F3 rfl rfl rfl rfl (y_move F3 rfl rfl) ?_; intro a4 F4; clear F3
  refine s_val wkP F4 rfl rfl rfl rfl (y_lenS F4 rfl Tryd.underlying23 rfl) ?_; intro a5 F5; clear F4
  refine s_val wkP F5 rfl rfl rfl rfl (y_neq F5 rfl rfl rfl) ?_; intro a6 F6; clear F5
  refine wpList_nil ?_
  refine c_then ?_
  refine x_condN F6 rfl (fun hc => ?_) (fun hc => ?_)
  · skip
    refine wp_seq ?_
    refine r_lit ?_
    refine s_val wkP F6 rfl rfl rfl rfl (y_assign F6 rfl rfl) ?_; intro a8 F8; clear F6
    refine wpList_nil ?_
    refine c_then ?_
    refine wp_ret ?_
    refine c_thenR ?_
    refine x_ret1 F8 rfl rfl ?_
    refine ⟨ret_bool ?_, H0.drop0⟩
    rw [eq_comm, decide_eq_false_iff_not]
    intro e
    exact hc (by rw [e])
  · skip
    refine wp_skip ?_
    refine c_then ?_
    refine wp_seq ?_
    refine wp_seq ?_
    refine r_lit ?_
    refine s_val wkP F6 rfl rfl rfl rfl (y_move F6 rfl rfl) ?_; intro a9 F9; clear F6
    refine s_val wkP F9 rfl rfl rfl rfl (y_lenS F9 rfl Tryd.underlying23 rfl) ?_; intro a10 F10; clear F9
    refine s_val wkP F10 rfl rfl rfl rfl (y_move F10 rfl rfl) ?_; intro a11 F11; clear F10
    refine wpList_nil ?_
    refine c_then ?_
    refine wp_block ?_
    refine x_loop (G := Nat) (fun k aa ww => Fr ⟨26, []⟩ aa [(0, .slice p xs.length cp), (1, .slice q ys.length cq), (12, .int .i64 (((xs.length : Nat) : Int))), (13, .int .i64 (((k : Nat) : Int)))] ∧ St w ww [] ∧ (k ≤ xs.length) ∧ (xs.take k = ys.take k)) (fun k => xs.length - k) 0 ⟨F11.cut _ ⟨rfl, rfl, rfl, rfl, trivial⟩, H0, Nat.zero_le _, rfl⟩ ?_
    clear F11
    rintro k a12 w12 ⟨F12, H12, hk, hpre⟩
    refine wp_seq ?_
    refine r_lit ?_
    refine s_val wkP F12 rfl rfl rfl rfl (y_lss F12 rfl rfl rfl) ?_; intro a13 F13; clear F12
    refine wpList_nil ?_
    refine c_then ?_
    refine wp_seq ?_
    refine x_condP F13 rfl (fun hlt => ?_) (fun hlt => ?_)
    · skip
      refine wp_skip ?_
      refine c_then ?_
      refine wp_seq ?_
      refine wp_block ?_
      refine wp_seq ?_
      refine r_lit ?_
      refine s_val wkP F13 rfl rfl rfl rfl (y_move F13 rfl rfl) ?_; intro a15 F15; clear F13
      refine s_val wkP F15 rfl rfl rfl rfl (y_assign F15 rfl rfl) ?_; intro a16 F16; clear F15
      refine wpList_nil ?_
      refine c_then ?_
      refine wp_seq ?_
      refine q_region (fun u => St w u []) (by kernel_rfl) (by kernel_rfl) H12.drew ?_
      refine q_val F16 rfl rfl rfl (fun u hu => y_move F16 rfl rfl) ?_; intro a17 F17; clear F16
      refine q_val F17 rfl rfl rfl (fun u hu => y_move F17 rfl rfl) ?_; intro a18 F18; clear F17
      obtain ⟨bb19, of19, hpe19, hrow19⟩ := hp (by omega)
      obtain ⟨x, mx⟩ : ∃ x, (xs)[k]? = some x := ⟨_, List.getElem?_eq_getElem (by first | omega | (simp only [List.length_set]; omega))⟩
      refine q_val F18 rfl rfl rfl (fun u hu => y_indexP F18 elemStr rfl rfl rfl hpe19 (by omega)) ?_; intro a21 F21; clear F18
      refine q_val F21 rfl rfl rfl (fun u hu => y_load1 F21 plStr rfl rfl (Row.elem txC_len (hrow19.st hu) (fun _ _ => trivial) mx 0 _ rfl)) ?_; intro a22 F22; clear F21
      refine q_val F22 rfl rfl rfl (fun u hu => y_move F22 rfl rfl) ?_; intro a23 F23; clear F22
      refine q_val F23 rfl rfl rfl (fun u hu => y_move F23 rfl rfl) ?_; intro a24 F24; clear F23
      obtain ⟨bb25, of25, hpe25, hrow25⟩ := hq (by omega)
      obtain ⟨y, my⟩ : ∃ x, (ys)[k]? = some x := ⟨_, List.getElem?_eq_getElem (by first | omega | (simp only [List.length_set]; omega))⟩
      refine q_val F24 rfl rfl rfl (fun u hu => y_indexP F24 elemStr rfl rfl rfl hpe25 (by omega)) ?_; intro a27 F27; clear F24
      refine q_val F27 rfl rfl rfl (fun u hu => y_load1 F27 plStr rfl rfl (Row.elem txC_len (hrow25.st hu) (fun _ _ => trivial) my 0 _ rfl)) ?_; intro a28 F28; clear F27
      refine q_val F28 rfl rfl rfl (fun u hu => y_neT (l := x) (m := y) F28 rfl rfl rfl) ?_; intro a29 F29; clear F28
      refine q_nil ?_; intro w30 H30
      refine c_then ?_
      refine x_condN F29 rfl (fun hd => ?_) (fun hd => ?_)
      · skip
        refine wp_seq ?_
        refine r_lit ?_
        refine s_val wkP F29 rfl rfl rfl rfl (y_assign F29 rfl rfl) ?_; intro a32 F32; clear F29
        refine wpList_nil ?_
        refine c_then ?_
        refine wp_ret ?_
        refine c_blkR ?_
        refine c_thenR ?_
        refine c_thenR ?_
        refine c_blkR ?_
        refine c_thenR ?_
        refine x_ret1 F32 rfl rfl ?_
        refine ⟨ret_bool ?_, H30.drop0⟩
        rw [eq_comm, decide_eq_false_iff_not]
        intro e
        subst e
        rw [mx] at my
        exact hd (Option.some.inj my)
      · skip
        refine wp_skip ?_
        refine c_blkN ?_
        refine c_then ?_
        refine r_lit ?_
        refine s_val wkP F29 rfl rfl rfl rfl (y_add F29 rfl rfl rfl (r := (((k : Nat) : Int)) + (1)) (wrap_i64 (by omega) (by omega) (by omega))) ?_; intro a33 F33; clear F29
        refine s_val wkP F33 rfl rfl rfl rfl (y_move F33 rfl rfl) ?_; intro a34 F34; clear F33
        refine wpList_nil ?_
        refine c_then ?_
        exact ⟨k + 1, ⟨F34.cut _ ⟨rfl, rfl, rfl, rfl, trivial⟩, H30, by omega, by rw [List.take_add_one, List.take_add_one, mx, my, hpre, hd]⟩, by first | omega | (dsimp only; omega)⟩
    · skip
      refine wp_exit ?_
      refine c_thenX ?_
      refine c_thenX ?_
      refine c_hit ?_
      refine c_then ?_
      refine wp_seq ?_
      refine r_lit ?_
      refine s_val wkP F13 rfl rfl rfl rfl (y_assign F13 rfl rfl) ?_; intro a35 F35; clear F13
      refine wpList_nil ?_
      refine c_then ?_
      refine wp_ret ?_
      refine x_ret1 F35 rfl rfl ?_
      refine ⟨ret_bool ?_, H12.drop0⟩
      rw [eq_comm, decide_eq_true_eq]
      rw [List.take_of_length_le (by omega), List.take_of_length_le (by omega)] at hpre
      exact hpre
theorem ent24 : ∀ args w, (callFunc 24 args).run Tryd.prog w = .ok (.enter 24 args) w := enters Tryd.func24 (by kernel_rfl) rfl
set_option maxRecDepth 100000 in
set_option maxHeartbeats 2000000 in
theorem check (l : List UInt8) (hl : l.length ≤ 80000) (w : World) :
    Calls Tryd.prog 12 [.string (txb l)].toArray w (fun e w' => e = .returned (.int .i64 (if okP l = true then 0 else 90)) ∧ St w w' []) := by
  refine x_enter Tryd.func12 rfl rfl rfl ?_
  intro a0 F0
  replace F0 : Fr ⟨12, []⟩ a0 [(0, .string (txb l))] := F0
  have H0 := St.nil w
  refine wp_seq ?_
  refine r_lit ?_
  refine s_val wkP F0 rfl rfl rfl rfl (y_assign F0 rfl rfl) ?_; intro a1 F1; clear F0
  refine wpList_nil ?_
  refine c_then ?_
  refine wp_seq ?_
  refine wp_seq ?_
  refine r_lit ?_
  refine s_val wkP F1 rfl rfl rfl rfl (y_move F1 rfl rfl) ?_; intro a2 F2; clear F1
  refine s_call wkP F2 rfl rfl rfl rfl (y_call F2 rfl rfl ent22) (names l (by omega) _) ?_; intro vvv1 w3 a3 hR3 F3; clear F2
  obtain ⟨v1, rfl, hEv1⟩ := hR3
  have H3 : St w w3 [HP.own 9 1 v1 ((pns l).length) (rows txC (pns l))] := H0.call hEv1
  have hplv1 := pns_len l
  refine s_val wkP F3 rfl rfl rfl rfl (y_move F3 rfl rfl) ?_; intro a4 F4; clear F3
  refine s_val wkP F4 rfl rfl rfl rfl (y_extract F4 rfl rfl rfl) ?_; intro a5 F5; clear F4
  refine s_val wkP F5 rfl rfl rfl rfl (y_extract F5 rfl rfl rfl) ?_; intro a6 F6; clear F5
  refine s_val wkP F6 rfl rfl rfl rfl (y_assign F6 rfl rfl) ?_; intro a7 F7; clear F6
  refine s_val wkP F7 rfl rfl rfl rfl (y_assign F7 rfl rfl) ?_; intro a8 F8; clear F7
  refine wpList_nil ?_
  refine c_then ?_
  refine wp_seq ?_
  refine r_lit ?_
  refine s_val wkP F8 rfl rfl rfl rfl (y_move F8 rfl rfl) ?_; intro a9 F9; clear F8
  refine s_val wkP F9 rfl rfl rfl rfl (y_not F9 rfl rfl) ?_; intro a10 F10; clear F9
  refine wpList_nil ?_
  refine c_then ?_
  refine x_cond F10 rfl (fun hok => ?_) (fun hok => ?_)
  · skip
    refine wp_seq ?_
    refine r_lit ?_
    refine s_val wkP F10 rfl rfl rfl rfl (y_assign F10 rfl rfl) ?_; intro a12 F12; clear F10
    refine wpList_nil ?_
    refine c_then ?_
    refine wp_ret ?_
    refine c_thenR ?_
    refine x_ret1 F12 rfl rfl ?_
    replace hok : okP l = false := by simpa using hok
    exact ⟨ret_int (by rw [hok]; rfl), H3.drop0⟩
  · skip
    refine wp_skip ?_
    refine c_then ?_
    refine wp_seq ?_
    refine r_lit ?_
    refine s_val wkP F10 rfl rfl rfl rfl (y_assign F10 rfl rfl) ?_; intro a13 F13; clear F10
    refine wpList_nil ?_
    refine c_then ?_
    refine wp_ret ?_
    refine x_ret1 F13 rfl rfl ?_
    replace hok : okP l = true := by simpa using hok
    exact ⟨ret_int (by rw [hok]; rfl), H3.drop0⟩
theorem ent12 : ∀ args w, (callFunc 12 args).run Tryd.prog w = .ok (.enter 12 args) w := enters Tryd.func12 (by kernel_rfl) rfl
set_option maxRecDepth 100000 in
set_option maxHeartbeats 2000000 in
theorem psplit (l : List UInt8) (hl : l.length ≤ 80000) (w : World) :
    Calls Tryd.prog 14 [.string (txb l)].toArray w (fun e w' => ∃ v, e = .returned v ∧ St w w' [HP.own 9 1 v (pns l).length (rows txC (pns l))]) := by
  refine x_enter Tryd.func14 rfl rfl rfl ?_
  intro a0 F0
  replace F0 : Fr ⟨11, []⟩ a0 [(0, .string (txb l))] := F0
  have H0 := St.nil w
  refine wp_seq ?_
  refine r_lit ?_
  refine s_val wkP F0 rfl rfl rfl rfl (y_assign F0 rfl rfl) ?_; intro a1 F1; clear F0
  refine wpList_nil ?_
  refine c_then ?_
  refine wp_seq ?_
  refine r_lit ?_
  refine s_val wkP F1 rfl rfl rfl rfl (y_move F1 rfl rfl) ?_; intro a2 F2; clear F1
  refine s_call wkP F2 rfl rfl rfl rfl (y_call F2 rfl rfl ent22) (names l (by omega) _) ?_; intro vvv1 w3 a3 hR3 F3; clear F2
  obtain ⟨v1, rfl, hEv1⟩ := hR3
  have H3 : St w w3 [HP.own 9 1 v1 ((pns l).length) (rows txC (pns l))] := H0.call hEv1
  have hplv1 := pns_len l
  refine s_val wkP F3 rfl rfl rfl rfl (y_move F3 rfl rfl) ?_; intro a4 F4; clear F3
  refine s_val wkP F4 rfl rfl rfl rfl (y_extract F4 rfl rfl rfl) ?_; intro a5 F5; clear F4
  refine s_val wkP F5 rfl rfl rfl rfl (y_extract F5 rfl rfl rfl) ?_; intro a6 F6; clear F5
  refine s_val wkP F6 rfl rfl rfl rfl (y_assign F6 rfl rfl) ?_; intro a7 F7; clear F6
  refine s_val wkP F7 rfl rfl rfl rfl (y_assign F7 rfl rfl) ?_; intro a8 F8; clear F7
  refine wpList_nil ?_
  refine c_then ?_
  refine wp_seq ?_
  refine r_lit ?_
  refine s_val wkP F8 rfl rfl rfl rfl (y_move F8 rfl rfl) ?_; intro a9 F9; clear F8
  refine s_val wkP F9 rfl rfl rfl rfl (y_assign F9 rfl rfl) ?_; intro a10 F10; clear F9
  refine wpList_nil ?_
  refine c_then ?_
  refine wp_ret ?_
  refine x_ret1 F10 rfl rfl ?_
  exact ⟨_, rfl, H3⟩
theorem ent14 : ∀ args w, (callFunc 14 args).run Tryd.prog w = .ok (.enter 14 args) w := enters Tryd.func14 (by kernel_rfl) rfl
/-- The path above. -/
def parP (l : List UInt8) : List UInt8 := if pns l = [] then [] else pth ((pns l).take ((pns l).length - 1))
theorem parP_some {l : List UInt8} (h : pns l ≠ []) : parP l = pth ((pns l).take ((pns l).length - 1)) := by simp [parP, h]
def basP (l : List UInt8) : List UInt8 := (pns l)[(pns l).length - 1]?.getD []
set_option maxRecDepth 100000 in
set_option maxHeartbeats 2000000 in
theorem parent (l : List UInt8) (hl : l.length ≤ 80000) (w : World) :
    Calls Tryd.prog 15 [.string (txb l)].toArray w (fun e w' => e = .returned (.string (txb (parP l))) ∧ St w w' []) := by
  refine x_enter Tryd.func15 rfl rfl rfl ?_
  intro a0 F0
  replace F0 : Fr ⟨19, []⟩ a0 [(0, .string (txb l))] := F0
  have H0 := St.nil w
  refine wp_seq ?_
  refine r_lit ?_
  refine s_val wkP F0 rfl rfl rfl rfl (y_assign F0 rfl rfl) ?_; intro a1 F1; clear F0
  refine wpList_nil ?_
  refine c_then ?_
  refine wp_seq ?_
  refine r_lit ?_
  refine s_val wkP F1 rfl rfl rfl rfl (y_move F1 rfl rfl) ?_; intro a2 F2; clear F1
  refine s_call wkP F2 rfl rfl rfl rfl (y_call F2 rfl rfl ent22) (names l (by omega) _) ?_; intro vvv1 w3 a3 hR3 F3; clear F2
  obtain ⟨v1, rfl, hEv1⟩ := hR3
  have H3 : St w w3 [HP.own 9 1 v1 ((pns l).length) (rows txC (pns l))] := H0.call hEv1
  have hplv1 := pns_len l
  refine s_val wkP F3 rfl rfl rfl rfl (y_move F3 rfl rfl) ?_; intro a4 F4; clear F3
  refine s_val wkP F4 rfl rfl rfl rfl (y_extract F4 rfl rfl rfl) ?_; intro a5 F5; clear F4
  refine s_val wkP F5 rfl rfl rfl rfl (y_extract F5 rfl rfl rfl) ?_; intro a6 F6; clear F5
  refine s_val wkP F6 rfl rfl rfl rfl (y_assign F6 rfl rfl) ?_; intro a7 F7; clear F6
  refine s_val wkP F7 rfl rfl rfl rfl (y_assign F7 rfl rfl) ?_; intro a8 F8; clear F7
  refine wpList_nil ?_
  refine c_then ?_
  refine wp_seq ?_
  refine wp_seq ?_
  refine r_lit ?_
  refine s_val wkP F8 rfl rfl rfl rfl (y_move F8 rfl rfl) ?_; intro a9 F9; clear F8
  obtain ⟨p10, cap10, rfl, hcap10, hp10⟩ := H3.ownForm 0 rfl
  refine s_val wkP F9 rfl rfl rfl rfl (y_lenS F9 rfl Tryd.underlying23 rfl) ?_; intro a11 F11; clear F9
  refine s_val wkP F11 rfl rfl rfl rfl (y_eql F11 rfl rfl rfl) ?_; intro a12 F12; clear F11
  refine wpList_nil ?_
  refine c_then ?_
  refine x_condP F12 rfl (fun hz => ?_) (fun hz => ?_)
  · skip
    refine wp_seq ?_
    refine r_lit ?_
    refine s_val wkP F12 rfl rfl rfl rfl (y_assign F12 rfl rfl) ?_; intro a14 F14; clear F12
    refine wpList_nil ?_
    refine c_then ?_
    refine wp_ret ?_
    refine c_thenR ?_
    refine x_ret1 F14 rfl rfl ?_
    have h0 : pns l = [] := List.eq_nil_of_length_eq_zero (by omega)
    exact ⟨by simp [parP, h0]; rfl, H3.drop0⟩
  · skip
    refine wp_skip ?_
    refine c_then ?_
    refine wp_seq ?_
    refine r_lit ?_
    refine s_val wkP F12 rfl rfl rfl rfl (y_move F12 rfl rfl) ?_; intro a15 F15; clear F12
    refine s_val wkP F15 rfl rfl rfl rfl (y_move F15 rfl rfl) ?_; intro a16 F16; clear F15
    refine s_val wkP F16 rfl rfl rfl rfl (y_lenS F16 rfl Tryd.underlying23 rfl) ?_; intro a17 F17; clear F16
    refine s_val wkP F17 rfl rfl rfl rfl (y_sub F17 rfl rfl rfl (r := (((pns l).length - 1 : Nat) : Int)) (wrap_i64 (by omega) (by omega) (by omega))) ?_; intro a18 F18; clear F17
    refine s_val wkP F18 rfl rfl rfl rfl (y_sliceHi (j := (pns l).length - 1) F18 elemStr rfl rfl rfl (by omega)) ?_; intro a19 F19; clear F18
    refine s_callV wkP F19 rfl rfl rfl rfl (y_call F19 rfl rfl ent23) (pjoin ((pns l).take ((pns l).length - 1)) p10 _ _ (by rw [List.length_take]; omega) (by rw [List.length_take]; omega) (by have h1 := jn_tot ((pns l).take ((pns l).length - 1)); have h2 := tot_take (pns l) ((pns l).length - 1); have h3 := pns_tot l; omega) _ (by omega) (fun h => by obtain ⟨b, e⟩ := hp10 (by rw [List.length_take] at h; omega); exact ⟨b, 0, e, Row.takeT (H3.ownRowP 0 rfl e) _⟩)) ?_; intro w20 a20 hR20 F20; clear F19
    have H20 : St w w20 [HP.own 9 1 (.slice p10 ((pns l).length) cap10) ((pns l).length) (rows txC (pns l))] := H3.call hR20
    refine s_val wkP F20 rfl rfl rfl rfl (y_assign F20 rfl rfl) ?_; intro a21 F21; clear F20
    refine wpList_nil ?_
    refine c_then ?_
    refine wp_ret ?_
    refine x_ret1 F21 rfl rfl ?_
    have h0 : pns l ≠ [] := fun h => hz (by rw [h]; rfl)
    exact ⟨by rw [parP_some h0], H20.drop0⟩
theorem ent15 : ∀ args w, (callFunc 15 args).run Tryd.prog w = .ok (.enter 15 args) w := enters Tryd.func15 (by kernel_rfl) rfl
set_option maxRecDepth 100000 in
set_option maxHeartbeats 2000000 in
theorem base (l : List UInt8) (hl : l.length ≤ 80000) (w : World) :
    Calls Tryd.prog 17 [.string (txb l)].toArray w (fun e w' => e = .returned (.string (txb (basP l))) ∧ St w w' []) := by
  refine x_enter Tryd.func17 rfl rfl rfl ?_
  intro a0 F0
  replace F0 : Fr ⟨19, []⟩ a0 [(0, .string (txb l))] := F0
  have H0 := St.nil w
  refine wp_seq ?_
  refine r_lit ?_
  refine s_val wkP F0 rfl rfl rfl rfl (y_assign F0 rfl rfl) ?_; intro a1 F1; clear F0
  refine wpList_nil ?_
  refine c_then ?_
  refine wp_seq ?_
  refine r_lit ?_
  refine s_val wkP F1 rfl rfl rfl rfl (y_move F1 rfl rfl) ?_; intro a2 F2; clear F1
  refine s_call wkP F2 rfl rfl rfl rfl (y_call F2 rfl rfl ent22) (names l (by omega) _) ?_; intro vvv1 w3 a3 hR3 F3; clear F2
  obtain ⟨v1, rfl, hEv1⟩ := hR3
  have H3 : St w w3 [HP.own 9 1 v1 ((pns l).length) (rows txC (pns l))] := H0.call hEv1
  have hplv1 := pns_len l
  refine s_val wkP F3 rfl rfl rfl rfl (y_move F3 rfl rfl) ?_; intro a4 F4; clear F3
  refine s_val wkP F4 rfl rfl rfl rfl (y_extract F4 rfl rfl rfl) ?_; intro a5 F5; clear F4
  refine s_val wkP F5 rfl rfl rfl rfl (y_extract F5 rfl rfl rfl) ?_; intro a6 F6; clear F5
  refine s_val wkP F6 rfl rfl rfl rfl (y_assign F6 rfl rfl) ?_; intro a7 F7; clear F6
  refine s_val wkP F7 rfl rfl rfl rfl (y_assign F7 rfl rfl) ?_; intro a8 F8; clear F7
  refine wpList_nil ?_
  refine c_then ?_
  refine wp_seq ?_
  refine wp_seq ?_
  refine r_lit ?_
  refine s_val wkP F8 rfl rfl rfl rfl (y_move F8 rfl rfl) ?_; intro a9 F9; clear F8
  obtain ⟨p10, cap10, rfl, hcap10, hp10⟩ := H3.ownForm 0 rfl
  refine s_val wkP F9 rfl rfl rfl rfl (y_lenS F9 rfl Tryd.underlying23 rfl) ?_; intro a11 F11; clear F9
  refine s_val wkP F11 rfl rfl rfl rfl (y_eql F11 rfl rfl rfl) ?_; intro a12 F12; clear F11
  refine wpList_nil ?_
  refine c_then ?_
  refine x_condP F12 rfl (fun hz => ?_) (fun hz => ?_)
  · skip
    refine wp_seq ?_
    refine r_lit ?_
    refine s_val wkP F12 rfl rfl rfl rfl (y_assign F12 rfl rfl) ?_; intro a14 F14; clear F12
    refine wpList_nil ?_
    refine c_then ?_
    refine wp_ret ?_
    refine c_thenR ?_
    refine x_ret1 F14 rfl rfl ?_
    have h0 : pns l = [] := List.eq_nil_of_length_eq_zero (by omega)
    exact ⟨by simp [basP, h0]; rfl, H3.drop0⟩
  · skip
    refine wp_skip ?_
    refine c_then ?_
    refine wp_seq ?_
    refine r_lit ?_
    refine s_val wkP F12 rfl rfl rfl rfl (y_move F12 rfl rfl) ?_; intro a15 F15; clear F12
    refine s_val wkP F15 rfl rfl rfl rfl (y_move F15 rfl rfl) ?_; intro a16 F16; clear F15
    refine s_val wkP F16 rfl rfl rfl rfl (y_lenS F16 rfl Tryd.underlying23 rfl) ?_; intro a17 F17; clear F16
    refine s_val wkP F17 rfl rfl rfl rfl (y_sub F17 rfl rfl rfl (r := (((pns l).length - 1 : Nat) : Int)) (wrap_i64 (by omega) (by omega) (by omega))) ?_; intro a18 F18; clear F17
    obtain ⟨bb19, hpe19⟩ := hp10 (by omega)
    obtain ⟨x, mx⟩ : ∃ x, ((pns l))[(pns l).length - 1]? = some x := ⟨_, List.getElem?_eq_getElem (by first | omega | (simp only [List.length_set]; omega))⟩
    refine s_val wkP F18 rfl rfl rfl rfl (y_indexP F18 elemStr rfl rfl rfl hpe19 (by omega)) ?_; intro a21 F21; clear F18
    refine s_val wkP F21 rfl rfl rfl rfl (y_load1 F21 plStr rfl rfl (Row.elem txC_len (H3.ownRowP 0 rfl hpe19) (fun _ _ => trivial) mx 0 _ rfl)) ?_; intro a22 F22; clear F21
    refine s_val wkP F22 rfl rfl rfl rfl (y_assign F22 rfl rfl) ?_; intro a23 F23; clear F22
    refine wpList_nil ?_
    refine c_then ?_
    refine wp_ret ?_
    refine x_ret1 F23 rfl rfl ?_
    exact ⟨by simp [basP, mx], H3.drop0⟩
theorem ent17 : ∀ args w, (callFunc 17 args).run Tryd.prog w = .ok (.enter 17 args) w := enters Tryd.func17 (by kernel_rfl) rfl
def wthP (l m : List UInt8) : Bool := okP l && okP m && decide ((pns l).length ≤ (pns m).length) && decide (pns l = (pns m).take (pns l).length)
set_option maxRecDepth 100000 in
set_option maxHeartbeats 2000000 in
theorem within (l m : List UInt8) (hl : l.length ≤ 80000) (hm : m.length ≤ 80000) (w : World) :
    Calls Tryd.prog 20 [.string (txb l), .string (txb m)].toArray w (fun e w' => e = .returned (.bool (wthP l m)) ∧ St w w' []) := by
  refine x_enter Tryd.func20 rfl rfl rfl ?_
  intro a0 F0
  replace F0 : Fr ⟨38, []⟩ a0 [(0, .string (txb l)), (1, .string (txb m))] := F0
  have H0 := St.nil w
  refine wp_seq ?_
  refine r_lit ?_
  refine s_val wkP F0 rfl rfl rfl rfl (y_assign F0 rfl rfl) ?_; intro a1 F1; clear F0
  refine wpList_nil ?_
  refine c_then ?_
  refine wp_seq ?_
  refine r_lit ?_
  refine s_val wkP F1 rfl rfl rfl rfl (y_move F1 rfl rfl) ?_; intro a2 F2; clear F1
  refine s_call wkP F2 rfl rfl rfl rfl (y_call F2 rfl rfl ent22) (names l (by omega) _) ?_; intro vvv1 w3 a3 hR3 F3; clear F2
  obtain ⟨v1, rfl, hEv1⟩ := hR3
  have H3 : St w w3 [HP.own 9 1 v1 ((pns l).length) (rows txC (pns l))] := H0.call hEv1
  have hplv1 := pns_len l
  refine s_val wkP F3 rfl rfl rfl rfl (y_move F3 rfl rfl) ?_; intro a4 F4; clear F3
  refine s_val wkP F4 rfl rfl rfl rfl (y_extract F4 rfl rfl rfl) ?_; intro a5 F5; clear F4
  refine s_val wkP F5 rfl rfl rfl rfl (y_extract F5 rfl rfl rfl) ?_; intro a6 F6; clear F5
  refine s_val wkP F6 rfl rfl rfl rfl (y_assign F6 rfl rfl) ?_; intro a7 F7; clear F6
  refine s_val wkP F7 rfl rfl rfl rfl (y_assign F7 rfl rfl) ?_; intro a8 F8; clear F7
  refine wpList_nil ?_
  refine c_then ?_
  refine wp_seq ?_
  refine r_lit ?_
  refine s_val wkP F8 rfl rfl rfl rfl (y_move F8 rfl rfl) ?_; intro a9 F9; clear F8
  refine s_call wkP F9 rfl rfl rfl rfl (y_call F9 rfl rfl ent22) (names m (by omega) _) ?_; intro vvv2 w10 a10 hR10 F10; clear F9
  obtain ⟨v2, rfl, hEv2⟩ := hR10
  have H10 : St w w10 [HP.own 9 1 v2 ((pns m).length) (rows txC (pns m)), HP.own 9 1 v1 ((pns l).length) (rows txC (pns l))] := H3.call hEv2
  have hplv2 := pns_len m
  refine s_val wkP F10 rfl rfl rfl rfl (y_move F10 rfl rfl) ?_; intro a11 F11; clear F10
  refine s_val wkP F11 rfl rfl rfl rfl (y_extract F11 rfl rfl rfl) ?_; intro a12 F12; clear F11
  refine s_val wkP F12 rfl rfl rfl rfl (y_extract F12 rfl rfl rfl) ?_; intro a13 F13; clear F12
  refine s_val wkP F13 rfl rfl rfl rfl (y_assign F13 rfl rfl) ?_; intro a14 F14; clear F13
  refine s_val wkP F14 rfl rfl rfl rfl (y_assign F14 rfl rfl) ?_; intro a15 F15; clear F14
  refine wpList_nil ?_
  refine c_then ?_
  refine wp_seq ?_
  refine r_lit ?_
  refine s_val wkP F15 rfl rfl rfl rfl (y_move F15 rfl rfl) ?_; intro a16 F16; clear F15
  refine s_val wkP F16 rfl rfl rfl rfl (y_move F16 rfl rfl) ?_; intro a17 F17; clear F16
  refine g_splitB (k := 20) F17 rfl (fun h1 F18 => ?_) (fun h1 F18 => ?_)
  · clear F17
    refine g_onP F18 rfl rfl rfl rfl ?_
    refine s_val wkP F18 rfl rfl rfl rfl (y_move F18 rfl rfl) ?_; intro a19 F19; clear F18
    refine s_val wkP F19 rfl rfl rfl rfl (y_pickT F19 rfl rfl rfl) ?_; intro a20 F20; clear F19
    refine s_val wkP F20 rfl rfl rfl rfl (y_move F20 rfl rfl) ?_; intro a21 F21; clear F20
    refine g_splitB (k := 23) F21 rfl (fun h2 F22 => ?_) (fun h2 F22 => ?_)
    · clear F21
      refine g_onP F22 rfl rfl rfl rfl ?_
      refine s_val wkP F22 rfl rfl rfl rfl (y_move F22 rfl rfl) ?_; intro a23 F23; clear F22
      refine g_onP F23 rfl rfl rfl rfl ?_
      obtain ⟨p24, cap24, rfl, hcap24, hp24⟩ := H10.ownForm 1 rfl
      refine s_val wkP F23 rfl rfl rfl rfl (y_lenS F23 rfl Tryd.underlying23 rfl) ?_; intro a25 F25; clear F23
      refine g_onP F25 rfl rfl rfl rfl ?_
      refine s_val wkP F25 rfl rfl rfl rfl (y_move F25 rfl rfl) ?_; intro a26 F26; clear F25
      refine g_onP F26 rfl rfl rfl rfl ?_
      obtain ⟨p27, cap27, rfl, hcap27, hp27⟩ := H10.ownForm 0 rfl
      refine s_val wkP F26 rfl rfl rfl rfl (y_lenS F26 rfl Tryd.underlying23 rfl) ?_; intro a28 F28; clear F26
      refine g_onP F28 rfl rfl rfl rfl ?_
      refine s_val wkP F28 rfl rfl rfl rfl (y_leq F28 rfl rfl rfl) ?_; intro a29 F29; clear F28
      refine s_val wkP F29 rfl rfl rfl rfl (y_pickT F29 rfl rfl rfl) ?_; intro a30 F30; clear F29
      refine s_val wkP F30 rfl rfl rfl rfl (y_move F30 rfl rfl) ?_; intro a31 F31; clear F30
      refine g_split (k := 30) F31 rfl (fun h3 F32 => ?_) (fun h3 F32 => ?_)
      · clear F31
        refine g_onP F32 rfl rfl rfl rfl ?_
        refine s_val wkP F32 rfl rfl rfl rfl (y_move F32 rfl rfl) ?_; intro a33 F33; clear F32
        refine g_onP F33 rfl rfl rfl rfl ?_
        refine s_val wkP F33 rfl rfl rfl rfl (y_move F33 rfl rfl) ?_; intro a34 F34; clear F33
        refine g_onP F34 rfl rfl rfl rfl ?_
        refine s_val wkP F34 rfl rfl rfl rfl (y_move F34 rfl rfl) ?_; intro a35 F35; clear F34
        refine g_onP F35 rfl rfl rfl rfl ?_
        refine s_val wkP F35 rfl rfl rfl rfl (y_lenS F35 rfl Tryd.underlying23 rfl) ?_; intro a36 F36; clear F35
        refine g_onP F36 rfl rfl rfl rfl ?_
        refine s_val wkP F36 rfl rfl rfl rfl (y_sliceHi (j := ((pns l).length)) F36 elemStr rfl rfl rfl (by omega)) ?_; intro a37 F37; clear F36
        refine g_onP F37 rfl rfl rfl rfl ?_
        have hmin : ((pns m).take (pns l).length).length = (pns l).length := by rw [List.length_take]; omega
        have hcall := equalT (pns l) ((pns m).take (pns l).length) (by omega) (by rw [List.length_take]; omega) p24 p27 cap24 cap27 w10 (fun h => by obtain ⟨b, e⟩ := hp24 h; exact ⟨b, 0, e, H10.ownRowP 1 rfl e⟩) (fun h => by obtain ⟨b, e⟩ := hp27 (by rw [List.length_take] at h; omega); exact ⟨b, 0, e, Row.takeT (H10.ownRowP 0 rfl e) _⟩)
        rw [hmin] at hcall
        refine s_callV wkP F37 rfl rfl rfl rfl (y_call F37 rfl rfl ent24) hcall ?_; intro w38 a38 hR38 F38; clear F37
        have H38 : St w w38 [HP.own 9 1 (.slice p27 ((pns m).length) cap27) ((pns m).length) (rows txC (pns m)), HP.own 9 1 (.slice p24 ((pns l).length) cap24) ((pns l).length) (rows txC (pns l))] := H10.call hR38
        refine s_val wkP F38 rfl rfl rfl rfl (y_pickT F38 rfl rfl rfl) ?_; intro a39 F39; clear F38
        refine s_val wkP F39 rfl rfl rfl rfl (y_assign F39 rfl rfl) ?_; intro a40 F40; clear F39
        refine wpList_nil ?_
        refine c_then ?_
        refine wp_ret ?_
        refine x_ret1 F40 rfl rfl ?_
        have h5 : (pns l).length ≤ (pns m).length := by omega
        exact ⟨ret_bool (by simp [wthP, h1, h2, h5]), H38.drop0⟩
      · clear F31
        refine g_off wkP F32 rfl rfl rfl rfl rfl rfl rfl ?_; intro a41 F41; clear F32
        refine g_off wkP F41 rfl rfl rfl rfl rfl rfl rfl ?_; intro a42 F42; clear F41
        refine g_off wkP F42 rfl rfl rfl rfl rfl rfl rfl ?_; intro a43 F43; clear F42
        refine g_off wkP F43 rfl rfl rfl rfl rfl rfl rfl ?_; intro a44 F44; clear F43
        refine g_off wkP F44 rfl rfl rfl rfl rfl rfl rfl ?_; intro a45 F45; clear F44
        refine g_off wkP F45 rfl rfl rfl rfl rfl rfl rfl ?_; intro a46 F46; clear F45
        refine s_val wkP F46 rfl rfl rfl rfl (y_pickF F46 rfl rfl rfl) ?_; intro a47 F47; clear F46
        refine s_val wkP F47 rfl rfl rfl rfl (y_assign F47 rfl rfl) ?_; intro a48 F48; clear F47
        refine wpList_nil ?_
        refine c_then ?_
        refine wp_ret ?_
        refine x_ret1 F48 rfl rfl ?_
        exact ⟨ret_bool (by simp [wthP, *] <;> omega), H10.drop0⟩
    · clear F21
      refine g_off wkP F22 rfl rfl rfl rfl rfl rfl rfl ?_; intro a49 F49; clear F22
      refine g_off wkP F49 rfl rfl rfl rfl rfl rfl rfl ?_; intro a50 F50; clear F49
      refine g_off wkP F50 rfl rfl rfl rfl rfl rfl rfl ?_; intro a51 F51; clear F50
      refine g_off wkP F51 rfl rfl rfl rfl rfl rfl rfl ?_; intro a52 F52; clear F51
      refine g_off wkP F52 rfl rfl rfl rfl rfl rfl rfl ?_; intro a53 F53; clear F52
      refine s_val wkP F53 rfl rfl rfl rfl (y_pickF F53 rfl rfl rfl) ?_; intro a54 F54; clear F53
      refine s_val wkP F54 rfl rfl rfl rfl (y_move F54 rfl rfl) ?_; intro a55 F55; clear F54
      refine g_off wkP F55 rfl rfl rfl rfl rfl rfl rfl ?_; intro a56 F56; clear F55
      refine g_off wkP F56 rfl rfl rfl rfl rfl rfl rfl ?_; intro a57 F57; clear F56
      refine g_off wkP F57 rfl rfl rfl rfl rfl rfl rfl ?_; intro a58 F58; clear F57
      refine g_off wkP F58 rfl rfl rfl rfl rfl rfl rfl ?_; intro a59 F59; clear F58
      refine g_off wkP F59 rfl rfl rfl rfl rfl rfl rfl ?_; intro a60 F60; clear F59
      refine g_off wkP F60 rfl rfl rfl rfl rfl rfl rfl ?_; intro a61 F61; clear F60
      refine s_val wkP F61 rfl rfl rfl rfl (y_pickF F61 rfl rfl rfl) ?_; intro a62 F62; clear F61
      refine s_val wkP F62 rfl rfl rfl rfl (y_assign F62 rfl rfl) ?_; intro a63 F63; clear F62
      refine wpList_nil ?_
      refine c_then ?_
      refine wp_ret ?_
      refine x_ret1 F63 rfl rfl ?_
      exact ⟨ret_bool (by simp [wthP, *] <;> omega), H10.drop0⟩
  · clear F17
    refine g_off wkP F18 rfl rfl rfl rfl rfl rfl rfl ?_; intro a64 F64; clear F18
    refine s_val wkP F64 rfl rfl rfl rfl (y_pickF F64 rfl rfl rfl) ?_; intro a65 F65; clear F64
    refine s_val wkP F65 rfl rfl rfl rfl (y_move F65 rfl rfl) ?_; intro a66 F66; clear F65
    refine g_off wkP F66 rfl rfl rfl rfl rfl rfl rfl ?_; intro a67 F67; clear F66
    refine g_off wkP F67 rfl rfl rfl rfl rfl rfl rfl ?_; intro a68 F68; clear F67
    refine g_off wkP F68 rfl rfl rfl rfl rfl rfl rfl ?_; intro a69 F69; clear F68
    refine g_off wkP F69 rfl rfl rfl rfl rfl rfl rfl ?_; intro a70 F70; clear F69
    refine g_off wkP F70 rfl rfl rfl rfl rfl rfl rfl ?_; intro a71 F71; clear F70
    refine s_val wkP F71 rfl rfl rfl rfl (y_pickF F71 rfl rfl rfl) ?_; intro a72 F72; clear F71
    refine s_val wkP F72 rfl rfl rfl rfl (y_move F72 rfl rfl) ?_; intro a73 F73; clear F72
    refine g_off wkP F73 rfl rfl rfl rfl rfl rfl rfl ?_; intro a74 F74; clear F73
    refine g_off wkP F74 rfl rfl rfl rfl rfl rfl rfl ?_; intro a75 F75; clear F74
    refine g_off wkP F75 rfl rfl rfl rfl rfl rfl rfl ?_; intro a76 F76; clear F75
    refine g_off wkP F76 rfl rfl rfl rfl rfl rfl rfl ?_; intro a77 F77; clear F76
    refine g_off wkP F77 rfl rfl rfl rfl rfl rfl rfl ?_; intro a78 F78; clear F77
    refine g_off wkP F78 rfl rfl rfl rfl rfl rfl rfl ?_; intro a79 F79; clear F78
    refine s_val wkP F79 rfl rfl rfl rfl (y_pickF F79 rfl rfl rfl) ?_; intro a80 F80; clear F79
    refine s_val wkP F80 rfl rfl rfl rfl (y_assign F80 rfl rfl) ?_; intro a81 F81; clear F80
    refine wpList_nil ?_
    refine c_then ?_
    refine wp_ret ?_
    refine x_ret1 F81 rfl rfl ?_
    exact ⟨ret_bool (by simp [wthP, *] <;> omega), H10.drop0⟩
theorem ent20 : ∀ args w, (callFunc 20 args).run Tryd.prog w = .ok (.enter 20 args) w := enters Tryd.func20 (by kernel_rfl) rfl
/-- The first k paths above. -/
def anc (l : List UInt8) (k : Nat) : List (List UInt8) := (List.range k).map fun i => pth ((pns l).take i)
theorem anc_succ (l : List UInt8) (k : Nat) : anc l (k + 1) = anc l k ++ [pth ((pns l).take k)] := by simp [anc, List.range_succ]
set_option maxRecDepth 100000 in
set_option maxHeartbeats 2000000 in
theorem ancestors (l : List UInt8) (hl : l.length ≤ 80000) (w : World) :
    Calls Tryd.prog 19 [.string (txb l)].toArray w (fun e w' => ∃ v, e = .returned v ∧ St w w' [HP.own 9 1 v (anc l (pns l).length).length (rows txC (anc l (pns l).length))]) := by
  refine x_enter Tryd.func19 rfl rfl rfl ?_
  intro a0 F0
  replace F0 : Fr ⟨25, []⟩ a0 [(0, .string (txb l))] := F0
  have H0 := St.nil w
  refine wp_seq ?_
  refine r_lit ?_
  refine s_val wkP F0 rfl rfl rfl rfl (y_assign F0 rfl rfl) ?_; intro a1 F1; clear F0
  refine wpList_nil ?_
  refine c_then ?_
  refine wp_seq ?_
  refine r_lit ?_
  refine s_val wkP F1 rfl rfl rfl rfl (y_move F1 rfl rfl) ?_; intro a2 F2; clear F1
  refine s_call wkP F2 rfl rfl rfl rfl (y_call F2 rfl rfl ent22) (names l (by omega) _) ?_; intro vvv1 w3 a3 hR3 F3; clear F2
  obtain ⟨v1, rfl, hEv1⟩ := hR3
  have H3 : St w w3 [HP.own 9 1 v1 ((pns l).length) (rows txC (pns l))] := H0.call hEv1
  have hplv1 := pns_len l
  refine s_val wkP F3 rfl rfl rfl rfl (y_move F3 rfl rfl) ?_; intro a4 F4; clear F3
  refine s_val wkP F4 rfl rfl rfl rfl (y_extract F4 rfl rfl rfl) ?_; intro a5 F5; clear F4
  refine s_val wkP F5 rfl rfl rfl rfl (y_extract F5 rfl rfl rfl) ?_; intro a6 F6; clear F5
  refine s_val wkP F6 rfl rfl rfl rfl (y_assign F6 rfl rfl) ?_; intro a7 F7; clear F6
  refine s_val wkP F7 rfl rfl rfl rfl (y_assign F7 rfl rfl) ?_; intro a8 F8; clear F7
  refine wpList_nil ?_
  refine c_then ?_
  refine wp_seq ?_
  refine wp_seq ?_
  have H9 := H3.ownNil 9 1
  replace H9 : St w w3 [HP.own 9 1 (.slice none 0 0) 0 [], HP.own 9 1 v1 ((pns l).length) (rows txC (pns l))] := H9
  refine r_lit ?_
  refine s_val wkP F8 rfl rfl rfl rfl (y_move F8 rfl rfl) ?_; intro a10 F10; clear F8
  obtain ⟨p11, cap11, rfl, hcap11, hp11⟩ := H9.ownForm 1 rfl
  refine s_val wkP F10 rfl rfl rfl rfl (y_lenS F10 rfl Tryd.underlying23 rfl) ?_; intro a12 F12; clear F10
  refine s_val wkP F12 rfl rfl rfl rfl (y_move F12 rfl rfl) ?_; intro a13 F13; clear F12
  refine wpList_nil ?_
  refine c_then ?_
  refine wp_block ?_
  refine x_loop (G := Nat × Value) (fun gg aa ww => match gg with | (k, so) => Fr ⟨25, []⟩ aa [(3, .slice p11 ((pns l).length) cap11), (12, .int .i64 (((((pns l).length) : Nat) : Int))), (2, so), (13, .int .i64 (((k : Nat) : Int)))] ∧ St w ww [HP.own 9 1 so ((anc l k).length) (rows txC (anc l k)), HP.own 9 1 (.slice p11 ((pns l).length) cap11) ((pns l).length) (rows txC (pns l))] ∧ (k ≤ (pns l).length)) (fun gg => match gg with | (k, so) => (pns l).length - k) (0, .slice none 0 0) ⟨F13.cut _ ⟨rfl, rfl, rfl, rfl, trivial⟩, H9, Nat.zero_le _⟩ ?_
  clear F13
  rintro ⟨k, so⟩ a14 w14 ⟨F14, H14, hk⟩
  refine wp_seq ?_
  refine r_lit ?_
  refine s_val wkP F14 rfl rfl rfl rfl (y_lss F14 rfl rfl rfl) ?_; intro a15 F15; clear F14
  refine wpList_nil ?_
  refine c_then ?_
  refine wp_seq ?_
  refine x_condP F15 rfl (fun hlt => ?_) (fun hlt => ?_)
  · skip
    refine wp_skip ?_
    refine c_then ?_
    refine wp_seq ?_
    refine wp_block ?_
    refine wp_seq ?_
    refine r_lit ?_
    refine s_val wkP F15 rfl rfl rfl rfl (y_move F15 rfl rfl) ?_; intro a17 F17; clear F15
    refine s_val wkP F17 rfl rfl rfl rfl (y_assign F17 rfl rfl) ?_; intro a18 F18; clear F17
    refine wpList_nil ?_
    refine c_then ?_
    have hal : (anc l k).length = k := by simp [anc]
    refine r_lit ?_
    refine s_val wkP F18 rfl rfl rfl rfl (y_move F18 rfl rfl) ?_; intro a19 F19; clear F18
    refine s_val wkP F19 rfl rfl rfl rfl (y_move F19 rfl rfl) ?_; intro a20 F20; clear F19
    refine s_val wkP F20 rfl rfl rfl rfl (y_move F20 rfl rfl) ?_; intro a21 F21; clear F20
    refine s_val wkP F21 rfl rfl rfl rfl (y_sliceHi (j := k) F21 elemStr rfl rfl rfl (by omega)) ?_; intro a22 F22; clear F21
    refine s_callV wkP F22 rfl rfl rfl rfl (y_call F22 rfl rfl ent23) (pjoin ((pns l).take (k)) p11 _ _ (by rw [List.length_take]; omega) (by rw [List.length_take]; omega) (by have h1 := jn_tot ((pns l).take (k)); have h2 := tot_take (pns l) (k); have h3 := pns_tot l; omega) _ (by omega) (fun h => by obtain ⟨b, e⟩ := hp11 (by rw [List.length_take] at h; omega); exact ⟨b, 0, e, Row.takeT (H14.ownRowP 1 rfl e) _⟩)) ?_; intro w23 a23 hR23 F23; clear F22
    have H23 : St w w23 [HP.own 9 1 so ((anc l k).length) (rows txC (anc l k)), HP.own 9 1 (.slice p11 ((pns l).length) cap11) ((pns l).length) (rows txC (pns l))] := H14.call hR23
    refine s_buildC wkP F23 rfl rfl rfl elemStr z1Str rfl rfl rfl rfl (by simp [Value.cells]) (by decide) H23 ?_; intro b24 w24 a24 H24 F24; clear F23
    refine s_append wkP F24 rfl rfl rfl rfl H24 1 rfl rfl elemStr rfl (.inr (.inr ⟨_, _, _, rfl, Nat.le_refl _, (H24.blk 0 rfl).row⟩)) (by rw [Nat.one_mul]; exact rfl) (txC_flat _) (by unfold maxLen; first | omega | (simp; omega)) (by first | omega | (simp; omega)) ?_; intro s25 w25 a25 h25 F25; clear F24
    have H25 : St w w25 [HP.blk b24 ([.string (txb ((pth ((pns l).take (k)))))]) 9, HP.own 9 1 s25 (((anc l k) ++ [(pth ((pns l).take (k)))]).length) (rows txC ((anc l k) ++ [(pth ((pns l).take (k)))])), HP.own 9 1 (.slice p11 ((pns l).length) cap11) ((pns l).length) (rows txC (pns l))] := by rw [rows_snoc, List.length_append]; exact h25
    clear h25
    refine s_val wkP F25 rfl rfl rfl rfl (y_assign F25 rfl rfl) ?_; intro a26 F26; clear F25
    refine wpList_nil ?_
    refine c_blkN ?_
    refine c_then ?_
    refine r_lit ?_
    refine s_val wkP F26 rfl rfl rfl rfl (y_add F26 rfl rfl rfl (r := (((k : Nat) : Int)) + (1)) (wrap_i64 (by omega) (by omega) (by omega))) ?_; intro a27 F27; clear F26
    refine s_val wkP F27 rfl rfl rfl rfl (y_move F27 rfl rfl) ?_; intro a28 F28; clear F27
    refine wpList_nil ?_
    refine c_then ?_
    exact ⟨(k + 1, s25), ⟨F28.cut _ ⟨rfl, rfl, rfl, rfl, trivial⟩, (by have hp : St w w25 [HP.own 9 1 s25 (((anc l k) ++ [(pth ((pns l).take (k)))]).length) (rows txC ((anc l k) ++ [(pth ((pns l).take (k)))])), HP.own 9 1 (.slice p11 ((pns l).length) cap11) ((pns l).length) (rows txC (pns l))] := H25.pick [1, 2] (by decide) rfl; rw [← anc_succ] at hp; exact hp), by omega⟩, by first | omega | (dsimp only; omega)⟩
  · skip
    refine wp_exit ?_
    refine c_thenX ?_
    refine c_thenX ?_
    refine c_hit ?_
    refine c_then ?_
    refine wp_seq ?_
    refine r_lit ?_
    refine s_val wkP F15 rfl rfl rfl rfl (y_move F15 rfl rfl) ?_; intro a29 F29; clear F15
    refine s_val wkP F29 rfl rfl rfl rfl (y_assign F29 rfl rfl) ?_; intro a30 F30; clear F29
    refine wpList_nil ?_
    refine c_then ?_
    refine wp_ret ?_
    refine x_ret1 F30 rfl rfl ?_
    obtain rfl : k = (pns l).length := by omega
    exact ⟨_, rfl, H14.pick [0] (by decide) rfl⟩
theorem ent19 : ∀ args w, (callFunc 19 args).run Tryd.prog w = .ok (.enter 19 args) w := enters Tryd.func19 (by kernel_rfl) rfl
end Go.Proofs.YtodggokkklfopaaDoor
