/- Names of a path. -/
import Derived.Test.YtodggokkklfopaaDoorPatA
import Derived.Test.YtodggokkklfopaaDoorPathS
set_option linter.unusedSimpArgs false
set_option linter.unusedVariables false
namespace Go.Proofs.YtodggokkklfopaaDoor
open Go.ChangeShapes Go.WideShapes Go.ChangeAt Go.RowKit Go.Tri
theorem ent32 : ∀ args w, (callFunc 32 args).run Tryd.prog w = .ok (.enter 32 args) w := enters Tryd.func32 (by kernel_rfl) rfl
theorem ent26 : ∀ args w, (callFunc 26 args).run Tryd.prog w = .ok (.enter 26 args) w := enters Tryd.func26 (by kernel_rfl) rfl
theorem ent30 : ∀ args w, (callFunc 30 args).run Tryd.prog w = .ok (.enter 30 args) w := enters Tryd.func30 (by kernel_rfl) rfl
set_option maxRecDepth 100000 in
set_option maxHeartbeats 2000000 in
theorem notName (l : List UInt8) (hl : l.length ≤ 4611686018427387903) (w : World) :
    Calls Tryd.prog 29 [.string (txb l)].toArray w (fun e w' => e = .returned (.bool (!nameB l)) ∧ St w w' []) := by
  refine x_enter Tryd.func29 rfl rfl rfl ?_
  intro a0 F0
  replace F0 : Fr ⟨6, []⟩ a0 [(0, .string (txb l))] := F0
  have H0 := St.nil w
  refine wp_seq ?_
  refine r_lit ?_
  refine s_val wkP F0 rfl rfl rfl rfl (y_assign F0 rfl rfl) ?_; intro a1 F1; clear F0
  refine wpList_nil ?_
  refine c_then ?_
  refine wp_seq ?_
  refine r_lit ?_
  refine s_val wkP F1 rfl rfl rfl rfl (y_move F1 rfl rfl) ?_; intro a2 F2; clear F1
  refine s_callV wkP F2 rfl rfl rfl rfl (y_call F2 rfl rfl ent10) (name l hl _) ?_; intro w3 a3 hR3 F3; clear F2
  have H3 : St w w3 [] := H0.call hR3
  refine s_val wkP F3 rfl rfl rfl rfl (y_not F3 rfl rfl) ?_; intro a4 F4; clear F3
  refine s_val wkP F4 rfl rfl rfl rfl (y_assign F4 rfl rfl) ?_; intro a5 F5; clear F4
  refine wpList_nil ?_
  refine c_then ?_
  refine wp_ret ?_
  refine x_ret1 F5 rfl rfl ?_
  exact ⟨rfl, H3⟩
theorem ent29 : ∀ args w, (callFunc 29 args).run Tryd.prog w = .ok (.enter 29 args) w := enters Tryd.func29 (by kernel_rfl) rfl
set_option maxRecDepth 100000 in
set_option maxHeartbeats 2000000 in
theorem splitT (l : List UInt8) (hl : l.length ≤ 100000) (w : World) :
    Calls Tryd.prog 27 [.string (txb l), .string (txb [47])].toArray w (fun e w' => ∃ v, e = .returned v ∧ St w w' [HP.own 9 1 v (sp l).length (rows txC (sp l))]) := by
  refine x_enter Tryd.func27 rfl rfl rfl ?_
  intro a0 F0
  replace F0 : Fr ⟨8, []⟩ a0 [(0, .string (txb l)), (1, .string (txb [47]))] := F0
  have H0 := St.nil w
  refine wp_seq ?_
  refine r_lit ?_
  refine s_val wkP F0 rfl rfl rfl rfl (y_assign F0 rfl rfl) ?_; intro a1 F1; clear F0
  refine wpList_nil ?_
  refine c_then ?_
  refine wp_seq ?_
  refine r_lit ?_
  refine s_val wkP F1 rfl rfl rfl rfl (y_move F1 rfl rfl) ?_; intro a2 F2; clear F1
  refine s_val wkP F2 rfl rfl rfl rfl (y_move F2 rfl rfl) ?_; intro a3 F3; clear F2
  refine s_call wkP F3 rfl rfl rfl rfl (y_call F3 rfl rfl ent32) (genSplitT l hl _) ?_; intro v0 w4 a4 hR4 F4; clear F3
  have H4 : St w w4 [HP.own 9 1 v0 ((sp l).length) (rows txC (sp l))] := H0.call hR4
  refine s_val wkP F4 rfl rfl rfl rfl (y_assign F4 rfl rfl) ?_; intro a5 F5; clear F4
  refine wpList_nil ?_
  refine c_then ?_
  refine wp_ret ?_
  refine x_ret1 F5 rfl rfl ?_
  exact ⟨_, rfl, H4⟩
theorem ent27 : ∀ args w, (callFunc 27 args).run Tryd.prog w = .ok (.enter 27 args) w := enters Tryd.func27 (by kernel_rfl) rfl
set_option maxRecDepth 100000 in
set_option maxHeartbeats 2000000 in
theorem indexFn (xs : List (List UInt8)) (hxs : ∀ x ∈ xs, x.length ≤ 4611686018427387903) (hxl : xs.length ≤ 1000000) (p : Option Addr) (cp : Nat) (w : World) (hp : 0 < xs.length → ∃ b off, p = some ⟨b, off, none⟩ ∧ Row w b off (rows txC xs)) :
    Calls Tryd.prog 33 [.slice p xs.length cp, .func (.func 29) #[] #[]].toArray w (fun e w' => ∃ v, e = .returned v ∧ ∃ k : Int, v = .int .i64 k ∧ decide (0 ≤ k) = !xs.all nameB ∧ St w w' []) := by
  refine x_enter Tryd.func33 rfl rfl rfl ?_
  intro a0 F0
  replace F0 : Fr ⟨19, []⟩ a0 [(0, .slice p xs.length cp), (1, .func (.func 29) #[] #[])] := F0
  have H0 := St.nil w
  refine wp_seq ?_
  refine r_lit ?_
  refine s_val wkP F0 rfl rfl rfl rfl (y_assign F0 rfl rfl) ?_; intro a1 F1; clear F0
  refine wpList_nil ?_
  refine c_then ?_
  refine wp_seq ?_
  refine wp_seq ?_
  refine r_lit ?_
  refine s_val wkP F1 rfl rfl rfl rfl (y_move F1 rfl rfl) ?_; intro a2 F2; clear F1
  refine s_val wkP F2 rfl rfl rfl rfl (y_lenS F2 rfl Tryd.underlying23 rfl) ?_; intro a3 F3; clear F2
  refine s_val wkP F3 rfl rfl rfl rfl (y_move F3 rfl rfl) ?_; intro a4 F4; clear F3
  refine wpList_nil ?_
  refine c_then ?_
  refine wp_block ?_
  refine x_loop (G := Nat) (fun k aa ww => Fr ⟨19, []⟩ aa [(0, .slice p xs.length cp), (1, .func (.func 29) #[] #[]), (7, .int .i64 (((xs.length : Nat) : Int))), (8, .int .i64 (((k : Nat) : Int)))] ∧ St w ww [] ∧ (k ≤ xs.length) ∧ ((xs.take k).all nameB = true)) (fun k => xs.length - k) 0 ⟨F4.cut _ ⟨rfl, rfl, rfl, rfl, trivial⟩, H0, Nat.zero_le _, rfl⟩ ?_
  clear F4
  rintro k a5 w5 ⟨F5, H5, hk, hall⟩
  refine wp_seq ?_
  refine r_lit ?_
  refine s_val wkP F5 rfl rfl rfl rfl (y_lss F5 rfl rfl rfl) ?_; intro a6 F6; clear F5
  refine wpList_nil ?_
  refine c_then ?_
  refine wp_seq ?_
  refine x_condP F6 rfl (fun hlt => ?_) (fun hlt => ?_)
  · skip
    refine wp_skip ?_
    refine c_then ?_
    refine wp_seq ?_
    refine wp_block ?_
    refine wp_seq ?_
    refine r_lit ?_
    refine s_val wkP F6 rfl rfl rfl rfl (y_move F6 rfl rfl) ?_; intro a8 F8; clear F6
    refine s_val wkP F8 rfl rfl rfl rfl (y_assign F8 rfl rfl) ?_; intro a9 F9; clear F8
    refine wpList_nil ?_
    refine c_then ?_
    refine wp_seq ?_
    refine r_lit ?_
    refine s_val wkP F9 rfl rfl rfl rfl (y_move F9 rfl rfl) ?_; intro a10 F10; clear F9
    refine s_val wkP F10 rfl rfl rfl rfl (y_move F10 rfl rfl) ?_; intro a11 F11; clear F10
    refine s_val wkP F11 rfl rfl rfl rfl (y_move F11 rfl rfl) ?_; intro a12 F12; clear F11
    obtain ⟨bb13, of13, hpe13, hrow13⟩ := hp (by omega)
    obtain ⟨x, mx⟩ : ∃ x, (xs)[k]? = some x := ⟨_, List.getElem?_eq_getElem (by first | omega | (simp only [List.length_set]; omega))⟩
    refine s_val wkP F12 rfl rfl rfl rfl (y_indexP F12 elemStr rfl rfl rfl hpe13 (by omega)) ?_; intro a15 F15; clear F12
    refine s_val wkP F15 rfl rfl rfl rfl (y_load1 F15 plStr rfl rfl (Row.elem txC_len (hrow13.st H5) (fun _ _ => trivial) mx 0 _ rfl)) ?_; intro a16 F16; clear F15
    refine s_callV wkP F16 rfl rfl rfl rfl (y_callV0 F16 rfl rfl rfl ent29) (notName x (hxs x (List.mem_of_getElem? mx)) _) ?_; intro w17 a17 hR17 F17; clear F16
    have H17 : St w w17 [] := H5.call hR17
    refine wpList_nil ?_
    refine c_then ?_
    refine x_cond F17 rfl (fun hn => ?_) (fun hn => ?_)
    · skip
      refine wp_seq ?_
      refine r_lit ?_
      refine s_val wkP F17 rfl rfl rfl rfl (y_move F17 rfl rfl) ?_; intro a19 F19; clear F17
      refine s_val wkP F19 rfl rfl rfl rfl (y_assign F19 rfl rfl) ?_; intro a20 F20; clear F19
      refine wpList_nil ?_
      refine c_then ?_
      refine wp_ret ?_
      refine c_blkR ?_
      refine c_thenR ?_
      refine c_thenR ?_
      refine c_blkR ?_
      refine c_thenR ?_
      refine x_ret1 F20 rfl rfl ?_
      exact ⟨_, rfl, _, rfl, by have h1 : xs.all nameB = false := List.all_eq_false.2 ⟨x, List.mem_of_getElem? mx, by simpa using hn⟩; simp [h1], H17.drop0⟩
    · skip
      refine wp_skip ?_
      refine c_blkN ?_
      refine c_then ?_
      refine r_lit ?_
      refine s_val wkP F17 rfl rfl rfl rfl (y_add F17 rfl rfl rfl (r := (((k : Nat) : Int)) + (1)) (wrap_i64 (by omega) (by omega) (by omega))) ?_; intro a21 F21; clear F17
      refine s_val wkP F21 rfl rfl rfl rfl (y_move F21 rfl rfl) ?_; intro a22 F22; clear F21
      refine wpList_nil ?_
      refine c_then ?_
      exact ⟨k + 1, ⟨F22.cut _ ⟨rfl, rfl, rfl, rfl, trivial⟩, H17, by omega, by rw [List.take_add_one, mx, List.all_append, hall]; simpa using hn⟩, by first | omega | (dsimp only; omega)⟩
  · skip
    refine wp_exit ?_
    refine c_thenX ?_
    refine c_thenX ?_
    refine c_hit ?_
    refine c_then ?_
    refine wp_seq ?_
    refine r_lit ?_
    refine s_val wkP F6 rfl rfl rfl rfl (y_assign F6 rfl rfl) ?_; intro a23 F23; clear F6
    refine wpList_nil ?_
    refine c_then ?_
    refine wp_ret ?_
    refine x_ret1 F23 rfl rfl ?_
    obtain rfl : k = xs.length := by omega
    rw [List.take_length] at hall
    exact ⟨_, rfl, -1, rfl, by simp [hall], H5.drop0⟩
theorem ent33 : ∀ args w, (callFunc 33 args).run Tryd.prog w = .ok (.enter 33 args) w := enters Tryd.func33 (by kernel_rfl) rfl
set_option maxRecDepth 100000 in
set_option maxHeartbeats 2000000 in
theorem containsFn (xs : List (List UInt8)) (hxs : ∀ x ∈ xs, x.length ≤ 4611686018427387903) (hxl : xs.length ≤ 1000000) (p : Option Addr) (cp : Nat) (w : World) (hp : 0 < xs.length → ∃ b off, p = some ⟨b, off, none⟩ ∧ Row w b off (rows txC xs)) :
    Calls Tryd.prog 28 [.slice p xs.length cp, .func (.func 29) #[] #[]].toArray w (fun e w' => e = .returned (.bool (!xs.all nameB)) ∧ St w w' []) := by
  refine x_enter Tryd.func28 rfl rfl rfl ?_
  intro a0 F0
  replace F0 : Fr ⟨9, []⟩ a0 [(0, .slice p xs.length cp), (1, .func (.func 29) #[] #[])] := F0
  have H0 := St.nil w
  refine wp_seq ?_
  refine r_lit ?_
  refine s_val wkP F0 rfl rfl rfl rfl (y_assign F0 rfl rfl) ?_; intro a1 F1; clear F0
  refine wpList_nil ?_
  refine c_then ?_
  refine wp_seq ?_
  refine r_lit ?_
  refine s_val wkP F1 rfl rfl rfl rfl (y_move F1 rfl rfl) ?_; intro a2 F2; clear F1
  refine s_val wkP F2 rfl rfl rfl rfl (y_move F2 rfl rfl) ?_; intro a3 F3; clear F2
  refine s_call wkP F3 rfl rfl rfl rfl (y_call F3 rfl rfl ent33) (indexFn xs hxs hxl p cp _ (fun h => by obtain ⟨b, off, e, hr⟩ := hp h; exact ⟨b, off, e, hr.st H0⟩)) ?_; intro v0 w4 a4 hR4 F4; clear F3
  obtain ⟨k0, rfl, hk0, hE⟩ := hR4
  have H4 : St w w4 [] := H0.call hE
  refine s_val wkP F4 rfl rfl rfl rfl (y_geq F4 rfl rfl rfl) ?_; intro a5 F5; clear F4
  refine s_val wkP F5 rfl rfl rfl rfl (y_assign F5 rfl rfl) ?_; intro a6 F6; clear F5
  refine wpList_nil ?_
  refine c_then ?_
  refine wp_ret ?_
  refine x_ret1 F6 rfl rfl ?_
  exact ⟨ret_bool hk0, H4.drop0⟩
theorem ent28 : ∀ args w, (callFunc 28 args).run Tryd.prog w = .ok (.enter 28 args) w := enters Tryd.func28 (by kernel_rfl) rfl
end Go.Proofs.YtodggokkklfopaaDoor
