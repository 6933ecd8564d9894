/- names. -/
import Derived.Test.YtodggokkklfopaaDoorPatB
set_option linter.unusedSimpArgs false
set_option linter.unusedVariables false
namespace Go.Proofs.YtodggokkklfopaaDoor
open Go.ChangeShapes Go.WideShapes Go.ChangeAt Go.RowKit Go.Tri
theorem trim_le (l : List UInt8) : (Lib.trimPrefix l [47]).length ≤ l.length := by
  unfold Lib.trimPrefix; split <;> simp
theorem sp_len : ∀ l : List UInt8, (sp l).length ≤ l.length + 1
  | [] => by simp [sp]
  | c :: r => by
    have ih := sp_len r
    simp only [sp]
    split
    · simp; omega
    · split
      · rename_i h; rw [h] at ih; simp at ih ⊢; omega
      · simp
theorem sp_le : ∀ l : List UInt8, ∀ x ∈ sp l, x.length ≤ l.length
  | [] => by simp [sp]
  | c :: r => by
    have ih := sp_le r
    intro x hx
    simp only [sp] at hx
    split at hx
    · rw [List.mem_cons] at hx
      rcases hx with rfl | hx
      · simp
      · have := ih x hx; simp; omega
    · split at hx
      · rename_i h t e
        rw [e] at ih
        rw [List.mem_cons] at hx
        rcases hx with rfl | hx
        · have := ih h (by simp); simp; omega
        · have := ih x (by simp [hx]); simp; omega
      · simp at hx; subst hx; simp
set_option maxRecDepth 100000 in
set_option maxHeartbeats 2000000 in
theorem names (l : List UInt8) (hl : l.length ≤ 90000) (w : World) :
    Calls Tryd.prog 22 [.string (txb l)].toArray w (fun e w' => ∃ v, e = .returned v ∧ ∃ v1, v = .tuple [v1, .bool (okP l)].toArray ∧ St w w' [HP.own 9 1 v1 (pns l).length (rows txC (pns l))]) := by
  refine x_enter Tryd.func22 rfl rfl rfl ?_
  intro a0 F0
  replace F0 : Fr ⟨28, []⟩ a0 [(0, .string (txb l))] := F0
  have H0 := St.nil w
  refine wp_seq ?_
  refine r_lit ?_
  refine s_val wkP F0 rfl rfl rfl rfl (y_assign F0 rfl rfl) ?_; intro a1 F1; clear F0
  refine s_val wkP F1 rfl rfl rfl rfl (y_assign F1 rfl rfl) ?_; intro a2 F2; clear F1
  refine wpList_nil ?_
  refine c_then ?_
  refine wp_seq ?_
  refine wp_seq ?_
  refine r_lit ?_
  refine s_val wkP F2 rfl rfl rfl rfl (y_move F2 rfl rfl) ?_; intro a3 F3; clear F2
  refine s_val wkP F3 rfl rfl rfl rfl (y_eqT (l := l) (m := [47]) F3 rfl rfl rfl) ?_; intro a4 F4; clear F3
  refine wpList_nil ?_
  refine c_then ?_
  refine x_condP F4 rfl (fun h1 => ?_) (fun h1 => ?_)
  · skip
    refine wp_seq ?_
    refine r_lit ?_
    refine s_val wkP F4 rfl rfl rfl rfl (y_assign F4 rfl rfl) ?_; intro a6 F6; clear F4
    refine s_val wkP F6 rfl rfl rfl rfl (y_assign F6 rfl rfl) ?_; intro a7 F7; clear F6
    refine wpList_nil ?_
    refine c_then ?_
    refine wp_ret ?_
    refine c_thenR ?_
    refine x_ret2 F7 rfl rfl rfl ?_
    subst h1
    exact ⟨_, rfl, _, rfl, H0.ownNil 9 1⟩
  · skip
    refine wp_skip ?_
    refine c_then ?_
    refine wp_seq ?_
    refine r_lit ?_
    refine s_val wkP F4 rfl rfl rfl rfl (y_move F4 rfl rfl) ?_; intro a8 F8; clear F4
    refine s_callV wkP F8 rfl rfl rfl rfl (y_call F8 rfl rfl ent26) (cutT l _) ?_; intro w9 a9 hR9 F9; clear F8
    have H9 : St w w9 [] := H0.call hR9
    refine s_val wkP F9 rfl rfl rfl rfl (y_move F9 rfl rfl) ?_; intro a10 F10; clear F9
    refine s_val wkP F10 rfl rfl rfl rfl (y_extract F10 rfl rfl rfl) ?_; intro a11 F11; clear F10
    refine s_val wkP F11 rfl rfl rfl rfl (y_extract F11 rfl rfl rfl) ?_; intro a12 F12; clear F11
    refine s_val wkP F12 rfl rfl rfl rfl (y_assign F12 rfl rfl) ?_; intro a13 F13; clear F12
    refine s_val wkP F13 rfl rfl rfl rfl (y_assign F13 rfl rfl) ?_; intro a14 F14; clear F13
    refine wpList_nil ?_
    refine c_then ?_
    refine wp_seq ?_
    refine r_lit ?_
    refine s_val wkP F14 rfl rfl rfl rfl (y_move F14 rfl rfl) ?_; intro a15 F15; clear F14
    refine s_call wkP F15 rfl rfl rfl rfl (y_call F15 rfl rfl ent27) (splitT (Lib.trimPrefix l [47]) (by have := trim_le l; omega) _) ?_; intro v0 w16 a16 hR16 F16; clear F15
    have H16 : St w w16 [HP.own 9 1 v0 ((sp (Lib.trimPrefix l [47])).length) (rows txC (sp (Lib.trimPrefix l [47])))] := H9.call hR16
    obtain ⟨p17, cap17, rfl, hcap17, hp17⟩ := H16.ownForm 0 rfl
    refine s_val wkP F16 rfl rfl rfl rfl (y_assign F16 rfl rfl) ?_; intro a18 F18; clear F16
    refine wpList_nil ?_
    refine c_then ?_
    refine wp_seq ?_
    refine wp_seq ?_
    refine r_lit ?_
    refine s_val wkP F18 rfl rfl rfl rfl (y_move F18 rfl rfl) ?_; intro a19 F19; clear F18
    refine s_val wkP F19 rfl rfl rfl rfl (y_not F19 rfl rfl) ?_; intro a20 F20; clear F19
    refine s_val wkP F20 rfl rfl rfl rfl (y_move F20 rfl rfl) ?_; intro a21 F21; clear F20
    refine g_splitB (k := 18) F21 rfl (fun h2 F22 => ?_) (fun h2 F22 => ?_)
    · clear F21
      refine g_off wkP F22 rfl rfl rfl rfl rfl rfl rfl ?_; intro a23 F23; clear F22
      refine g_off wkP F23 rfl rfl rfl rfl rfl rfl rfl ?_; intro a24 F24; clear F23
      refine g_off wkP F24 rfl rfl rfl rfl rfl rfl rfl ?_; intro a25 F25; clear F24
      refine s_val wkP F25 rfl rfl rfl rfl (y_pickT F25 rfl rfl rfl) ?_; intro a26 F26; clear F25
      refine s_val wkP F26 rfl rfl rfl rfl (y_move F26 rfl rfl) ?_; intro a27 F27; clear F26
      refine g_off wkP F27 rfl rfl rfl rfl rfl rfl rfl ?_; intro a28 F28; clear F27
      refine g_off wkP F28 rfl rfl rfl rfl rfl rfl rfl ?_; intro a29 F29; clear F28
      refine s_val wkP F29 rfl rfl rfl rfl (y_pickT F29 rfl rfl rfl) ?_; intro a30 F30; clear F29
      refine wpList_nil ?_
      refine c_then ?_
      refine x_condT F30 rfl ?_
      refine wp_seq ?_
      refine r_lit ?_
      refine s_val wkP F30 rfl rfl rfl rfl (y_assign F30 rfl rfl) ?_; intro a32 F32; clear F30
      refine s_val wkP F32 rfl rfl rfl rfl (y_assign F32 rfl rfl) ?_; intro a33 F33; clear F32
      refine wpList_nil ?_
      refine c_then ?_
      refine wp_ret ?_
      refine c_thenR ?_
      refine x_ret2 F33 rfl rfl rfl ?_
      have ho : okP l = false := by simp [okP, h1]; simp_all; try omega
      have hq : pns l = [] := by simp [pns, ho]
      refine ⟨_, rfl, _, by rw [ho], ?_⟩
      rw [hq]
      exact St.ownNil (H16.drop0) 9 1
    · clear F21
      refine g_onP F22 rfl rfl rfl rfl ?_
      refine s_val wkP F22 rfl rfl rfl rfl (y_move F22 rfl rfl) ?_; intro a34 F34; clear F22
      refine g_onP F34 rfl rfl rfl rfl ?_
      refine s_val wkP F34 rfl rfl rfl rfl (y_lenT (l := l) F34 rfl Tryd.underlying9 rfl) ?_; intro a35 F35; clear F34
      refine g_onP F35 rfl rfl rfl rfl ?_
      refine s_val wkP F35 rfl rfl rfl rfl (y_gtr F35 rfl rfl rfl) ?_; intro a36 F36; clear F35
      refine s_val wkP F36 rfl rfl rfl rfl (y_pickF F36 rfl rfl rfl) ?_; intro a37 F37; clear F36
      refine s_val wkP F37 rfl rfl rfl rfl (y_move F37 rfl rfl) ?_; intro a38 F38; clear F37
      refine g_split (k := 23) F38 rfl (fun h3 F39 => ?_) (fun h3 F39 => ?_)
      · clear F38
        refine g_off wkP F39 rfl rfl rfl rfl rfl rfl rfl ?_; intro a40 F40; clear F39
        refine g_off wkP F40 rfl rfl rfl rfl rfl rfl rfl ?_; intro a41 F41; clear F40
        refine s_val wkP F41 rfl rfl rfl rfl (y_pickT F41 rfl rfl rfl) ?_; intro a42 F42; clear F41
        refine wpList_nil ?_
        refine c_then ?_
        refine x_condT F42 rfl ?_
        refine wp_seq ?_
        refine r_lit ?_
        refine s_val wkP F42 rfl rfl rfl rfl (y_assign F42 rfl rfl) ?_; intro a44 F44; clear F42
        refine s_val wkP F44 rfl rfl rfl rfl (y_assign F44 rfl rfl) ?_; intro a45 F45; clear F44
        refine wpList_nil ?_
        refine c_then ?_
        refine wp_ret ?_
        refine c_thenR ?_
        refine x_ret2 F45 rfl rfl rfl ?_
        have ho : okP l = false := by simp [okP, h1]; simp_all; try omega
        have hq : pns l = [] := by simp [pns, ho]
        refine ⟨_, rfl, _, by rw [ho], ?_⟩
        rw [hq]
        exact St.ownNil (H16.drop0) 9 1
      · clear F38
        refine g_onP F39 rfl rfl rfl rfl ?_
        refine s_val wkP F39 rfl rfl rfl rfl (y_move F39 rfl rfl) ?_; intro a46 F46; clear F39
        refine g_onP F46 rfl rfl rfl rfl ?_
        refine s_callV wkP F46 rfl rfl rfl rfl (y_call F46 rfl rfl ent28) (containsFn (sp (Lib.trimPrefix l [47])) (fun x hx => by have := sp_le (Lib.trimPrefix l [47]) x hx; have := trim_le l; omega) (by have := sp_len (Lib.trimPrefix l [47]); have := trim_le l; omega) p17 cap17 _ (fun h => by obtain ⟨b, e⟩ := hp17 h; exact ⟨b, 0, e, H16.ownRowP 0 rfl e⟩)) ?_; intro w47 a47 hR47 F47; clear F46
        have H47 : St w w47 [HP.own 9 1 (.slice p17 ((sp (Lib.trimPrefix l [47])).length) cap17) ((sp (Lib.trimPrefix l [47])).length) (rows txC (sp (Lib.trimPrefix l [47])))] := H16.call hR47
        refine s_val wkP F47 rfl rfl rfl rfl (y_pickF F47 rfl rfl rfl) ?_; intro a48 F48; clear F47
        refine wpList_nil ?_
        refine c_then ?_
        refine x_cond F48 rfl (fun h4 => ?_) (fun h4 => ?_)
        · skip
          refine wp_seq ?_
          refine r_lit ?_
          refine s_val wkP F48 rfl rfl rfl rfl (y_assign F48 rfl rfl) ?_; intro a50 F50; clear F48
          refine s_val wkP F50 rfl rfl rfl rfl (y_assign F50 rfl rfl) ?_; intro a51 F51; clear F50
          refine wpList_nil ?_
          refine c_then ?_
          refine wp_ret ?_
          refine c_thenR ?_
          refine x_ret2 F51 rfl rfl rfl ?_
          have ho : okP l = false := by simp [okP, h1]; simp_all; try omega
          have hq : pns l = [] := by simp [pns, ho]
          refine ⟨_, rfl, _, by rw [ho], ?_⟩
          rw [hq]
          exact St.ownNil (H47.drop0) 9 1
        · skip
          refine wp_skip ?_
          refine c_then ?_
          refine wp_seq ?_
          refine r_lit ?_
          refine s_val wkP F48 rfl rfl rfl rfl (y_move F48 rfl rfl) ?_; intro a52 F52; clear F48
          refine s_val wkP F52 rfl rfl rfl rfl (y_assign F52 rfl rfl) ?_; intro a53 F53; clear F52
          refine s_val wkP F53 rfl rfl rfl rfl (y_assign F53 rfl rfl) ?_; intro a54 F54; clear F53
          refine wpList_nil ?_
          refine c_then ?_
          refine wp_ret ?_
          refine x_ret2 F54 rfl rfl rfl ?_
          have ho : okP l = true := by simp [okP, h1] at *; simp_all; omega
          have hq : pns l = sp (Lib.trimPrefix l [47]) := by simp [pns, ho, h1]
          refine ⟨_, rfl, _, by rw [ho], ?_⟩
          rw [hq]
          exact H47
theorem ent22 : ∀ args w, (callFunc 22 args).run Tryd.prog w = .ok (.enter 22 args) w := enters Tryd.func22 (by kernel_rfl) rfl
end Go.Proofs.YtodggokkklfopaaDoor
