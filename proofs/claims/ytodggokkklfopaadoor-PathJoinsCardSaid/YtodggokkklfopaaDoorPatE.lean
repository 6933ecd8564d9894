/- The document's Split. -/
import Derived.Test.YtodggokkklfopaaDoorPatD
set_option linter.unusedSimpArgs false
set_option linter.unusedVariables false
namespace Go.Proofs.YtodggokkklfopaaDoor
open Go.ChangeShapes Go.WideShapes Go.ChangeAt Go.RowKit Go.Tri
theorem sp_noslash : ∀ {s : List UInt8}, (∀ c ∈ s, c ≠ 47) → sp s = [s]
  | [], _ => rfl
  | c :: r, h => by
    simp only [sp, h c (by simp), if_false]
    rw [sp_noslash (s := r) fun x hx => h x (by simp [hx])]
theorem sp_slash : ∀ {s : List UInt8} (u : List UInt8), (∀ c ∈ s, c ≠ 47) → sp (s ++ 47 :: u) = s :: sp u
  | [], u, _ => by simp [sp]
  | c :: r, u, h => by
    simp only [List.cons_append, sp, h c (by simp), if_false]
    rw [sp_slash (s := r) u fun x hx => h x (by simp [hx])]
/-- While a path is gone through: the names so far, and from where on the next one stands. -/
structure RS (l : List UInt8) (i f : Nat) (out : List (List UInt8)) : Prop where
  ord : 1 ≤ f ∧ f ≤ i ∧ i ≤ l.length + 1
  cutS : i ≤ l.length → sp (l.drop 1) = out ++ sp (l.drop f)
  fin : i = l.length + 1 → sp (l.drop 1) = out
  seg : ∀ c ∈ (l.take i).drop f, c ≠ 47
  all : out.all nameB = true
  len : out.length ≤ i
theorem RS.start {l : List UInt8} (h : 2 ≤ l.length) : RS l 1 1 [] := ⟨by omega, fun _ => by simp, fun h => by omega, by simp, rfl, by simp⟩
theorem RS.cont {l : List UInt8} {i f : Nat} {out : List (List UInt8)} {c : UInt8} (h : RS l i f out) (hi : i < l.length) (hc : l[i]? = some c) (hn : ¬ ((c.toNat : Nat) : Int) = 47) : RS l (i + 1) f out := by
  refine ⟨by have := h.ord; omega, fun _ => h.cutS (by omega), fun e => by omega, fun x hx => ?_, h.all, by have := h.len; omega⟩
  rw [List.take_add_one, hc, List.drop_append_of_le_length (by rw [List.length_take]; have := h.ord; omega), List.mem_append] at hx
  rcases hx with hx | hx
  · exact h.seg x hx
  · simp at hx; subst hx
    intro e; subst e; exact hn rfl
theorem RS.cut {l : List UInt8} {i f : Nat} {out : List (List UInt8)} {c : UInt8} (h : RS l i f out) (hi : i < l.length) (hc : l[i]? = some c) (hn : ((c.toNat : Nat) : Int) = 47) (hm : nameB ((l.take i).drop f) = true) : RS l (i + 1) (i + 1) (out ++ [(l.take i).drop f]) := by
  have ho := h.ord
  have e : l.drop f = (l.take i).drop f ++ 47 :: l.drop (i + 1) := by
    obtain ⟨h1, h2⟩ := List.getElem?_eq_some_iff.1 hc
    have hc47 : c = 47 := by apply UInt8.toNat_inj.1; have : (47 : UInt8).toNat = 47 := rfl; omega
    have h3 : l.drop f = (l.take i ++ l.drop i).drop f := by rw [List.take_append_drop]
    rw [h3, List.drop_append_of_le_length (by rw [List.length_take]; omega), List.drop_eq_getElem_cons h1, h2, hc47]
  refine ⟨by omega, fun _ => ?_, fun e => by omega, by simp, by simp [h.all, hm], by have := h.len; simp; omega⟩
  rw [h.cutS (by omega), e, sp_slash _ h.seg]; simp
theorem RS.last {l : List UInt8} {i f : Nat} {out : List (List UInt8)} (h : RS l i f out) (hi : i = l.length) (hm : nameB ((l.take i).drop f) = true) : RS l (i + 1) (i + 1) (out ++ [(l.take i).drop f]) := by
  have ho := h.ord
  have e : (l.take i).drop f = l.drop f := by rw [hi, List.take_length]
  refine ⟨by omega, fun _ => by omega, fun _ => ?_, by simp, by simp [h.all, hm], by have := h.len; simp; omega⟩
  rw [h.cutS (by omega), e, sp_noslash (by rw [← e]; exact h.seg)]
theorem RS.bad {l : List UInt8} {i f : Nat} {out : List (List UInt8)} (h : RS l i f out) (hi : i ≤ l.length) (hcut : i = l.length ∨ ∃ c, l[i]? = some c ∧ ((c.toNat : Nat) : Int) = 47) (hm : nameB ((l.take i).drop f) = false) : (sp (l.drop 1)).all nameB = false := by
  have ho := h.ord
  rw [List.all_eq_false]
  refine ⟨(l.take i).drop f, ?_, by simp [hm]⟩
  rw [h.cutS hi, List.mem_append]
  refine .inr ?_
  rcases hcut with e | ⟨c, hc, hn⟩
  · have e2 : (l.take i).drop f = l.drop f := by rw [e, List.take_length]
    rw [sp_noslash (s := l.drop f) (by rw [← e2]; exact h.seg), e2]; simp
  · have e : l.drop f = (l.take i).drop f ++ 47 :: l.drop (i + 1) := by
      obtain ⟨h1, h2⟩ := List.getElem?_eq_some_iff.1 hc
      have hc47 : c = 47 := by apply UInt8.toNat_inj.1; have : (47 : UInt8).toNat = 47 := rfl; omega
      have h3 : l.drop f = (l.take i ++ l.drop i).drop f := by rw [List.take_append_drop]
      rw [h3, List.drop_append_of_le_length (by rw [List.length_take]; omega), List.drop_eq_getElem_cons h1, h2, hc47]
    rw [e, sp_slash _ h.seg]; simp
theorem pre_of {l : List UInt8} {c : UInt8} (hc : l[0]? = some c) (hn : ((c.toNat : Nat) : Int) = 47) : Lib.hasPrefix l [47] = true ∧ Lib.trimPrefix l [47] = l.drop 1 := by
  have hc47 : c = 47 := by apply UInt8.toNat_inj.1; have : (47 : UInt8).toNat = 47 := rfl; omega
  cases l with
  | nil => cases hc
  | cons a r =>
    simp at hc; subst hc; subst hc47
    have : Lib.hasPrefix (47 :: r) [47] = true := by simp [Lib.hasPrefix, List.isPrefixOf]
    exact ⟨this, by simp [Lib.trimPrefix, this]⟩
theorem okP_no {l : List UInt8} (h : l ≠ [47]) (h2 : l.length < 2 ∨ 24 < l.length ∨ ∃ c, l[0]? = some c ∧ ¬ ((c.toNat : Nat) : Int) = 47) : okP l = false := by
  have hd : decide (l = [47]) = false := by simp [h]
  unfold okP
  rw [hd, Bool.false_or]
  rcases h2 with h2 | h2 | ⟨c, hc, hn⟩
  · have : Lib.hasPrefix l [47] = false := by
      cases l with
      | nil => rfl
      | cons a r =>
        cases r with
        | nil =>
          have : a ≠ 47 := fun e => h (by rw [e])
          simp [Lib.hasPrefix, List.isPrefixOf, Ne.symm this]
        | cons b r => simp at h2; omega
    simp [this]
  · simp; intros; omega
  · have : Lib.hasPrefix l [47] = false := by
      cases l with
      | nil => cases hc
      | cons a r =>
        simp at hc; subst hc
        have : a ≠ 47 := fun e => hn (by rw [e]; rfl)
        simp [Lib.hasPrefix, List.isPrefixOf, Ne.symm this]
    simp [this]
set_option maxRecDepth 100000 in
set_option maxHeartbeats 2000000 in
theorem rsplit (l : List UInt8) (hl : l.length ≤ 80000) (w : World) :
    Calls Tryd.prog 8 [.string (txb l)].toArray w (fun e w' => ∃ v, e = .returned v ∧ ∃ v1, v = .tuple [v1, .bool (okP l)].toArray ∧ St w w' [HP.own 9 1 v1 (pns l).length (rows txC (pns l))]) := by
  refine x_enter Tryd.func8 rfl rfl rfl ?_
  intro a0 F0
  replace F0 : Fr ⟨58, []⟩ a0 [(0, .string (txb l))] := F0
  have H0 := St.nil w
  refine wp_seq ?_
  refine r_lit ?_
  refine s_val wkP F0 rfl rfl rfl rfl (y_assign F0 rfl rfl) ?_; intro a1 F1; clear F0
  refine s_val wkP F1 rfl rfl rfl rfl (y_assign F1 rfl rfl) ?_; intro a2 F2; clear F1
  refine wpList_nil ?_
  refine c_then ?_
  refine wp_seq ?_
  refine r_lit ?_
  refine s_build0 wkP F2 rfl rfl rfl elemStr rfl H0 ?_; intro s3 w3 a3 H3 F3; clear F2
  refine s_val wkP F3 rfl rfl rfl rfl (y_assign F3 rfl rfl) ?_; intro a4 F4; clear F3
  refine wpList_nil ?_
  refine c_then ?_
  refine wp_seq ?_
  refine wp_seq ?_
  refine r_lit ?_
  refine s_val wkP F4 rfl rfl rfl rfl (y_move F4 rfl rfl) ?_; intro a5 F5; clear F4
  refine s_val wkP F5 rfl rfl rfl rfl (y_eqT (l := l) (m := [47]) F5 rfl rfl rfl) ?_; intro a6 F6; clear F5
  refine wpList_nil ?_
  refine c_then ?_
  refine x_condP F6 rfl (fun h1 => ?_) (fun h1 => ?_)
  · skip
    refine wp_seq ?_
    refine r_lit ?_
    refine s_val wkP F6 rfl rfl rfl rfl (y_move F6 rfl rfl) ?_; intro a8 F8; clear F6
    refine s_val wkP F8 rfl rfl rfl rfl (y_assign F8 rfl rfl) ?_; intro a9 F9; clear F8
    refine s_val wkP F9 rfl rfl rfl rfl (y_assign F9 rfl rfl) ?_; intro a10 F10; clear F9
    refine wpList_nil ?_
    refine c_then ?_
    refine wp_ret ?_
    refine c_thenR ?_
    refine x_ret2 F10 rfl rfl rfl ?_
    subst h1
    exact ⟨_, rfl, _, rfl, H3⟩
  · skip
    refine wp_skip ?_
    refine c_then ?_
    refine wp_seq ?_
    refine wp_seq ?_
    refine r_lit ?_
    refine s_val wkP F6 rfl rfl rfl rfl (y_move F6 rfl rfl) ?_; intro a11 F11; clear F6
    refine s_val wkP F11 rfl rfl rfl rfl (y_lenT (l := l) F11 rfl Tryd.underlying9 rfl) ?_; intro a12 F12; clear F11
    refine s_val wkP F12 rfl rfl rfl rfl (y_lss F12 rfl rfl rfl) ?_; intro a13 F13; clear F12
    refine s_val wkP F13 rfl rfl rfl rfl (y_move F13 rfl rfl) ?_; intro a14 F14; clear F13
    refine g_split (k := 14) F14 rfl (fun h2 F15 => ?_) (fun h2 F15 => ?_)
    · clear F14
      refine g_off wkP F15 rfl rfl rfl rfl rfl rfl rfl ?_; intro a16 F16; clear F15
      refine g_off wkP F16 rfl rfl rfl rfl rfl rfl rfl ?_; intro a17 F17; clear F16
      refine g_off wkP F17 rfl rfl rfl rfl rfl rfl rfl ?_; intro a18 F18; clear F17
      refine s_val wkP F18 rfl rfl rfl rfl (y_pickT F18 rfl rfl rfl) ?_; intro a19 F19; clear F18
      refine s_val wkP F19 rfl rfl rfl rfl (y_move F19 rfl rfl) ?_; intro a20 F20; clear F19
      refine g_off wkP F20 rfl rfl rfl rfl rfl rfl rfl ?_; intro a21 F21; clear F20
      refine g_off wkP F21 rfl rfl rfl rfl rfl rfl rfl ?_; intro a22 F22; clear F21
      refine g_off wkP F22 rfl rfl rfl rfl rfl rfl rfl ?_; intro a23 F23; clear F22
      refine s_val wkP F23 rfl rfl rfl rfl (y_pickT F23 rfl rfl rfl) ?_; intro a24 F24; clear F23
      refine wpList_nil ?_
      refine c_then ?_
      refine x_condT F24 rfl ?_
      refine wp_seq ?_
      refine r_lit ?_
      refine s_val wkP F24 rfl rfl rfl rfl (y_move F24 rfl rfl) ?_; intro a26 F26; clear F24
      refine s_val wkP F26 rfl rfl rfl rfl (y_assign F26 rfl rfl) ?_; intro a27 F27; clear F26
      refine s_val wkP F27 rfl rfl rfl rfl (y_assign F27 rfl rfl) ?_; intro a28 F28; clear F27
      refine wpList_nil ?_
      refine c_then ?_
      refine wp_ret ?_
      refine c_thenR ?_
      refine x_ret2 F28 rfl rfl rfl ?_
      have ho : okP l = false := okP_no h1 (by first | exact .inl (by omega) | exact .inr (.inl (by omega)) | exact .inr (.inr ⟨c0, mc0, h4⟩))
      have hq : pns l = [] := by simp [pns, ho]
      refine ⟨_, rfl, _, by rw [ho], ?_⟩
      rw [hq]
      exact H3
    · clear F14
      refine g_onP F15 rfl rfl rfl rfl ?_
      refine s_val wkP F15 rfl rfl rfl rfl (y_move F15 rfl rfl) ?_; intro a29 F29; clear F15
      refine g_onP F29 rfl rfl rfl rfl ?_
      refine s_val wkP F29 rfl rfl rfl rfl (y_lenT (l := l) F29 rfl Tryd.underlying9 rfl) ?_; intro a30 F30; clear F29
      refine g_onP F30 rfl rfl rfl rfl ?_
      refine s_val wkP F30 rfl rfl rfl rfl (y_gtr F30 rfl rfl rfl) ?_; intro a31 F31; clear F30
      refine s_val wkP F31 rfl rfl rfl rfl (y_pickF F31 rfl rfl rfl) ?_; intro a32 F32; clear F31
      refine s_val wkP F32 rfl rfl rfl rfl (y_move F32 rfl rfl) ?_; intro a33 F33; clear F32
      refine g_split (k := 19) F33 rfl (fun h3 F34 => ?_) (fun h3 F34 => ?_)
      · clear F33
        refine g_off wkP F34 rfl rfl rfl rfl rfl rfl rfl ?_; intro a35 F35; clear F34
        refine g_off wkP F35 rfl rfl rfl rfl rfl rfl rfl ?_; intro a36 F36; clear F35
        refine g_off wkP F36 rfl rfl rfl rfl rfl rfl rfl ?_; intro a37 F37; clear F36
        refine s_val wkP F37 rfl rfl rfl rfl (y_pickT F37 rfl rfl rfl) ?_; intro a38 F38; clear F37
        refine wpList_nil ?_
        refine c_then ?_
        refine x_condT F38 rfl ?_
        refine wp_seq ?_
        refine r_lit ?_
        refine s_val wkP F38 rfl rfl rfl rfl (y_move F38 rfl rfl) ?_; intro a40 F40; clear F38
        refine s_val wkP F40 rfl rfl rfl rfl (y_assign F40 rfl rfl) ?_; intro a41 F41; clear F40
        refine s_val wkP F41 rfl rfl rfl rfl (y_assign F41 rfl rfl) ?_; intro a42 F42; clear F41
        refine wpList_nil ?_
        refine c_then ?_
        refine wp_ret ?_
        refine c_thenR ?_
        refine x_ret2 F42 rfl rfl rfl ?_
        have ho : okP l = false := okP_no h1 (by first | exact .inl (by omega) | exact .inr (.inl (by omega)) | exact .inr (.inr ⟨c0, mc0, h4⟩))
        have hq : pns l = [] := by simp [pns, ho]
        refine ⟨_, rfl, _, by rw [ho], ?_⟩
        rw [hq]
        exact H3
      · clear F33
        refine g_onP F34 rfl rfl rfl rfl ?_
        refine s_val wkP F34 rfl rfl rfl rfl (y_move F34 rfl rfl) ?_; intro a43 F43; clear F34
        refine g_onP F43 rfl rfl rfl rfl ?_
        obtain ⟨c0, mc0⟩ : ∃ x, (l)[0]? = some x := ⟨_, List.getElem?_eq_getElem (by omega)⟩
        have hc0 := c0.toNat_lt
        refine s_val wkP F43 rfl rfl rfl rfl (y_indexT (l := l) (i := 0) F43 rfl Tryd.underlying9 rfl rfl mc0) ?_; intro a45 F45; clear F43
        refine g_onP F45 rfl rfl rfl rfl ?_
        refine s_val wkP F45 rfl rfl rfl rfl (y_neq F45 rfl rfl rfl) ?_; intro a46 F46; clear F45
        refine s_val wkP F46 rfl rfl rfl rfl (y_pickF F46 rfl rfl rfl) ?_; intro a47 F47; clear F46
        refine wpList_nil ?_
        refine c_then ?_
        refine x_condN F47 rfl (fun h4 => ?_) (fun h4 => ?_)
        · skip
          refine wp_seq ?_
          refine r_lit ?_
          refine s_val wkP F47 rfl rfl rfl rfl (y_move F47 rfl rfl) ?_; intro a49 F49; clear F47
          refine s_val wkP F49 rfl rfl rfl rfl (y_assign F49 rfl rfl) ?_; intro a50 F50; clear F49
          refine s_val wkP F50 rfl rfl rfl rfl (y_assign F50 rfl rfl) ?_; intro a51 F51; clear F50
          refine wpList_nil ?_
          refine c_then ?_
          refine wp_ret ?_
          refine c_thenR ?_
          refine x_ret2 F51 rfl rfl rfl ?_
          have ho : okP l = false := okP_no h1 (by first | exact .inl (by omega) | exact .inr (.inl (by omega)) | exact .inr (.inr ⟨c0, mc0, h4⟩))
          have hq : pns l = [] := by simp [pns, ho]
          refine ⟨_, rfl, _, by rw [ho], ?_⟩
          rw [hq]
          exact H3
        · skip
          refine wp_skip ?_
          refine c_then ?_
          refine wp_seq ?_
          have hpre := pre_of mc0 h4
          refine r_lit ?_
          refine s_val wkP F47 rfl rfl rfl rfl (y_assign F47 rfl rfl) ?_; intro a52 F52; clear F47
          refine wpList_nil ?_
          refine c_then ?_
          refine wp_seq ?_
          refine wp_seq ?_
          refine r_lit ?_
          refine s_val wkP F52 rfl rfl rfl rfl (y_assign F52 rfl rfl) ?_; intro a53 F53; clear F52
          refine wpList_nil ?_
          refine c_then ?_
          refine wp_block ?_
          refine x_loop (G := Nat × Nat × List (List UInt8) × Value) (fun gg aa ww => match gg with | (i, f, out, so) => Fr ⟨58, []⟩ aa [(0, .string (txb (l))), (4, so), (5, .int .i64 (((f : Nat) : Int))), (6, .int .i64 (((i : Nat) : Int)))] ∧ St w ww [HP.own 9 1 so (out.length) (rows txC out)] ∧ (RS l i f out)) (fun gg => match gg with | (i, f, out, so) => l.length + 1 - i) (1, 1, [], s3) ⟨F53.cut _ ⟨rfl, rfl, rfl, rfl, trivial⟩, H3, RS.start (by omega)⟩ ?_
          clear F53
          rintro ⟨i, f, out, so⟩ a54 w54 ⟨F54, H54, hrs⟩
          refine wp_seq ?_
          refine wp_seq ?_
          refine r_lit ?_
          refine s_val wkP F54 rfl rfl rfl rfl (y_move F54 rfl rfl) ?_; intro a55 F55; clear F54
          refine s_val wkP F55 rfl rfl rfl rfl (y_move F55 rfl rfl) ?_; intro a56 F56; clear F55
          refine s_val wkP F56 rfl rfl rfl rfl (y_lenT (l := l) F56 rfl Tryd.underlying9 rfl) ?_; intro a57 F57; clear F56
          refine s_val wkP F57 rfl rfl rfl rfl (y_leq F57 rfl rfl rfl) ?_; intro a58 F58; clear F57
          refine wpList_nil ?_
          refine c_then ?_
          refine x_condP F58 rfl (fun hlt => ?_) (fun hlt => ?_)
          · skip
            have hord := hrs.ord
            have holen := hrs.len
            refine wp_skip ?_
            refine c_then ?_
            refine wp_seq ?_
            refine wp_block ?_
            refine wp_seq ?_
            refine wp_seq ?_
            refine r_lit ?_
            refine s_val wkP F58 rfl rfl rfl rfl (y_move F58 rfl rfl) ?_; intro a60 F60; clear F58
            refine s_val wkP F60 rfl rfl rfl rfl (y_move F60 rfl rfl) ?_; intro a61 F61; clear F60
            refine s_val wkP F61 rfl rfl rfl rfl (y_lenT (l := l) F61 rfl Tryd.underlying9 rfl) ?_; intro a62 F62; clear F61
            refine s_val wkP F62 rfl rfl rfl rfl (y_lss F62 rfl rfl rfl) ?_; intro a63 F63; clear F62
            refine s_val wkP F63 rfl rfl rfl rfl (y_move F63 rfl rfl) ?_; intro a64 F64; clear F63
            refine g_split (k := 35) F64 rfl (fun hil F65 => ?_) (fun hil F65 => ?_)
            · clear F64
              refine g_onP F65 rfl rfl rfl rfl ?_
              refine s_val wkP F65 rfl rfl rfl rfl (y_move F65 rfl rfl) ?_; intro a66 F66; clear F65
              refine g_onP F66 rfl rfl rfl rfl ?_
              refine s_val wkP F66 rfl rfl rfl rfl (y_move F66 rfl rfl) ?_; intro a67 F67; clear F66
              refine g_onP F67 rfl rfl rfl rfl ?_
              obtain ⟨c, mc⟩ : ∃ x, (l)[i]? = some x := ⟨_, List.getElem?_eq_getElem (by omega)⟩
              have hc := c.toNat_lt
              refine s_val wkP F67 rfl rfl rfl rfl (y_indexT (l := l) (i := i) F67 rfl Tryd.underlying9 rfl rfl mc) ?_; intro a69 F69; clear F67
              refine g_onP F69 rfl rfl rfl rfl ?_
              refine s_val wkP F69 rfl rfl rfl rfl (y_neq F69 rfl rfl rfl) ?_; intro a70 F70; clear F69
              refine s_val wkP F70 rfl rfl rfl rfl (y_pickT F70 rfl rfl rfl) ?_; intro a71 F71; clear F70
              refine wpList_nil ?_
              refine c_then ?_
              refine x_condN F71 rfl (fun hsl => ?_) (fun hsl => ?_)
              · skip
                refine wp_exit ?_
                refine c_thenX ?_
                refine c_hit ?_
                refine c_then ?_
                refine r_lit ?_
                refine s_val wkP F71 rfl rfl rfl rfl (y_move F71 rfl rfl) ?_; intro a73 F73; clear F71
                refine s_val wkP F73 rfl rfl rfl rfl (y_add F73 rfl rfl rfl (r := ((i + 1 : Nat) : Int)) (wrap_i64 (by omega) (by omega) (by omega))) ?_; intro a74 F74; clear F73
                refine s_val wkP F74 rfl rfl rfl rfl (y_assign F74 rfl rfl) ?_; intro a75 F75; clear F74
                refine wpList_nil ?_
                refine c_then ?_
                exact ⟨(i + 1, f, out, so), ⟨F75.cut _ ⟨rfl, rfl, rfl, rfl, trivial⟩, H54, hrs.cont (by omega) mc hsl⟩, by first | omega | (dsimp only; omega)⟩
              · skip
                refine wp_skip ?_
                refine c_then ?_
                refine wp_seq ?_
                refine wp_seq ?_
                refine r_lit ?_
                refine s_val wkP F71 rfl rfl rfl rfl (y_move F71 rfl rfl) ?_; intro a76 F76; clear F71
                refine s_val wkP F76 rfl rfl rfl rfl (y_move F76 rfl rfl) ?_; intro a77 F77; clear F76
                refine s_val wkP F77 rfl rfl rfl rfl (y_move F77 rfl rfl) ?_; intro a78 F78; clear F77
                refine s_val wkP F78 rfl rfl rfl rfl (y_sliceT (l := l) (i := f) (j := i) F78 rfl Tryd.underlying9 rfl rfl rfl (by first | omega | (simp; omega)) (by first | omega | (simp; omega))) ?_; intro a79 F79; clear F78
                refine s_callV wkP F79 rfl rfl rfl rfl (y_call F79 rfl rfl ent11) (rname ((l.take i).drop f) (by simp; omega) _) ?_; intro w80 a80 hR80 F80; clear F79
                have H80 : St w w80 [HP.own 9 1 so (out.length) (rows txC out)] := H54.call hR80
                refine s_val wkP F80 rfl rfl rfl rfl (y_not F80 rfl rfl) ?_; intro a81 F81; clear F80
                refine wpList_nil ?_
                refine c_then ?_
                refine x_cond F81 rfl (fun hnm => ?_) (fun hnm => ?_)
                · skip
                  replace hnm : nameB ((l.take i).drop f) = false := by simpa using hnm
                  refine wp_seq ?_
                  refine r_lit ?_
                  refine s_build0 wkP F81 rfl rfl rfl elemStr rfl H80 ?_; intro s83 w83 a83 H83 F83; clear F81
                  refine s_val wkP F83 rfl rfl rfl rfl (y_assign F83 rfl rfl) ?_; intro a84 F84; clear F83
                  refine s_val wkP F84 rfl rfl rfl rfl (y_assign F84 rfl rfl) ?_; intro a85 F85; clear F84
                  refine wpList_nil ?_
                  refine c_then ?_
                  refine wp_ret ?_
                  refine c_thenR ?_
                  refine c_blkR ?_
                  refine c_thenR ?_
                  refine c_thenR ?_
                  refine c_blkR ?_
                  refine c_thenR ?_
                  refine x_ret2 F85 rfl rfl rfl ?_
                  have hbad := hrs.bad (by omega) (.inr ⟨c, mc, hsl⟩) hnm
                  have ho : okP l = false := by unfold okP; rw [hpre.1, hpre.2, hbad]; simp [h1]
                  have hq : pns l = [] := by simp [pns, ho]
                  refine ⟨_, rfl, _, by rw [ho], ?_⟩
                  rw [hq]
                  exact H83.pick [0] (by decide) rfl
                · skip
                  replace hnm : nameB ((l.take i).drop f) = true := by simpa using hnm
                  refine wp_skip ?_
                  refine c_then ?_
                  refine wp_seq ?_
                  refine r_lit ?_
                  refine s_val wkP F81 rfl rfl rfl rfl (y_move F81 rfl rfl) ?_; intro a86 F86; clear F81
                  refine s_val wkP F86 rfl rfl rfl rfl (y_move F86 rfl rfl) ?_; intro a87 F87; clear F86
                  refine s_val wkP F87 rfl rfl rfl rfl (y_move F87 rfl rfl) ?_; intro a88 F88; clear F87
                  refine s_val wkP F88 rfl rfl rfl rfl (y_move F88 rfl rfl) ?_; intro a89 F89; clear F88
                  refine s_val wkP F89 rfl rfl rfl rfl (y_sliceT (l := l) (i := f) (j := i) F89 rfl Tryd.underlying9 rfl rfl rfl (by first | omega | (simp; omega)) (by first | omega | (simp; omega))) ?_; intro a90 F90; clear F89
                  refine s_buildC wkP F90 rfl rfl rfl elemStr z1Str rfl rfl rfl rfl (by simp [Value.cells]) (by decide) H80 ?_; intro b91 w91 a91 H91 F91; clear F90
                  refine s_append wkP F91 rfl rfl rfl rfl H91 1 rfl rfl elemStr rfl (.inr (.inr ⟨_, _, _, rfl, Nat.le_refl _, (H91.blk 0 rfl).row⟩)) (by rw [Nat.one_mul]; exact rfl) (txC_flat _) (by unfold maxLen; first | omega | (simp; omega)) (by first | omega | (simp; omega)) ?_; intro s92 w92 a92 h92 F92; clear F91
                  have H92 : St w w92 [HP.blk b91 ([.string (txb ((((l).take (i)).drop (f))))]) 9, HP.own 9 1 s92 ((out ++ [(((l).take (i)).drop (f))]).length) (rows txC (out ++ [(((l).take (i)).drop (f))]))] := by rw [rows_snoc, List.length_append]; exact h92
                  clear h92
                  refine s_val wkP F92 rfl rfl rfl rfl (y_assign F92 rfl rfl) ?_; intro a93 F93; clear F92
                  refine wpList_nil ?_
                  refine c_then ?_
                  refine r_lit ?_
                  refine s_val wkP F93 rfl rfl rfl rfl (y_move F93 rfl rfl) ?_; intro a94 F94; clear F93
                  refine s_val wkP F94 rfl rfl rfl rfl (y_add F94 rfl rfl rfl (r := ((i + 1 : Nat) : Int)) (wrap_i64 (by omega) (by omega) (by omega))) ?_; intro a95 F95; clear F94
                  refine s_val wkP F95 rfl rfl rfl rfl (y_assign F95 rfl rfl) ?_; intro a96 F96; clear F95
                  refine wpList_nil ?_
                  refine c_blkN ?_
                  refine c_then ?_
                  refine r_lit ?_
                  refine s_val wkP F96 rfl rfl rfl rfl (y_move F96 rfl rfl) ?_; intro a97 F97; clear F96
                  refine s_val wkP F97 rfl rfl rfl rfl (y_add F97 rfl rfl rfl (r := ((i + 1 : Nat) : Int)) (wrap_i64 (by omega) (by omega) (by omega))) ?_; intro a98 F98; clear F97
                  refine s_val wkP F98 rfl rfl rfl rfl (y_assign F98 rfl rfl) ?_; intro a99 F99; clear F98
                  refine wpList_nil ?_
                  refine c_then ?_
                  exact ⟨(i + 1, i + 1, (out ++ [(((l).take (i)).drop (f))]), s92), ⟨F99.cut _ ⟨rfl, rfl, rfl, rfl, trivial⟩, H92.pick [1] (by decide) rfl, hrs.cut (by omega) mc hsl hnm⟩, by first | omega | (dsimp only; omega)⟩
            · clear F64
              refine g_off wkP F65 rfl rfl rfl rfl rfl rfl rfl ?_; intro a100 F100; clear F65
              refine g_off wkP F100 rfl rfl rfl rfl rfl rfl rfl ?_; intro a101 F101; clear F100
              refine g_off wkP F101 rfl rfl rfl rfl rfl rfl rfl ?_; intro a102 F102; clear F101
              refine g_off wkP F102 rfl rfl rfl rfl rfl rfl rfl ?_; intro a103 F103; clear F102
              refine s_val wkP F103 rfl rfl rfl rfl (y_pickF F103 rfl rfl rfl) ?_; intro a104 F104; clear F103
              refine wpList_nil ?_
              refine c_then ?_
              refine x_condF F104 rfl ?_
              refine wp_skip ?_
              refine c_then ?_
              refine wp_seq ?_
              refine wp_seq ?_
              refine r_lit ?_
              refine s_val wkP F104 rfl rfl rfl rfl (y_move F104 rfl rfl) ?_; intro a106 F106; clear F104
              refine s_val wkP F106 rfl rfl rfl rfl (y_move F106 rfl rfl) ?_; intro a107 F107; clear F106
              refine s_val wkP F107 rfl rfl rfl rfl (y_move F107 rfl rfl) ?_; intro a108 F108; clear F107
              refine s_val wkP F108 rfl rfl rfl rfl (y_sliceT (l := l) (i := f) (j := i) F108 rfl Tryd.underlying9 rfl rfl rfl (by first | omega | (simp; omega)) (by first | omega | (simp; omega))) ?_; intro a109 F109; clear F108
              refine s_callV wkP F109 rfl rfl rfl rfl (y_call F109 rfl rfl ent11) (rname ((l.take i).drop f) (by simp; omega) _) ?_; intro w110 a110 hR110 F110; clear F109
              have H110 : St w w110 [HP.own 9 1 so (out.length) (rows txC out)] := H54.call hR110
              refine s_val wkP F110 rfl rfl rfl rfl (y_not F110 rfl rfl) ?_; intro a111 F111; clear F110
              refine wpList_nil ?_
              refine c_then ?_
              refine x_cond F111 rfl (fun hnm => ?_) (fun hnm => ?_)
              · skip
                replace hnm : nameB ((l.take i).drop f) = false := by simpa using hnm
                refine wp_seq ?_
                refine r_lit ?_
                refine s_build0 wkP F111 rfl rfl rfl elemStr rfl H110 ?_; intro s113 w113 a113 H113 F113; clear F111
                refine s_val wkP F113 rfl rfl rfl rfl (y_assign F113 rfl rfl) ?_; intro a114 F114; clear F113
                refine s_val wkP F114 rfl rfl rfl rfl (y_assign F114 rfl rfl) ?_; intro a115 F115; clear F114
                refine wpList_nil ?_
                refine c_then ?_
                refine wp_ret ?_
                refine c_thenR ?_
                refine c_blkR ?_
                refine c_thenR ?_
                refine c_thenR ?_
                refine c_blkR ?_
                refine c_thenR ?_
                refine x_ret2 F115 rfl rfl rfl ?_
                have hbad := hrs.bad (by omega) (.inl (by omega)) hnm
                have ho : okP l = false := by unfold okP; rw [hpre.1, hpre.2, hbad]; simp [h1]
                have hq : pns l = [] := by simp [pns, ho]
                refine ⟨_, rfl, _, by rw [ho], ?_⟩
                rw [hq]
                exact H113.pick [0] (by decide) rfl
              · skip
                replace hnm : nameB ((l.take i).drop f) = true := by simpa using hnm
                refine wp_skip ?_
                refine c_then ?_
                refine wp_seq ?_
                refine r_lit ?_
                refine s_val wkP F111 rfl rfl rfl rfl (y_move F111 rfl rfl) ?_; intro a116 F116; clear F111
                refine s_val wkP F116 rfl rfl rfl rfl (y_move F116 rfl rfl) ?_; intro a117 F117; clear F116
                refine s_val wkP F117 rfl rfl rfl rfl (y_move F117 rfl rfl) ?_; intro a118 F118; clear F117
                refine s_val wkP F118 rfl rfl rfl rfl (y_move F118 rfl rfl) ?_; intro a119 F119; clear F118
                refine s_val wkP F119 rfl rfl rfl rfl (y_sliceT (l := l) (i := f) (j := i) F119 rfl Tryd.underlying9 rfl rfl rfl (by first | omega | (simp; omega)) (by first | omega | (simp; omega))) ?_; intro a120 F120; clear F119
                refine s_buildC wkP F120 rfl rfl rfl elemStr z1Str rfl rfl rfl rfl (by simp [Value.cells]) (by decide) H110 ?_; intro b121 w121 a121 H121 F121; clear F120
                refine s_append wkP F121 rfl rfl rfl rfl H121 1 rfl rfl elemStr rfl (.inr (.inr ⟨_, _, _, rfl, Nat.le_refl _, (H121.blk 0 rfl).row⟩)) (by rw [Nat.one_mul]; exact rfl) (txC_flat _) (by unfold maxLen; first | omega | (simp; omega)) (by first | omega | (simp; omega)) ?_; intro s122 w122 a122 h122 F122; clear F121
                have H122 : St w w122 [HP.blk b121 ([.string (txb ((((l).take (i)).drop (f))))]) 9, HP.own 9 1 s122 ((out ++ [(((l).take (i)).drop (f))]).length) (rows txC (out ++ [(((l).take (i)).drop (f))]))] := by rw [rows_snoc, List.length_append]; exact h122
                clear h122
                refine s_val wkP F122 rfl rfl rfl rfl (y_assign F122 rfl rfl) ?_; intro a123 F123; clear F122
                refine wpList_nil ?_
                refine c_then ?_
                refine r_lit ?_
                refine s_val wkP F123 rfl rfl rfl rfl (y_move F123 rfl rfl) ?_; intro a124 F124; clear F123
                refine s_val wkP F124 rfl rfl rfl rfl (y_add F124 rfl rfl rfl (r := ((i + 1 : Nat) : Int)) (wrap_i64 (by omega) (by omega) (by omega))) ?_; intro a125 F125; clear F124
                refine s_val wkP F125 rfl rfl rfl rfl (y_assign F125 rfl rfl) ?_; intro a126 F126; clear F125
                refine wpList_nil ?_
                refine c_blkN ?_
                refine c_then ?_
                refine r_lit ?_
                refine s_val wkP F126 rfl rfl rfl rfl (y_move F126 rfl rfl) ?_; intro a127 F127; clear F126
                refine s_val wkP F127 rfl rfl rfl rfl (y_add F127 rfl rfl rfl (r := ((i + 1 : Nat) : Int)) (wrap_i64 (by omega) (by omega) (by omega))) ?_; intro a128 F128; clear F127
                refine s_val wkP F128 rfl rfl rfl rfl (y_assign F128 rfl rfl) ?_; intro a129 F129; clear F128
                refine wpList_nil ?_
                refine c_then ?_
                exact ⟨(i + 1, i + 1, (out ++ [(((l).take (i)).drop (f))]), s122), ⟨F129.cut _ ⟨rfl, rfl, rfl, rfl, trivial⟩, H122.pick [1] (by decide) rfl, hrs.last (by omega) hnm⟩, by first | omega | (dsimp only; omega)⟩
          · skip
            refine wp_exit ?_
            refine c_thenX ?_
            refine c_thenX ?_
            refine c_hit ?_
            refine c_then ?_
            refine wp_seq ?_
            refine r_lit ?_
            refine s_val wkP F58 rfl rfl rfl rfl (y_move F58 rfl rfl) ?_; intro a130 F130; clear F58
            refine s_val wkP F130 rfl rfl rfl rfl (y_assign F130 rfl rfl) ?_; intro a131 F131; clear F130
            refine s_val wkP F131 rfl rfl rfl rfl (y_assign F131 rfl rfl) ?_; intro a132 F132; clear F131
            refine wpList_nil ?_
            refine c_then ?_
            refine wp_ret ?_
            refine x_ret2 F132 rfl rfl rfl ?_
            have hfin := hrs.fin (by have := hrs.ord; omega)
            have ho : okP l = true := by unfold okP; rw [hpre.1, hpre.2, hfin, hrs.all]; simp; omega
            have hq : pns l = out := by unfold pns; rw [ho, hpre.2, hfin]; simp [h1]
            refine ⟨_, rfl, _, by rw [ho], ?_⟩
            rw [hq]
            exact H54
theorem ent8 : ∀ args w, (callFunc 8 args).run Tryd.prog w = .ok (.enter 8 args) w := enters Tryd.func8 (by kernel_rfl) rfl
end Go.Proofs.YtodggokkklfopaaDoor
