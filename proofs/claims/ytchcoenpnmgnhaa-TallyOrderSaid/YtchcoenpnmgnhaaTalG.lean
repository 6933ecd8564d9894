/- tally.Commit. -/
import Derived.Test.YtchcoenpnmgnhaaTalR2
import Derived.Test.YtchcoenpnmgnhaaTalR
set_option linter.unusedSimpArgs false
set_option linter.unusedVariables false
namespace Go.Proofs.Ytchcoenpnmgnhaa
open Go.ChangeShapes Go.WideShapes Go.ChangeAt Go.RowKit Go.Tri
set_option maxRecDepth 100000 in
set_option maxHeartbeats 2000000 in
theorem values (b : Nat) (w : World) :
    Calls Try.prog 16 [.map (some b)].toArray w (fun e w' => ∃ v, e = .returned v ∧ ∃ Bm, v = .func (.func 27) #[] [.pointer (some ⟨Bm, 0, none⟩)].toArray ∧ St w w' [HP.blk Bm [.map (some b)] 36]) := by
  refine x_enter Try.func16 rfl rfl rfl ?_
  intro a0 F0
  replace F0 : Fr ⟨4, []⟩ a0 [(0, .map (some b))] := F0
  have H0 := St.nil w
  refine wp_seq ?_
  refine r_lit ?_
  refine s_box1 wkP F0 rfl rfl rfl rfl rfl rfl H0 ?_; intro Bm w1 a1 H1 F1; clear F0
  refine s_val wkP F1 rfl rfl rfl rfl (y_assign F1 rfl rfl) ?_; intro a2 F2; clear F1
  refine wpList_nil ?_
  refine c_then ?_
  refine wp_seq ?_
  refine r_lit ?_
  refine s_val wkP F2 rfl rfl rfl rfl (y_makeFunc F2 rfl rfl) ?_; intro a3 F3; clear F2
  refine s_val wkP F3 rfl rfl rfl rfl (y_assign F3 rfl rfl) ?_; intro a4 F4; clear F3
  refine wpList_nil ?_
  refine c_then ?_
  refine wp_ret ?_
  refine x_ret1 F4 rfl rfl ?_
  exact ⟨_, rfl, Bm, rfl, H1⟩
theorem ent16 : ∀ args w, (callFunc 16 args).run Try.prog w = .ok (.enter 16 args) w := enters Try.func16 (by kernel_rfl) rfl
theorem ent27 : ∀ args w, (callFunc 27 args).run Try.prog w = .ok (.enter 27 args) w := enters Try.func27 (by kernel_rfl) rfl
set_option maxRecDepth 100000 in
set_option maxHeartbeats 2000000 in
theorem collect {gf : FuncId} {lb : List Value} {own : List HP} {Adm : List Int → Int → Prop} {SS : List Int → Prop} (hS : SeqC Try.prog gf lb (inC .u64) own Adm SS) (hent : ∀ args w, (callFunc gf args).run Try.prog w = .ok (.enter gf args) w) (hbnd : ∀ xs x, Adm xs x → xs.length < 1000000) {w0 w : World} {ls : List HP} (H : St w0 w (own ++ ls)) :
    Calls Try.prog 25 [.func (.func gf) #[] lb.toArray].toArray w (fun e w' => ∃ r, e = .returned r ∧ ∃ xs, SS xs ∧ St w0 w' (HP.own 24 1 r xs.length (rows (inC .u64) xs) :: (own ++ ls))) := by
  refine x_enter Try.func25 rfl rfl rfl ?_
  intro a0 F0
  replace F0 : Fr ⟨5, []⟩ a0 [(0, .func (.func gf) #[] lb.toArray)] := F0
  have H0 : St w0 w ([] ++ (own ++ ls)) := H
  refine wp_seq ?_
  refine r_lit ?_
  refine s_val wkP F0 rfl rfl rfl rfl (y_assign F0 rfl rfl) ?_; intro a1 F1; clear F0
  refine wpList_nil ?_
  refine c_then ?_
  refine wp_seq ?_
  refine r_lit ?_
  refine s_val wkP F1 rfl rfl rfl rfl (y_move F1 rfl rfl) ?_; intro a2 F2; clear F1
  refine s_call wkP F2 rfl rfl rfl rfl (y_call F2 rfl rfl ent31) (appendSeq hS hent hbnd H0) ?_; intro v0 w3 a3 hR3 F3; clear F2
  obtain ⟨xs, hS1, H3⟩ := hR3
  replace H3 : St w0 w3 ([HP.own 24 1 v0 (xs.length) (rows (inC .u64) xs)] ++ (own ++ ls)) := H3
  refine s_val wkP F3 rfl rfl rfl rfl (y_assign F3 rfl rfl) ?_; intro a4 F4; clear F3
  refine wpList_nil ?_
  refine c_then ?_
  refine wp_ret ?_
  refine x_ret1 F4 rfl rfl ?_
  exact ⟨_, rfl, xs, hS1, H3⟩
theorem ent25 : ∀ args w, (callFunc 25 args).run Try.prog w = .ok (.enter 25 args) w := enters Try.func25 (by kernel_rfl) rfl
set_option maxRecDepth 100000 in
set_option maxHeartbeats 2000000 in
theorem sorted {gf : FuncId} {lb : List Value} {own : List HP} {Adm : List Int → Int → Prop} {SS : List Int → Prop} (hS : SeqC Try.prog gf lb (inC .u64) own Adm SS) (hent : ∀ args w, (callFunc gf args).run Try.prog w = .ok (.enter gf args) w) (hbnd : ∀ xs x, Adm xs x → xs.length < 1000000) (hbn : ∀ xs, SS xs → xs.length ≤ 1000000) {w0 w : World} {ls : List HP} (H : St w0 w (own ++ ls)) :
    Calls Try.prog 15 [.func (.func gf) #[] lb.toArray].toArray w (fun e w' => ∃ r, e = .returned r ∧ ∃ xs ys, SS xs ∧ ys.Perm xs ∧ Srt ltI 0 ys.length ys ∧ St w0 w' (HP.own 24 1 r ys.length (rows (inC .u64) ys) :: (own ++ ls))) := by
  refine x_enter Try.func15 rfl rfl rfl ?_
  intro a0 F0
  replace F0 : Fr ⟨9, []⟩ a0 [(0, .func (.func gf) #[] lb.toArray)] := F0
  have H0 : St w0 w ([] ++ (own ++ ls)) := H
  refine wp_seq ?_
  refine r_lit ?_
  refine s_val wkP F0 rfl rfl rfl rfl (y_assign F0 rfl rfl) ?_; intro a1 F1; clear F0
  refine wpList_nil ?_
  refine c_then ?_
  refine wp_seq ?_
  refine r_lit ?_
  refine s_val wkP F1 rfl rfl rfl rfl (y_move F1 rfl rfl) ?_; intro a2 F2; clear F1
  refine s_call wkP F2 rfl rfl rfl rfl (y_call F2 rfl rfl ent25) (collect hS hent hbnd H0) ?_; intro v0 w3 a3 hR3 F3; clear F2
  obtain ⟨xs, hS1, H3⟩ := hR3
  replace H3 : St w0 w3 ([HP.own 24 1 v0 (xs.length) (rows (inC .u64) xs)] ++ (own ++ ls)) := H3
  obtain ⟨p, cap, rfl, hcap, hp⟩ := H3.ownForm 0 rfl
  refine s_val wkP F3 rfl rfl rfl rfl (y_assign F3 rfl rfl) ?_; intro a4 F4; clear F3
  refine wpList_nil ?_
  refine c_then ?_
  refine wp_seq ?_
  refine r_lit ?_
  refine s_val wkP F4 rfl rfl rfl rfl (y_move F4 rfl rfl) ?_; intro a5 F5; clear F4
  refine s_call wkP F5 rfl rfl rfl rfl (y_call F5 rfl rfl ent26) (sortS_core (ls := own ++ ls) xs rfl (by have := hbn xs hS1; omega)  H3) ?_; intro v1 w6 a6 hR6 F6; clear F5
  obtain ⟨ys, rfl, ⟨hs, hr⟩, H6⟩ := hR6
  replace H6 : St w0 w6 ([HP.own 24 1 (.slice p xs.length cap) (xs.length) (rows (inC .u64) ys)] ++ (own ++ ls)) := H6
  refine wpList_nil ?_
  refine c_then ?_
  refine wp_seq ?_
  refine r_lit ?_
  refine s_val wkP F6 rfl rfl rfl rfl (y_move F6 rfl rfl) ?_; intro a7 F7; clear F6
  refine s_val wkP F7 rfl rfl rfl rfl (y_assign F7 rfl rfl) ?_; intro a8 F8; clear F7
  refine wpList_nil ?_
  refine c_then ?_
  refine wp_ret ?_
  refine x_ret1 F8 rfl rfl ?_
  refine ⟨_, rfl, xs, ys, hS1, hs.perm, by rw [hs.len]; exact hr, ?_⟩
  rw [hs.len]
  exact H6
theorem ent15 : ∀ args w, (callFunc 15 args).run Try.prog w = .ok (.enter 15 args) w := enters Try.func15 (by kernel_rfl) rfl
set_option maxRecDepth 100000 in
set_option maxHeartbeats 2000000 in
theorem majority (n : Int) (h1 : -9223372036854775808 ≤ n) (h2 : n ≤ 9223372036854775807) (w : World) :
    Calls Try.prog 17 [.int .i64 n].toArray w (fun e w' => e = .returned (.int .i64 ((majN n : Nat) : Int)) ∧ St w w' []) := by
  refine x_enter Try.func17 rfl rfl rfl ?_
  intro a0 F0
  replace F0 : Fr ⟨7, []⟩ a0 [(0, .int .i64 n)] := F0
  have H0 := St.nil w
  refine wp_seq ?_
  refine r_lit ?_
  refine s_val wkP F0 rfl rfl rfl rfl (y_assign F0 rfl rfl) ?_; intro a1 F1; clear F0
  refine wpList_nil ?_
  refine c_then ?_
  refine wp_seq ?_
  refine r_lit ?_
  refine s_val wkP F1 rfl rfl rfl rfl (y_move F1 rfl rfl) ?_; intro a2 F2; clear F1
  refine s_val wkP F2 rfl rfl rfl rfl (y_max F2 rfl rfl rfl (r := max (n) (0)) (rfl)) ?_; intro a3 F3; clear F2
  refine s_val wkP F3 rfl rfl rfl rfl (y_quo F3 rfl rfl rfl (by omega) (r := (max (n) (0)) / (2)) (wrap_i64 (by rw [Int.tdiv_eq_ediv_of_nonneg (by omega)]; try omega) (by omega) (by omega))) ?_; intro a4 F4; clear F3
  refine s_val wkP F4 rfl rfl rfl rfl (y_add F4 rfl rfl rfl (r := ((max (n) (0)) / (2)) + (1)) (wrap_i64 (by omega) (by omega) (by omega))) ?_; intro a5 F5; clear F4
  refine s_val wkP F5 rfl rfl rfl rfl (y_assign F5 rfl rfl) ?_; intro a6 F6; clear F5
  refine wpList_nil ?_
  refine c_then ?_
  refine wp_ret ?_
  refine x_ret1 F6 rfl rfl ?_
  exact ⟨ret_int (by unfold majN; omega), H0⟩
theorem ent17 : ∀ args w, (callFunc 17 args).run Try.prog w = .ok (.enter 17 args) w := enters Try.func17 (by kernel_rfl) rfl
set_option maxRecDepth 100000 in
set_option maxHeartbeats 2000000 in
theorem commit_core (xs : List Mrk) (hw : ∀ x ∈ xs, x.wf) (hxl : xs.length ≤ 1000)  (n : Int) (hn1 : -9223372036854775808 ≤ n) (hn2 : n ≤ 9223372036854775807) (p : Option Addr) (cp : Nat) (w : World) (hp : 0 < xs.length → ∃ b off, p = some ⟨b, off, none⟩ ∧ Row w b off (rows Mrk.cells xs)) :
    Calls Try.prog 9 [.slice p xs.length cp, .int .i64 n].toArray w (fun e w' => ∃ v, e = .returned v ∧ ∃ c, v = .int .u64 c ∧ Com ((cmap xs).map (·.2)) (majN n) c ∧ St w w' []) := by
  refine x_enter Try.func9 rfl rfl rfl ?_
  intro a0 F0
  replace F0 : Fr ⟨44, []⟩ a0 [(0, .slice p xs.length cp), (1, .int .i64 n)] := F0
  have H0 := St.nil w
  refine wp_seq ?_
  refine r_lit ?_
  refine s_val wkP F0 rfl rfl rfl rfl (y_assign F0 rfl rfl) ?_; intro a1 F1; clear F0
  refine wpList_nil ?_
  refine c_then ?_
  refine wp_seq ?_
  refine r_lit ?_
  refine s_makeMap wkP F1 rfl rfl rfl rfl H0 ?_; intro b2 w2 a2 H2 F2; clear F1
  replace H2 : St w w2 [HP.mp b2 (mkv (Value.int .i64) (vmap (cmap (xs.take (0)))))] := H2
  refine s_val wkP F2 rfl rfl rfl rfl (y_assign F2 rfl rfl) ?_; intro a3 F3; clear F2
  refine wpList_nil ?_
  refine c_then ?_
  refine wp_seq ?_
  refine wp_seq ?_
  refine r_lit ?_
  refine s_val wkP F3 rfl rfl rfl rfl (y_move F3 rfl rfl) ?_; intro a4 F4; clear F3
  refine s_val wkP F4 rfl rfl rfl rfl (y_lenS F4 rfl Try.underlying22 rfl) ?_; intro a5 F5; clear F4
  refine s_val wkP F5 rfl rfl rfl rfl (y_move F5 rfl rfl) ?_; intro a6 F6; clear F5
  refine wpList_nil ?_
  refine c_then ?_
  refine wp_block ?_
  refine x_loop (G := Nat) (fun k aa ww => Fr ⟨44, []⟩ aa [(1, .int .i64 (n)), (4, .int .u64 (0)), (5, .map (some b2)), (11, .slice p xs.length cp), (12, .int .i64 (((xs.length : Nat) : Int))), (13, .int .i64 (((k : Nat) : Int)))] ∧ St w ww [HP.mp b2 (mkv (Value.int .i64) (vmap (cmap (xs.take (k)))))] ∧ (k ≤ xs.length)) (fun k => xs.length - k) 0 ⟨F6.cut _ ⟨rfl, rfl, rfl, rfl, rfl, rfl, trivial⟩, H2, Nat.zero_le _⟩ ?_
  clear F6
  rintro k a7 w7 ⟨F7, H7, hk⟩
  refine wp_seq ?_
  refine r_lit ?_
  refine s_val wkP F7 rfl rfl rfl rfl (y_lss F7 rfl rfl rfl) ?_; intro a8 F8; clear F7
  refine wpList_nil ?_
  refine c_then ?_
  refine wp_seq ?_
  refine x_condP F8 rfl (fun hc9 => ?_) (fun hc9 => ?_)
  · skip
    refine wp_skip ?_
    refine c_then ?_
    refine wp_seq ?_
    refine wp_block ?_
    refine wp_seq ?_
    refine r_lit ?_
    obtain ⟨bb10, of10, hpe10, hrow10⟩ := hp (by omega)
    obtain ⟨x, mx⟩ : ∃ x, (xs)[k]? = some x := ⟨_, List.getElem?_eq_getElem (by first | omega | (simp only [List.length_set]; omega))⟩
    have hx := hw x (List.mem_of_getElem? mx)
    refine s_val wkP F8 rfl rfl rfl rfl (y_indexP F8 elemMark rfl rfl rfl hpe10 (by omega)) ?_; intro a12 F12; clear F8
    refine s_val wkP F12 rfl rfl rfl rfl (y_loadA F12 aggMark rfl rfl (Row.elem Mrk.len (hrow10.st H7) hw mx) (Mrk.len_cells hx)) ?_; intro a13 F13; clear F12
    refine s_allocA wkP F13 rfl rfl rfl aggMark rfl H7 ?_; intro b14 w14 a14 H14 F14; clear F13
    refine s_storeA wkP F14 rfl rfl aggMark rfl rfl rfl H14 0 rfl (Mrk.len_cells hx) (rfl) (Mrk.flat x) ?_; intro w15 h15
    have H15 : St w w15 [HP.blk b14 (x.cells) 28, HP.mp b2 (mkv (Value.int .i64) (vmap (cmap (xs.take (k)))))] := h15
    clear h15
    refine wpList_nil ?_
    refine c_then ?_
    refine r_lit ?_
    refine s_val wkP F14 rfl rfl rfl rfl (y_move F14 rfl rfl) ?_; intro a16 F16; clear F14
    refine s_val wkP F16 rfl rfl rfl rfl (y_fieldAddr F16 mfld0 rfl rfl) ?_; intro a17 F17; clear F16
    refine s_val wkP F17 rfl rfl rfl rfl (y_load1 F17 plInt rfl rfl (((H15.blk 0 rfl).cell _).trans rfl)) ?_; intro a18 F18; clear F17
    refine s_val wkP F18 rfl rfl rfl rfl (y_move F18 rfl rfl) ?_; intro a19 F19; clear F18
    refine s_val wkP F19 rfl rfl rfl rfl (y_fieldAddr F19 mfld0 rfl rfl) ?_; intro a20 F20; clear F19
    refine s_val wkP F20 rfl rfl rfl rfl (y_load1 F20 plInt rfl rfl (((H15.blk 0 rfl).cell _).trans rfl)) ?_; intro a21 F21; clear F20
    refine s_val wkP F21 rfl rfl rfl rfl (y_lookup F21 Try.underlying36 keyMap z1U64.run rfl rfl rfl (H15.mp 1 rfl) (fun _ _ => trivial) trivial (aget_getD_vmap _ _)) ?_; intro a22 F22; clear F21
    refine s_val wkP F22 rfl rfl rfl rfl (y_fieldAddr F22 mfld1 rfl rfl) ?_; intro a23 F23; clear F22
    refine s_val wkP F23 rfl rfl rfl rfl (y_load1 F23 plU64 rfl rfl (((H15.blk 0 rfl).cell _).trans rfl)) ?_; intro a24 F24; clear F23
    refine s_val wkP F24 rfl rfl rfl rfl (y_max F24 rfl rfl rfl (r := max (((aget x.node (cmap (xs.take k))).getD 0)) (x.gen)) (rfl)) ?_; intro a25 F25; clear F24
    refine s_mapUpdate wkP F25 rfl rfl Try.underlying36 keyMap rfl H15 1 rfl rfl rfl rfl (fun _ _ => trivial) trivial ?_; intro w26 h26
    rw [aset_vmap, ← cmap_succ mx] at h26
    have H26 : St w w26 [HP.blk b14 (x.cells) 28, HP.mp b2 (mkv (Value.int .i64) (vmap (cmap (xs.take (k + 1)))))] := h26
    refine wpList_nil ?_
    refine c_blkN ?_
    refine c_then ?_
    refine r_lit ?_
    refine s_val wkP F25 rfl rfl rfl rfl (y_add F25 rfl rfl rfl (r := (((k : Nat) : Int)) + (1)) (wrap_i64 (by omega) (by omega) (by omega))) ?_; intro a27 F27; clear F25
    refine s_val wkP F27 rfl rfl rfl rfl (y_move F27 rfl rfl) ?_; intro a28 F28; clear F27
    refine wpList_nil ?_
    refine c_then ?_
    exact ⟨k + 1, ⟨F28.cut _ ⟨rfl, rfl, rfl, rfl, rfl, rfl, trivial⟩, H26.pick [1] (by decide) rfl, by omega⟩, by first | omega | (dsimp only; omega)⟩
  · skip
    refine wp_exit ?_
    refine c_thenX ?_
    refine c_thenX ?_
    refine c_hit ?_
    refine c_then ?_
    refine wp_seq ?_
    obtain rfl : k = xs.length := by omega
    rw [List.take_length] at H7
    refine r_lit ?_
    refine s_val wkP F8 rfl rfl rfl rfl (y_move F8 rfl rfl) ?_; intro a29 F29; clear F8
    refine s_call wkP F29 rfl rfl rfl rfl (y_call F29 rfl rfl ent16) (values b2 _) ?_; intro v0 w30 a30 hR30 F30; clear F29
    obtain ⟨Bm, rfl, hE⟩ := hR30
    have H30 : St w w30 [HP.blk Bm [.map (some b2)] 36, HP.mp b2 (mkv (Value.int .i64) (vmap (cmap xs)))] := H7.call hE
    refine s_call wkP F30 rfl rfl rfl rfl (y_call F30 rfl rfl ent15) (sorted (ls := []) (valuesSeq Bm b2 (cmap xs)) ent27 (fun ys y h => by have h1 := adm_len h; have h2 := cmap_len xs; omega) (fun ys h => by have h1 := h.length_eq; rw [List.length_map] at h1; have h2 := cmap_len xs; omega) H30) ?_; intro v1 w31 a31 hR31 F31; clear F30
    obtain ⟨zs, ys, hzs, hpm, hsr, H31⟩ := hR31
    replace H31 : St w w31 [HP.own 24 1 v1 (ys.length) (rows (inC .u64) ys), HP.blk Bm [.map (some b2)] 36, HP.mp b2 (mkv (Value.int .i64) (vmap (cmap xs)))] := H31
    refine s_val wkP F31 rfl rfl rfl rfl (y_assign F31 rfl rfl) ?_; intro a32 F32; clear F31
    refine wpList_nil ?_
    refine c_then ?_
    refine wp_seq ?_
    refine r_lit ?_
    refine s_val wkP F32 rfl rfl rfl rfl (y_move F32 rfl rfl) ?_; intro a33 F33; clear F32
    refine s_callV wkP F33 rfl rfl rfl rfl (y_call F33 rfl rfl ent17) (majority n hn1 hn2 _) ?_; intro w34 a34 hR34 F34; clear F33
    have H34 : St w w34 [HP.own 24 1 v1 (ys.length) (rows (inC .u64) ys), HP.blk Bm [.map (some b2)] 36, HP.mp b2 (mkv (Value.int .i64) (vmap (cmap xs)))] := H31.call hR34
    refine s_val wkP F34 rfl rfl rfl rfl (y_assign F34 rfl rfl) ?_; intro a35 F35; clear F34
    refine wpList_nil ?_
    refine c_then ?_
    refine wp_seq ?_
    refine wp_seq ?_
    refine r_lit ?_
    refine s_val wkP F35 rfl rfl rfl rfl (y_move F35 rfl rfl) ?_; intro a36 F36; clear F35
    obtain ⟨p37, cap37, rfl, hcap37, hp37⟩ := H34.ownForm 0 rfl
    refine s_val wkP F36 rfl rfl rfl rfl (y_lenS F36 rfl Try.underlying33 rfl) ?_; intro a38 F38; clear F36
    refine s_val wkP F38 rfl rfl rfl rfl (y_move F38 rfl rfl) ?_; intro a39 F39; clear F38
    refine s_val wkP F39 rfl rfl rfl rfl (y_lss F39 rfl rfl rfl) ?_; intro a40 F40; clear F39
    refine wpList_nil ?_
    refine c_then ?_
    refine x_condP F40 rfl (fun hfew => ?_) (fun hfew => ?_)
    · skip
      refine wp_seq ?_
      refine r_lit ?_
      refine s_val wkP F40 rfl rfl rfl rfl (y_assign F40 rfl rfl) ?_; intro a42 F42; clear F40
      refine wpList_nil ?_
      refine c_then ?_
      refine wp_ret ?_
      refine c_thenR ?_
      refine x_ret1 F42 rfl rfl ?_
      exact ⟨_, rfl, _, rfl, com_few (by rw [← (hpm.trans hzs).length_eq]; omega), H34.pick [] (by decide) rfl⟩
    · skip
      refine wp_skip ?_
      refine c_then ?_
      refine wp_seq ?_
      have hm1 : 1 ≤ majN n := by unfold majN; omega
      have hyl : ys.length ≤ 1000 := by have h1 := (hpm.trans hzs).length_eq; rw [List.length_map] at h1; have h2 := cmap_len xs; omega
      refine r_lit ?_
      refine s_val wkP F40 rfl rfl rfl rfl (y_move F40 rfl rfl) ?_; intro a43 F43; clear F40
      refine s_val wkP F43 rfl rfl rfl rfl (y_move F43 rfl rfl) ?_; intro a44 F44; clear F43
      refine s_val wkP F44 rfl rfl rfl rfl (y_lenS F44 rfl Try.underlying33 rfl) ?_; intro a45 F45; clear F44
      refine s_val wkP F45 rfl rfl rfl rfl (y_move F45 rfl rfl) ?_; intro a46 F46; clear F45
      refine s_val wkP F46 rfl rfl rfl rfl (y_sub F46 rfl rfl rfl (r := ((ys.length - majN n : Nat) : Int)) (wrap_i64 (by omega) (by omega) (by omega))) ?_; intro a47 F47; clear F46
      obtain ⟨bb48, hpe48⟩ := hp37 (by omega)
      obtain ⟨y, my⟩ : ∃ x, (ys)[ys.length - majN n]? = some x := ⟨_, List.getElem?_eq_getElem (by first | omega | (simp only [List.length_set]; omega))⟩
      refine s_val wkP F47 rfl rfl rfl rfl (y_indexP F47 elemU64 rfl rfl rfl hpe48 (by omega)) ?_; intro a50 F50; clear F47
      refine s_val wkP F50 rfl rfl rfl rfl (y_load1 F50 plU64 rfl rfl (Row.elem (inC_len .u64) (H34.ownRowP 0 rfl hpe48) (fun _ _ => trivial) my 0 _ rfl)) ?_; intro a51 F51; clear F50
      refine s_val wkP F51 rfl rfl rfl rfl (y_assign F51 rfl rfl) ?_; intro a52 F52; clear F51
      refine wpList_nil ?_
      refine c_then ?_
      refine wp_ret ?_
      refine x_ret1 F52 rfl rfl ?_
      exact ⟨_, rfl, _, rfl, (com_sorted hsr hm1 (by omega) my).perm (hpm.trans hzs), H34.pick [] (by decide) rfl⟩
theorem commit (xs : List Mrk) (hw : ∀ x ∈ xs, x.wf) (hxl : xs.length ≤ 1000)  (n : Int) (hn1 : -9223372036854775808 ≤ n) (hn2 : n ≤ 9223372036854775807) (s : Value) (w : World) (hs : Sl w s xs.length (rows Mrk.cells xs)) :
    Calls Try.prog 9 [s, .int .i64 n].toArray w (fun e w' => ∃ v, e = .returned v ∧ ∃ c, v = .int .u64 c ∧ Com ((cmap xs).map (·.2)) (majN n) c ∧ St w w' []) := by
  obtain ⟨p, cp, rfl, hp⟩ := hs.form
  exact commit_core xs hw hxl  n hn1 hn2 p cp w hp
theorem ent9 : ∀ args w, (callFunc 9 args).run Try.prog w = .ok (.enter 9 args) w := enters Try.func9 (by kernel_rfl) rfl
end Go.Proofs.Ytchcoenpnmgnhaa
