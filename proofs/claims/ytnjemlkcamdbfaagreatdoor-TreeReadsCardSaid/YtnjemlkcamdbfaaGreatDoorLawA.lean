/- the statement -/
import Derived.Test.YtnjemlkcamdbfaaGreatDoorTreeA
import Derived.Test.YtnjemlkcamdbfaaGreatDoorSpoil
set_option linter.unusedSimpArgs false
set_option linter.unusedVariables false
namespace Go.Proofs.YtnjemlkcamdbfaaGreatDoor
open Go.RowKit Go.Tri
set_option maxRecDepth 100000
set_option maxHeartbeats 4000000
theorem w_spoil16 {p : Option Addr} {c : Nat} {xs : List (List UInt8 × List UInt8)} {w0 w : World} {l : List HP} (H : St w0 w (HP.box p c xs :: l)) :
  Calls Tryz.prog 16 [.slice p xs.length c].toArray w (fun e w' => ∃ v, e = .returned v ∧ v = .tuple [].toArray ∧ St w0 w' l) := by
 obtain ⟨B, hsB, hnsl, hsp⟩ := H.boxSp
 refine x_enter Tryz.func16 rfl rfl rfl ?_
 intro a F
 replace F : Fr ⟨49, []⟩ a [(0, .slice p xs.length c)] := F
 refine wp_seq ?_
 refine r_lit ?_
 refine sv F rfl (y_assign F rfl rfl) fun a F => ?_
 refine wpList_nil ?_
 refine c_then ?_
 refine wp_block ?_
 by_cases h0 : 0 < xs.length
 case neg =>
  have H := hsp 0
  refine x_loop (fun (i : Nat) aa ww => Fr ⟨49, []⟩ aa [(0, .slice p xs.length c), (2, .int .i64 0)] ∧ St w0 ww (HP.sp B 0 0 :: l)) (fun i => 0) 0 ⟨F.cut _ ⟨rfl, rfl, trivial⟩, H⟩ ?_
  clear F H
  rintro i a w ⟨F, H⟩
  refine wp_seq ?_
  refine wp_seq ?_
  refine r_lit ?_
  refine sv F rfl (y_move F rfl rfl) fun a F => ?_
  refine sv F rfl (y_move F rfl rfl) fun a F => ?_
  refine sv F rfl (y_lenS F rfl Tryz.underlying32 rfl) fun a F => ?_
  refine sv F rfl (y_lss F rfl rfl rfl) fun a F => ?_
  refine wpList_nil ?_
  refine c_then ?_
  refine x_condP F rfl (fun hc => absurd hc (by omega)) (fun hc => ?_)
  refine wp_exit ?_
  refine c_thenX ?_
  refine c_thenX ?_
  refine c_hit ?_
  refine x_end0 F rfl ?_
  exact ⟨_, rfl, rfl, H.tail⟩
 obtain ⟨lb, lcur, le, hp, hlB, hlm, hls, hlel⟩ := pairsOk hsB hnsl h0
 replace H := hsp lb
 refine x_loop (fun (i : Nat) aa ww => i ≤ xs.length ∧ Fr ⟨49, []⟩ aa [(0, .slice p xs.length c), (2, .int .i64 ((i : Nat) : Int))] ∧ St w0 ww (HP.sp B lb (i * 2) :: l)) (fun i => xs.length - i) 0 ⟨Nat.zero_le _, F.cut _ ⟨rfl, rfl, trivial⟩, by simpa using H⟩ ?_
 clear F H
 rintro i a w ⟨hi, F, H⟩
 refine wp_seq ?_
 refine wp_seq ?_
 refine r_lit ?_
 refine sv F rfl (y_move F rfl rfl) fun a F => ?_
 refine sv F rfl (y_move F rfl rfl) fun a F => ?_
 refine sv F rfl (y_lenS F rfl Tryz.underlying32 rfl) fun a F => ?_
 refine sv F rfl (y_lss F rfl rfl rfl) fun a F => ?_
 refine wpList_nil ?_
 refine c_then ?_
 refine x_condP F rfl (fun hc => ?_) (fun hc => ?_)
 case refine_2 =>
  refine wp_exit ?_
  refine c_thenX ?_
  refine c_thenX ?_
  refine c_hit ?_
  refine x_end0 F rfl ?_
  exact ⟨_, rfl, rfl, H.tail⟩
 refine wp_skip ?_
 refine c_then ?_
 have hil : i < xs.length := by omega
 obtain ⟨x, hx⟩ : ∃ x, xs[i]? = some x := ⟨_, List.getElem?_eq_getElem hil⟩
 have hidx : idxO xs ((i : Nat) : Int) = some x := by unfold idxO; rw [if_pos (by omega)]; simpa using hx
 obtain ⟨kp, kc, vp, vc, hk1, hv1, hkok, hvok⟩ := hlel i x hx
 replace F := F.cut [(0, .slice p xs.length c), (2, .int .i64 ((i : Nat) : Int))] ⟨rfl, rfl, trivial⟩
 refine wp_seq ?_
 refine wp_block ?_
 refine wp_seq ?_
 refine wp_seq ?_
 refine r_lit ?_
 refine sv F rfl (y_assign F rfl rfl) fun a F => ?_
 refine wpList_nil ?_
 refine c_then ?_
 refine wp_block ?_
 refine x_loop (fun (k : Nat) aa ww => k ≤ x.1.length ∧ Fr ⟨49, []⟩ aa [(0, .slice p xs.length c), (2, .int .i64 ((i : Nat) : Int)), (3, .int .i64 ((k : Nat) : Int))] ∧ St w0 ww (HP.sp B lb (i * 2) :: l)) (fun k => x.1.length - k) 0 ⟨Nat.zero_le _, F.cut _ ⟨rfl, rfl, rfl, trivial⟩, H⟩ ?_
 clear F H
 rintro k a w ⟨hk, F, H⟩
 obtain ⟨old, o1, o2, o3, oput⟩ := H.spPut hlB
 have hcell : w.cell? ⟨lb, 0 + (((i : Nat) : Int)).toNat * 2 + 0, none⟩ = some (.slice kp x.1.length kc) := by
   rw [o1.cell]
   rcases o3 _ _ _ _ hk1 with h | ⟨_, h⟩
   · rw [← h]; congr 1; simp
   · omega
 refine wp_seq ?_
 refine wp_seq ?_
 refine r_lit ?_
 refine sv F rfl (y_move F rfl rfl) fun a F => ?_
 refine sv F rfl (y_move F rfl rfl) fun a F => ?_
 refine sv F rfl (y_move F rfl rfl) fun a F => ?_
 refine sv F rfl (y_idxS F elem32 rfl rfl rfl hp hidx) fun a F => ?_
 refine sv F rfl (y_fieldAddr F fld48_0 rfl rfl) fun a F => ?_
 refine sv F rfl (y_load1 F plain26 rfl rfl hcell) fun a F => ?_
 refine sv F rfl (y_lenS F rfl Tryz.underlying26 rfl) fun a F => ?_
 refine sv F rfl (y_lss F rfl rfl rfl) fun a F => ?_
 refine wpList_nil ?_
 refine c_then ?_
 refine x_condP F rfl (fun hc => ?_) (fun hc => ?_)
 · refine wp_skip ?_
   refine c_then ?_
   have hkl : k < x.1.length := by omega
   obtain ⟨kb, kcur, ke, hq, hkB, hkm, hks, hki⟩ := hkok (by omega)
   obtain ⟨old2, q1, q2, q3, qput⟩ := H.spPut hkB
   have hix : idxO x.1 ((k : Nat) : Int) = some (x.1.getD k 0) := by unfold idxO; rw [if_pos (by omega)]; simp [List.getD_eq_getElem?_getD, List.getElem?_eq_getElem hkl]
   refine wp_seq ?_
   refine wp_block ?_
   refine r_lit ?_
   refine sv F rfl (y_move F rfl rfl) fun a F => ?_
   refine sv F rfl (y_move F rfl rfl) fun a F => ?_
   refine sv F rfl (y_idxS F elem32 rfl rfl rfl hp hidx) fun a F => ?_
   refine sv F rfl (y_fieldAddr F fld48_0 rfl rfl) fun a F => ?_
   refine sv F rfl (y_load1 F plain26 rfl rfl hcell) fun a F => ?_
   refine sv F rfl (y_move F rfl rfl) fun a F => ?_
   refine sv F rfl (y_idxS F elem26 rfl rfl rfl hq hix) fun a F => ?_
   have H2 := qput (old2.set (0 + (((k : Nat) : Int)).toNat * 1) (.int .u8 238)) (i * 2) (by simp) (Nat.le_refl _) (fun o ad n c ho => .inl (by
     refine List.getElem?_set_ne fun e => ?_
     have e2 : o = k := by rw [← e]; simp
     rw [e2] at ho
     exact hki k hkl ad n c ho))
   refine s_none wkP F rfl rfl rfl (y_store1 F zero5 rfl rfl rfl rfl rfl q1 (by rw [q2]; simp; omega)) ?_
   refine wpList_nil ?_
   refine c_blkN ?_
   refine c_then ?_
   refine r_lit ?_
   refine sv F rfl (y_move F rfl rfl) fun a F => ?_
   refine sv F rfl (y_add F rfl rfl rfl (wrap_i64 (r := ((k + 1 : Nat) : Int)) (by omega) (by omega) (by unfold maxLen at hkm; omega))) fun a F => ?_
   refine sv F rfl (y_assign F rfl rfl) fun a F => ?_
   refine wpList_nil ?_
   exact c_then ⟨k + 1, ⟨hkl, F.cut _ ⟨rfl, rfl, rfl, trivial⟩, H2⟩, by show x.1.length - (k + 1) < x.1.length - k; omega⟩
 refine wp_exit ?_
 refine c_thenX ?_
 refine c_thenX ?_
 refine c_hit ?_
 replace F := F.cut [(0, .slice p xs.length c), (2, .int .i64 ((i : Nat) : Int))] ⟨rfl, rfl, trivial⟩
 refine c_then ?_
 refine wp_seq ?_
 refine wp_seq ?_
 refine r_lit ?_
 refine sv F rfl (y_assign F rfl rfl) fun a F => ?_
 refine wpList_nil ?_
 refine c_then ?_
 refine wp_block ?_
 refine x_loop (fun (k : Nat) aa ww => k ≤ x.2.length ∧ Fr ⟨49, []⟩ aa [(0, .slice p xs.length c), (2, .int .i64 ((i : Nat) : Int)), (4, .int .i64 ((k : Nat) : Int))] ∧ St w0 ww (HP.sp B lb (i * 2) :: l)) (fun k => x.2.length - k) 0 ⟨Nat.zero_le _, F.cut _ ⟨rfl, rfl, rfl, trivial⟩, H⟩ ?_
 clear F H
 rintro k a w ⟨hk, F, H⟩
 obtain ⟨old, o1, o2, o3, oput⟩ := H.spPut hlB
 have hcell : w.cell? ⟨lb, 0 + (((i : Nat) : Int)).toNat * 2 + 1, none⟩ = some (.slice vp x.2.length vc) := by
   rw [o1.cell]
   rcases o3 _ _ _ _ hv1 with h | ⟨_, h⟩
   · rw [← h]; congr 1; simp
   · omega
 refine wp_seq ?_
 refine wp_seq ?_
 refine r_lit ?_
 refine sv F rfl (y_move F rfl rfl) fun a F => ?_
 refine sv F rfl (y_move F rfl rfl) fun a F => ?_
 refine sv F rfl (y_move F rfl rfl) fun a F => ?_
 refine sv F rfl (y_idxS F elem32 rfl rfl rfl hp hidx) fun a F => ?_
 refine sv F rfl (y_fieldAddr F fld48_1 rfl rfl) fun a F => ?_
 refine sv F rfl (y_load1 F plain26 rfl rfl hcell) fun a F => ?_
 refine sv F rfl (y_lenS F rfl Tryz.underlying26 rfl) fun a F => ?_
 refine sv F rfl (y_lss F rfl rfl rfl) fun a F => ?_
 refine wpList_nil ?_
 refine c_then ?_
 refine x_condP F rfl (fun hc => ?_) (fun hc => ?_)
 · refine wp_skip ?_
   refine c_then ?_
   have hkl : k < x.2.length := by omega
   obtain ⟨kb, kcur, ke, hq, hkB, hkm, hks, hki⟩ := hvok (by omega)
   obtain ⟨old2, q1, q2, q3, qput⟩ := H.spPut hkB
   have hix : idxO x.2 ((k : Nat) : Int) = some (x.2.getD k 0) := by unfold idxO; rw [if_pos (by omega)]; simp [List.getD_eq_getElem?_getD, List.getElem?_eq_getElem hkl]
   refine wp_seq ?_
   refine wp_block ?_
   refine r_lit ?_
   refine sv F rfl (y_move F rfl rfl) fun a F => ?_
   refine sv F rfl (y_move F rfl rfl) fun a F => ?_
   refine sv F rfl (y_idxS F elem32 rfl rfl rfl hp hidx) fun a F => ?_
   refine sv F rfl (y_fieldAddr F fld48_1 rfl rfl) fun a F => ?_
   refine sv F rfl (y_load1 F plain26 rfl rfl hcell) fun a F => ?_
   refine sv F rfl (y_move F rfl rfl) fun a F => ?_
   refine sv F rfl (y_idxS F elem26 rfl rfl rfl hq hix) fun a F => ?_
   have H2 := qput (old2.set (0 + (((k : Nat) : Int)).toNat * 1) (.int .u8 238)) (i * 2) (by simp) (Nat.le_refl _) (fun o ad n c ho => .inl (by
     refine List.getElem?_set_ne fun e => ?_
     have e2 : o = k := by rw [← e]; simp
     rw [e2] at ho
     exact hki k hkl ad n c ho))
   refine s_none wkP F rfl rfl rfl (y_store1 F zero5 rfl rfl rfl rfl rfl q1 (by rw [q2]; simp; omega)) ?_
   refine wpList_nil ?_
   refine c_blkN ?_
   refine c_then ?_
   refine r_lit ?_
   refine sv F rfl (y_move F rfl rfl) fun a F => ?_
   refine sv F rfl (y_add F rfl rfl rfl (wrap_i64 (r := ((k + 1 : Nat) : Int)) (by omega) (by omega) (by unfold maxLen at hkm; omega))) fun a F => ?_
   refine sv F rfl (y_assign F rfl rfl) fun a F => ?_
   refine wpList_nil ?_
   exact c_then ⟨k + 1, ⟨hkl, F.cut _ ⟨rfl, rfl, rfl, trivial⟩, H2⟩, by show x.2.length - (k + 1) < x.2.length - k; omega⟩
 refine wp_exit ?_
 refine c_thenX ?_
 refine c_thenX ?_
 refine c_hit ?_
 replace F := F.cut [(0, .slice p xs.length c), (2, .int .i64 ((i : Nat) : Int))] ⟨rfl, rfl, trivial⟩
 refine c_then ?_
 obtain ⟨old, o1, o2, o3, oput⟩ := H.spPut hlB
 refine r_lit ?_
 refine sv F rfl (y_move F rfl rfl) fun a F => ?_
 refine sv F rfl (y_move F rfl rfl) fun a F => ?_
 refine sv F rfl (y_build (cs := [.slice none 0 0, .slice none 0 0]) F rfl rfl (by kernel_rfl)) fun a F => ?_
 refine sv F rfl (y_idxS F elem32 rfl rfl rfl hp hidx) fun a F => ?_
 have H2 := oput (old.take (0 + (((i : Nat) : Int)).toNat * 2) ++ [.slice none 0 0, .slice none 0 0] ++ old.drop (0 + (((i : Nat) : Int)).toNat * 2 + 2)) ((i + 1) * 2) (by simp; omega) (by omega) (fun o ad n c ho => by
   by_cases h1 : o < (i + 1) * 2
   · exact .inr ⟨rfl, h1⟩
   · left
     have e0 : 0 + (((i : Nat) : Int)).toNat * 2 = i * 2 := by simp
     rw [e0, List.append_assoc, List.getElem?_append_right (by simp; omega), List.length_take, Nat.min_eq_left (by omega), List.getElem?_append_right (by simp; omega), List.getElem?_drop]
     congr 1
     simp; omega)
 refine s_none wkP F rfl rfl rfl (y_storeA F agg48 rfl rfl rfl o1 rfl (by rw [o2]; simp; omega) (by intro v hv; simp at hv; subst hv; rfl)) ?_
 refine wpList_nil ?_
 refine c_blkN ?_
 refine c_then ?_
 refine r_lit ?_
 refine sv F rfl (y_move F rfl rfl) fun a F => ?_
 refine sv F rfl (y_add F rfl rfl rfl (wrap_i64 (r := ((i + 1 : Nat) : Int)) (by omega) (by omega) (by unfold maxLen at hlm; omega))) fun a F => ?_
 refine sv F rfl (y_assign F rfl rfl) fun a F => ?_
 refine wpList_nil ?_
 exact c_then ⟨i + 1, ⟨hil, F.cut _ ⟨rfl, rfl, trivial⟩, H2⟩, by show xs.length - (i + 1) < xs.length - i; omega⟩
theorem w_lSpeaks   {w0 w : World} {l : List HP}  {r : Bool} (hm : lSpeaks  = some r) (H : St w0 w (HP.row 1 (0) (icells .u32 shaStart) :: HP.row 2 (0) (icells .u32 shaRounds) :: l)) :
  Calls Tryz.prog 4 [].toArray w (fun e w' => ∃ v, e = .returned v ∧ v = .bool (r) ∧ St w0 w' (l)) := by
 unfold lSpeaks at hm
 refine x_enter Tryz.func4 rfl rfl rfl ?_
 intro a F
 refine sb [0] F H rfl fun a F => ?_
 refine nl (sr ?_)
 replace H := H.owNil R_api_Pair 48
 replace H := H.frz 0 rfl
 obtain ⟨x1, ex1, hm⟩ := ob hm
 refine sd F rfl ent19 (w_trBuild ex1 (H.pm 3 [1,2,0,0,1,2] rfl:):) ?_; rintro _ w a ⟨q3, rfl, hl2, H⟩ F
 replace H := H.mmN 0 rfl
 refine bb [0,0,0,0] F H rfl fun a F => ?_
 refine s_allocA wkP F rfl rfl rfl agz25 rfl H fun b4 w a H F => ?_
 refine s_storeA wkP F rfl rfl agg25 rfl rfl rfl H 0 rfl ((bcells_length _).trans hl2) ((bcells_length _).trans (List.length_replicate (n := 32))) (bcells_flat _) fun w H => ?_
 refine bb [0,0] F H rfl fun a F => ?_
 replace H := H.nf 5 rfl
 refine nl (sq ?_)
 by_cases hg5 : x1.2.2 = 0
 replace hm := ifT hg5 hm
 obtain ⟨es6, H⟩ := H.mmOpen 1 rfl
 by_cases hg7 : ((flen x1.2.1 : Nat) : Int) = 1
 replace hm := ifT hg7 hm
 obtain ⟨cs8, hcs8, H⟩ := H.mxGet 1 rfl x1.1 (zc := [Value.slice none 0 0]) (z0 := []) (fun _ => rSl_nil _ _)
 have G := F; obtain ⟨p9, c9, rfl, H⟩ := H.rcSl 0 rfl; have F := G; clear G
 replace H := H.dp 1 rfl
 by_cases hg10 : ((x1.2.1 x1.1).getD []) = ([84,0,0])
 replace hm := ifT hg10 hm
 refine mix_regionK [16,17,18] [] (scL [0,1,2,3,4,5,6,7,8,1009,10,11,12,13,14,15,2016,2017,2018,19,20,21]) [0,1,2] H rfl rfl (by kernel_rfl) (by kernel_rfl) fun w H => ?_
 refine mb [0,0,0] F H rfl fun a F => ?_
 replace F := F.bT 11 hg5 rfl
 refine mb [0] F H rfl fun a F => ?_
 refine m_on (k := 0) F rfl rfl rfl rfl rfl rfl rfl (fun u hu => y_mxLen F rfl Tryz.underlying23 hu.choose_spec 2 rfl rfl) fun a F => ?_
 refine mb [0,0,0] F H rfl fun a F => ?_
 replace F := F.bT 16 hg7 rfl
 refine mbk [0,1999] F H rfl ⟨rfl, (aggn agg25 ((bcells_length _).trans hl2)), trivial⟩ fun a F => ?_
 refine m_on (k := 0) F rfl rfl rfl rfl rfl rfl rfl (fun u hu => y_mxGet (agg := false) (zc := [Value.slice none 0 0]) F Tryz.underlying23 (keyH key25) (fun w => zero26.run w) rfl hu.choose_spec 2 rfl rfl (k := x1.1) rfl hl2 hcs8) fun a F => ?_
 refine m_on (k := 0) F rfl rfl rfl rfl rfl rfl rfl (fun u hu => y_b2s F Tryz.underlying26 Tryz.underlying9 Tryz.underlying5 rfl rfl (hu.choose_spec) 0 rfl) fun a F => ?_
 refine m_on (k := 0) F rfl rfl rfl rfl rfl rfl rfl (fun u hu => y_eqT (l := ((x1.2.1 x1.1).getD [])) (m := [84,0,0]) F rfl rfl rfl) fun a F => ?_
 refine mb [0,0] F H rfl fun a F => ?_
 replace F := F.bT 23 hg10 rfl
 refine m_on (k := 0) F rfl rfl rfl rfl rfl rfl rfl (fun u hu => y_loadA F agg25 rfl rfl ((hu.choose_spec.blk 1 rfl).row) ((bcells_length _).trans hl2)) fun a F => ?_
 refine m_heavyOn F rfl rfl rfl rfl rfl ?_; refine g_onP F rfl rfl rfl rfl ?_
 obtain ⟨x12, ex12, hm⟩ := ob hm
 obtain ⟨x13, ex13, hm⟩ := ob hm
 obtain ⟨x14, ex14, hm⟩ := ob hm
 refine s_buildC wkP F rfl rfl rfl elem26 zero5 rfl rfl rfl rfl (by simp [Value.cells]) (by decide) H fun b11 w a H F => ?_
 replace H : St w0 w (HP.ow rByte 5 (some ⟨b11, 0, none⟩) (([x12, x13, x14]).length) ([x12, x13, x14]) :: HP.sl rByte p9 c9 ((x1.2.1 x1.1).getD []) :: HP.blk b4 (bcells x1.1) 25 :: HP.mx q3 hv false (rSl rByte) (fun l => l.length = 32) es6 x1.2.1 :: HP.sl R_api_Pair none 0 ([] : List T_api_Pair) :: HP.row 1 (0) (icells .u32 shaStart) :: HP.row 2 (0) (icells .u32 shaRounds) :: l) := H.blkOw (R := rByte) 0 rfl (fun gg => ⟨[[.int .u8 (84)], [.int .u8 (0)], [.int .u8 (0)]], rfl, (congrArg (fun z => [Value.int .u8 z]) (u8O_some ex12).symm), (congrArg (fun z => [Value.int .u8 z]) (u8O_some ex13).symm), (congrArg (fun z => [Value.int .u8 z]) (u8O_some ex14).symm), trivial⟩) (by simp)
 refine lz ?_; refine ct ⟨⟨_, (H.pm 7 [1,2,3,0,1,4,5,6] rfl:)⟩, ?_⟩
 refine m_heavyOn F rfl rfl rfl rfl rfl ?_; refine g_onP F rfl rfl rfl rfl ?_
 refine s_convSl wkP F rfl rfl rfl Tryz.underlying26 Tryz.underlying5 rfl rfl H 0 rfl fun w a H F => ?_
 refine lz ?_; refine ct ⟨⟨_, (H.pm 7 [1,2,3,0,1,4,5,6] rfl:)⟩, ?_⟩
 refine m_heavyOn F rfl rfl rfl rfl rfl ?_; refine g_onP F rfl rfl rfl rfl ?_
 obtain ⟨x15, ex15, hm⟩ := ob hm
 refine sd F rfl ent20 (w_rSum ex15 (H.pm 7 [0,0,1,2,3,4,5,6] rfl:):) ?_; rintro _ w a ⟨rfl, hl16, H⟩ F
 refine lz ?_; refine ct ⟨⟨_, (H.pm 7 [1,2,3,0,1,4,5,6] rfl:)⟩, ?_⟩
 refine m_on (k := 0) F rfl rfl rfl rfl rfl rfl rfl (fun u hu => y_eqlA F key25 rfl rfl rfl hl2 hl16) fun a F => ?_
 refine mb [0,0] F H rfl fun a F => ?_
 refine m_nil ?_
 replace H := H.mxShut 3 rfl
 refine ct (wr ?_)
 cases hm
 refine x_ret1 F rfl rfl ?_
 exact ⟨_, rfl, rfl, (H.pm 7 [] rfl:)⟩
 replace hm := ifF hg10 hm
 refine mix_regionK [16,17,18] [] (scL [0,1,2,3,4,5,6,7,8,1009,10,11,12,13,14,15,2016,2017,2018,19,20,21]) [0,1,2] H rfl rfl (by kernel_rfl) (by kernel_rfl) fun w H => ?_
 refine mb [0,0,0] F H rfl fun a F => ?_
 replace F := F.bT 11 hg5 rfl
 refine mb [0] F H rfl fun a F => ?_
 refine m_on (k := 0) F rfl rfl rfl rfl rfl rfl rfl (fun u hu => y_mxLen F rfl Tryz.underlying23 hu.choose_spec 2 rfl rfl) fun a F => ?_
 refine mb [0,0,0] F H rfl fun a F => ?_
 replace F := F.bT 16 hg7 rfl
 refine mbk [0,1999] F H rfl ⟨rfl, (aggn agg25 ((bcells_length _).trans hl2)), trivial⟩ fun a F => ?_
 refine m_on (k := 0) F rfl rfl rfl rfl rfl rfl rfl (fun u hu => y_mxGet (agg := false) (zc := [Value.slice none 0 0]) F Tryz.underlying23 (keyH key25) (fun w => zero26.run w) rfl hu.choose_spec 2 rfl rfl (k := x1.1) rfl hl2 hcs8) fun a F => ?_
 refine m_on (k := 0) F rfl rfl rfl rfl rfl rfl rfl (fun u hu => y_b2s F Tryz.underlying26 Tryz.underlying9 Tryz.underlying5 rfl rfl (hu.choose_spec) 0 rfl) fun a F => ?_
 refine m_on (k := 0) F rfl rfl rfl rfl rfl rfl rfl (fun u hu => y_eqT (l := ((x1.2.1 x1.1).getD [])) (m := [84,0,0]) F rfl rfl rfl) fun a F => ?_
 refine mb [0,0] F H rfl fun a F => ?_
 replace F := F.bF 23 hg10 rfl
 refine mb (List.replicate 7 0) F H rfl fun a F => ?_
 refine m_nil ?_
 replace H := H.mxShut 2 rfl
 refine ct (wr ?_)
 cases hm
 refine x_ret1 F rfl rfl ?_
 exact ⟨_, rfl, rfl, (H.pm 6 [] rfl:)⟩
 replace hm := ifF hg7 hm
 refine mix_regionK [16,17,18] [] (scL [0,1,2,3,4,5,6,7,8,1009,10,11,12,13,14,15,2016,2017,2018,19,20,21]) [0,1] H rfl rfl (by kernel_rfl) (by kernel_rfl) fun w H => ?_
 refine mb [0,0,0] F H rfl fun a F => ?_
 replace F := F.bT 11 hg5 rfl
 refine mb [0] F H rfl fun a F => ?_
 refine m_on (k := 0) F rfl rfl rfl rfl rfl rfl rfl (fun u hu => y_mxLen F rfl Tryz.underlying23 hu.choose_spec 1 rfl rfl) fun a F => ?_
 refine mb [0,0,0] F H rfl fun a F => ?_
 replace F := F.bF 16 hg7 rfl
 refine mb (List.replicate 14 0) F H rfl fun a F => ?_
 refine m_nil ?_
 replace H := H.mxShut 1 rfl
 refine ct (wr ?_)
 cases hm
 refine x_ret1 F rfl rfl ?_
 exact ⟨_, rfl, rfl, (H.pm 5 [] rfl:)⟩
 replace hm := ifF hg5 hm
 refine mix_regionK [16,17,18] [] (scL [0,1,2,3,4,5,6,7,8,1009,10,11,12,13,14,15,2016,2017,2018,19,20,21]) [0,1] H rfl rfl (by kernel_rfl) (by kernel_rfl) fun w H => ?_
 refine mb [0,0,0] F H rfl fun a F => ?_
 replace F := F.bF 11 hg5 rfl
 refine mb (List.replicate 19 0) F H rfl fun a F => ?_
 refine m_nil ?_
 refine ct (wr ?_)
 cases hm
 refine x_ret1 F rfl rfl ?_
 exact ⟨_, rfl, rfl, (H.pm 5 [] rfl:)⟩
theorem ent4 : En Tryz.prog 4 := enters Tryz.func4 (by kernel_rfl) rfl
theorem ent5 : En Tryz.prog 5 := enters Tryz.func5 (by kernel_rfl) rfl
theorem fld28_0 : FieldT Tryz.prog 28 0 0 := by unfold FieldT; rw [Tryz.underlying28]; kernel_rfl
theorem ent6 : En Tryz.prog 6 := enters Tryz.func6 (by kernel_rfl) rfl
theorem ent8 : En Tryz.prog 8 := enters Tryz.func8 (by kernel_rfl) rfl
theorem ent9 : En Tryz.prog 9 := enters Tryz.func9 (by kernel_rfl) rfl
theorem fld28_1 : FieldT Tryz.prog 28 1 1 := by unfold FieldT; rw [Tryz.underlying28]; kernel_rfl
theorem ent10 : En Tryz.prog 10 := enters Tryz.func10 (by kernel_rfl) rfl
theorem ent11 : En Tryz.prog 11 := enters Tryz.func11 (by kernel_rfl) rfl
theorem ent12 : En Tryz.prog 12 := enters Tryz.func12 (by kernel_rfl) rfl
theorem ent13 : En Tryz.prog 13 := enters Tryz.func13 (by kernel_rfl) rfl
theorem ent14 : En Tryz.prog 14 := enters Tryz.func14 (by kernel_rfl) rfl
theorem ent16 : En Tryz.prog 16 := enters Tryz.func16 (by kernel_rfl) rfl
theorem ent18 : En Tryz.prog 18 := enters Tryz.func18 (by kernel_rfl) rfl
theorem ent17 : En Tryz.prog 17 := enters Tryz.func17 (by kernel_rfl) rfl
theorem w_lReads {bag : (List UInt8) → Option (List UInt8)} {root : List UInt8} {q : T_triremelaw08_Query} {q1 : Option Nat} {cs3 : List Value} {w0 w : World} {l : List HP} (hl2 : (root).length = 32) {r : Bool} (hm : lReads bag root q = some r) (H : St w0 w (HP.row 1 (0) (icells .u32 shaStart) :: HP.row 2 (0) (icells .u32 shaRounds) :: HP.fm q1 hv false (rSl rByte) (fun l => l.length = 32) bag :: HP.rc R_triremelaw08_Query cs3 q :: l)) :
  Calls Tryz.prog 3 [.map q1, .agg (bcells root).toArray, .agg cs3.toArray].toArray w (fun e w' => ∃ v, e = .returned v ∧ v = .bool (r) ∧ St w0 w' (l)) := by
 unfold lReads at hm
 refine x_enter Tryz.func3 rfl rfl rfl ?_
 intro a F
 refine sr (s_boxA wkP F rfl rfl rfl rfl rfl H fun b4 w a H F => ?_)
 refine s_boxA wkP F rfl rfl rfl rfl rfl H fun b5 w a H F => ?_
 refine bb [0] F H rfl fun a F => ?_
 replace H := H.nf 6 rfl
 refine nl (sq (sr ?_))
 obtain ⟨x6, ex6, hm⟩ := ob hm
 refine sd F rfl ent4 (w_lSpeaks ex6 (H.pm 6 [2,3,0,1,2,3,4,5] rfl:):) ?_; rintro _ w a ⟨rfl, H⟩ F
 refine bb [0] F H rfl fun a F => ?_
 replace H := H.nf 6 rfl
 refine nl (cB F rfl (fun hg7 => ?_) (fun hg7 => ?_))
 replace hm := ifT hg7 hm
 refine sb [0] F H rfl fun a F => ?_
 refine nl (wr (tr ?_))
 cases hm
 refine x_ret1 F rfl rfl ?_
 exact ⟨_, rfl, rfl, (H.pm 6 [] rfl:)⟩
 replace hm := ifF (nT hg7) hm
 refine sk (ct (sq (sb [0] F H rfl fun a F => ?_)))
 obtain ⟨x8, ex8, hm⟩ := ob hm
 refine sd F rfl ent5 (w_rGreatBag ex8 (H.pm 6 [4,0,1,2,3,4,5] rfl:):) ?_; rintro _ w a ⟨rfl, H⟩ F
 refine bb [0] F H rfl fun a F => ?_
 by_cases hg9 : x8 = true
 replace hm := ifT hg9 hm
 replace F := F.vT 28 hg9 rfl
 refine bb (List.replicate 5 0) F H rfl fun a F => ?_
 replace H := H.nf 6 rfl
 refine nl (cT F rfl ?_)
 refine sb [0] F H rfl fun a F => ?_
 refine nl (wr (tr ?_))
 cases hm
 refine x_ret1 F rfl rfl ?_
 exact ⟨_, rfl, rfl, (H.pm 6 [] rfl:)⟩
 replace hm := ifF hg9 hm
 replace F := F.vF 28 hg9 rfl
 refine bk [0] F H rfl ⟨fld28_0, trivial⟩ fun a F => ?_
 refine g_onP F rfl rfl rfl rfl ?_
 have G := F; replace H := rc_triremelaw08_Query (H.pk 5 rfl); obtain ⟨p10, c11, rfl, J⟩ := H; have H := J; have F := G; clear G J
 refine bk [1000,0,0,0] F H rfl ⟨rfl, plain26, ⟨_, Tryz.underlying26⟩, trivial⟩ fun a F => ?_
 replace H := H.nf 6 rfl
 refine nl (cPm F rfl hm (fun hg12 hm => ?_) (fun hg12 hm => ?_))
 refine sb [0] F H rfl fun a F => ?_
 refine nl (wr (tr ?_))
 cases hm
 refine x_ret1 F rfl rfl ?_
 exact ⟨_, rfl, rfl, (H.pm 6 [] rfl:)⟩
 refine sk (ct (sb [0] F H rfl fun a F => ?_))
 obtain ⟨x13, ex13, hm⟩ := ob hm
 refine sd F rfl ent6 (w_rCopyBag ex13 (H.pm 6 [5,0,1,2,3,4,5] rfl:):) ?_; rintro _ w a ⟨q14, rfl, H⟩ F
 refine bb [0] F H rfl fun a F => ?_
 replace H := H.nf 7 rfl
 refine nl (sr (bk [0,3999] F H rfl ⟨rfl, (aggn agg25 ((bcells_length _).trans hl2)), trivial⟩ fun a F => ?_))
 obtain ⟨x15, ex15, hm⟩ := ob hm
 have H0 := H
 refine sd F rfl ent7 (w_trAll hl2 ex15 (sealC (H.sealP 4 rfl rfl) (sealC (H.sealP 5 rfl rfl) (sealC (H.sealFm 0 rfl) (sealN _)))).st:) ?_; rintro _ w a ⟨p16, c16, rfl, H⟩ F
 replace H := H0.unsealP2 H; clear H0
 refine bb (List.replicate 5 0) F H rfl fun a F => ?_
 replace H := H.nf 8 rfl
 refine nl (sr (bk [0,4999] F H rfl ⟨rfl, (aggn agg25 ((bcells_length _).trans hl2)), trivial⟩ fun a F => ?_))
 obtain ⟨x17, ex17, hm⟩ := ob hm
 refine sd F rfl ent8 (w_rAll hl2 ex17 (H.pm 8 [7,0,1,2,3,4,5,6,7] rfl:):) ?_; rintro _ w a ⟨p18, c18, rfl, H⟩ F
 refine bb (List.replicate 5 0) F H rfl fun a F => ?_
 replace H := H.nf 9 rfl
 refine nl (sq (mix_regionK [2,5,6] [] (scL [0,1,3,4,2002,2005,2006,7,8,9,10,11,12,13]) [4,5] H rfl rfl (by kernel_rfl) (by kernel_rfl) fun w H => ?_))
 refine mb [0] F H rfl fun a F => ?_
 refine m_pure F rfl rfl rfl rfl (fun u hu => y_loadA F agg25 rfl rfl ((hu.choose_spec.blk 1 rfl).row) ((bcells_length _).trans hl2)) fun a F => ?_
 refine mbk [0] F H rfl ⟨fld28_0, trivial⟩ fun a F => ?_
 refine m_pure F rfl rfl rfl rfl (fun u hu => y_load1 F plain26 rfl rfl (row_at (v := .slice p10 (q.1).length c11) ((hu.choose_spec.blk 0 rfl).row) rfl)) fun a F => ?_
 refine m_heavy rfl rfl ?_
 refine s_build0O (R := rByte) wkP F rfl rfl rfl elem26 rfl H fun b19 w a H F => ?_
 refine lz ?_; refine ct ⟨⟨_, (H.pm 10 [5,6,0,1,2,3,4,7,8,9] rfl:)⟩, ?_⟩
 refine m_heavy rfl rfl ?_
 obtain ⟨x21, ex21, hm⟩ := ob hm
 refine s_app wkP F rfl rfl rfl rfl rfl rfl elem26 rfl ex21 H 0 4 rfl rfl fun p20 c20 w a H F => ?_
 refine lz ?_; refine ct ⟨⟨_, (H.pm 10 [5,6,0,1,2,3,4,7,8,9] rfl:)⟩, ?_⟩
 refine m_heavy rfl rfl ?_
 replace H := H.frz 0 rfl
 obtain ⟨x22, ex22, hm⟩ := ob hm
 have H0 := H
 refine sd F rfl ent9 (w_trGet hl2 ex22 (sealC (H.sealP 7 rfl rfl) (sealC (H.sealP 8 rfl rfl) (sealC (H.sealFm 3 rfl) (sealC (H.sealP 0 rfl rfl) (sealN _))))).st:) ?_; rintro _ w a ⟨p23, c23, rfl, H⟩ F
 replace H := H0.unsealB H; clear H0
 refine lz ?_; refine ct ⟨⟨_, (H.pm 11 [6,7,0,1,2,3,4,5,8,9,10] rfl:)⟩, ?_⟩
 refine mb (List.replicate 7 0) F H rfl fun a F => ?_
 refine m_nil ?_
 refine ct (sq (mix_regionK [2,5,8] [] (scL [0,1,3,4,6,7,2002,2005,2008,9,10,11,12,13]) [6,7] H rfl rfl (by kernel_rfl) (by kernel_rfl) fun w H => ?_))
 refine mb [0] F H rfl fun a F => ?_
 refine m_pure F rfl rfl rfl rfl (fun u hu => y_loadA F agg25 rfl rfl ((hu.choose_spec.blk 1 rfl).row) ((bcells_length _).trans hl2)) fun a F => ?_
 refine mbk [0] F H rfl ⟨fld28_0, trivial⟩ fun a F => ?_
 refine m_pure F rfl rfl rfl rfl (fun u hu => y_load1 F plain26 rfl rfl (row_at (v := .slice p10 (q.1).length c11) ((hu.choose_spec.blk 0 rfl).row) rfl)) fun a F => ?_
 refine mbk [1] F H rfl ⟨fld28_1, trivial⟩ fun a F => ?_
 refine m_pure F rfl rfl rfl rfl (fun u hu => y_load1 F plain3 rfl rfl (row_at (v := .int .i64 (q.2)) ((hu.choose_spec.blk 0 rfl).row) rfl)) fun a F => ?_
 refine m_heavy rfl rfl ?_
 refine s_build0O (R := rByte) wkP F rfl rfl rfl elem26 rfl H fun b24 w a H F => ?_
 refine lz ?_; refine ct ⟨⟨_, (H.pm 12 [7,8,0,1,2,3,4,5,6,9,10,11] rfl:)⟩, ?_⟩
 refine m_heavy rfl rfl ?_
 obtain ⟨x26, ex26, hm⟩ := ob hm
 refine s_app wkP F rfl rfl rfl rfl rfl rfl elem26 rfl ex26 H 0 6 rfl rfl fun p25 c25 w a H F => ?_
 refine lz ?_; refine ct ⟨⟨_, (H.pm 12 [7,8,0,1,2,3,4,5,6,9,10,11] rfl:)⟩, ?_⟩
 refine m_heavy rfl rfl ?_
 replace H := H.frz 0 rfl
 obtain ⟨x27, ex27, hm⟩ := ob hm
 have H0 := H
 refine sd F rfl ent10 (w_trRange hl2 ex27 (sealC (H.sealP 9 rfl rfl) (sealC (H.sealP 10 rfl rfl) (sealC (H.sealFm 5 rfl) (sealC (H.sealP 0 rfl rfl) (sealN _))))).st:) ?_; rintro _ w a ⟨p28, c28, rfl, H⟩ F
 replace H := H0.unsealP2 H; clear H0
 refine lz ?_; refine ct ⟨⟨_, (H.pm 13 [8,9,0,1,2,3,4,5,6,7,10,11,12] rfl:)⟩, ?_⟩
 refine mb (List.replicate 5 0) F H rfl fun a F => ?_
 refine m_nil ?_
 refine ct (sr (bk [0,9999] F H rfl ⟨rfl, (aggn agg25 ((bcells_length _).trans hl2)), trivial⟩ fun a F => ?_))
 obtain ⟨x29, ex29, hm⟩ := ob hm
 have H0 := H
 refine sd F rfl ent11 (w_trHashes hl2 ex29 (sealC (H.sealP 10 rfl rfl) (sealC (H.sealP 11 rfl rfl) (sealC (H.sealFm 6 rfl) (sealN _)))).st:) ?_; rintro _ w a ⟨p30, c30, rfl, H⟩ F
 replace H := H0.unsealH H; clear H0
 refine bb (List.replicate 5 0) F H rfl fun a F => ?_
 replace H := H.nf 14 rfl
 refine nl (sq (sb [0,0,0,0] F H rfl fun a F => ?_))
 rcases spN 80 F rfl hm with ⟨hg31, hm, F⟩ | ⟨hg31, hm, F⟩
 refine bb (List.replicate 5 0) F H rfl fun a F => ?_
 rcases spN 85 F rfl hm with ⟨hg32, hm, F⟩ | ⟨hg32, hm, F⟩
 refine bb (List.replicate 5 0) F H rfl fun a F => ?_
 rcases spN 90 F rfl hm with ⟨hg33, hm, F⟩ | ⟨hg33, hm, F⟩
 refine bb (List.replicate 5 0) F H rfl fun a F => ?_
 rcases spN 95 F rfl hm with ⟨hg34, hm, F⟩ | ⟨hg34, hm, F⟩
 refine bb [0,0] F H rfl fun a F => ?_
 refine g_onP F rfl rfl rfl rfl ?_
 obtain ⟨x35, ex35, hm⟩ := ob hm
 have H0 := H
 refine sd F rfl ent12 (w_m_triremeref06_SamePairs ex35 (sealC (H.sealB 6 rfl) (sealC (H.sealP 5 rfl rfl) (sealN _))).st:) ?_; rintro _ w a ⟨rfl, H⟩ F
 replace H := H0.unseal0 H; clear H0
 refine bb [0,0,0] F H rfl fun a F => ?_
 by_cases hg36 : (!x35) = true
 replace hm := ifT hg36 hm
 replace F := F.vT 101 hg36 rfl
 refine bb (List.replicate 5 0) F H rfl fun a F => ?_
 replace H := H.nf 14 rfl
 refine nl (cT F rfl ?_)
 refine sb [0] F H rfl fun a F => ?_
 refine nl (wr (tr ?_))
 cases hm
 refine x_ret1 F rfl rfl ?_
 exact ⟨_, rfl, rfl, (H.pm 14 [] rfl:)⟩
 replace hm := ifF hg36 hm
 replace F := F.vF 101 hg36 rfl
 refine bb [0,0] F H rfl fun a F => ?_
 refine g_onP F rfl rfl rfl rfl ?_
 obtain ⟨x37, ex37, hm⟩ := ob hm
 refine sd F rfl ent13 (w_rSameBag ex37 (H.pm 14 [7,13,0,1,2,3,4,5,6,8,9,10,11,12,13] rfl:):) ?_; rintro _ w a ⟨rfl, H⟩ F
 refine bb [0,0] F H rfl fun a F => ?_
 replace H := H.nf 14 rfl
 refine nl (cB F rfl (fun hg38 => ?_) (fun hg38 => ?_))
 replace hm := ifT hg38 hm
 refine sb [0] F H rfl fun a F => ?_
 refine nl (wr (tr ?_))
 cases hm
 refine x_ret1 F rfl rfl ?_
 exact ⟨_, rfl, rfl, (H.pm 14 [] rfl:)⟩
 replace hm := ifF (nT hg38) hm
 refine sk (ct (sq (sb [0,0] F H rfl fun a F => ?_)))
 refine nl (cNm F rfl hm (fun hg39 hm => ?_) (fun hg39 hm => ?_))
 refine sb [0,0,0] F H rfl fun a F => ?_
 by_cases hg40 : (!x22.2.1) = true
 replace hm := ifT hg40 hm
 replace F := F.vT 111 hg40 rfl
 refine bk (List.replicate 5 0) F H rfl ⟨⟨_, Tryz.underlying26⟩, trivial⟩ fun a F => ?_
 rcases spP 116 F rfl hm with ⟨hg41, hm, F⟩ | ⟨hg41, hm, F⟩
 refine bk (List.replicate 5 0) F H rfl ⟨⟨_, Tryz.underlying32⟩, trivial⟩ fun a F => ?_
 rcases spP 121 F rfl hm with ⟨hg42, hm, F⟩ | ⟨hg42, hm, F⟩
 refine bk (List.replicate 5 0) F H rfl ⟨⟨_, Tryz.underlying41⟩, trivial⟩ fun a F => ?_
 refine nl (wr (tr ?_))
 cases hm
 refine x_ret1 F rfl rfl ?_
 exact ⟨_, rfl, rfl, (H.pm 14 [] rfl:)⟩
 refine bb (List.replicate 5 0) F H rfl fun a F => ?_
 refine nl (wr (tr ?_))
 cases hm
 refine x_ret1 F rfl rfl ?_
 exact ⟨_, rfl, rfl, (H.pm 14 [] rfl:)⟩
 refine bb (List.replicate 10 0) F H rfl fun a F => ?_
 refine nl (wr (tr ?_))
 cases hm
 refine x_ret1 F rfl rfl ?_
 exact ⟨_, rfl, rfl, (H.pm 14 [] rfl:)⟩
 replace hm := ifF hg40 hm
 replace F := F.vF 111 hg40 rfl
 refine bb (List.replicate 15 0) F H rfl fun a F => ?_
 refine nl (wr (tr ?_))
 cases hm
 refine x_ret1 F rfl rfl ?_
 exact ⟨_, rfl, rfl, (H.pm 14 [] rfl:)⟩
 refine sk (ct (sr (bk [0,0,9000] F H rfl ⟨fld28_0, rfl, plain26, trivial⟩ fun a F => ?_)))
 obtain ⟨x43, ex43, hm⟩ := ob hm
 refine sd F rfl ent14 (w_m_triremeref08_From ex43 (H.pm 14 [6,8,0,1,2,3,4,5,6,7,8,9,10,11,12,13] rfl:):) ?_; rintro _ w a ⟨p44, c44, rfl, H⟩ F
 refine bb [0] F H rfl fun a F => ?_
 replace H := H.nf 15 rfl
 refine nl (sq ?_)
 by_cases hg45 : 0 < ((x43).length : Int)
 replace hm := ifT hg45 hm
 obtain ⟨x46, ex46, hm⟩ := ob hm
 obtain ⟨b47, o47, hp47, cs48, H⟩ := H.slE 0 rfl ex46
 have G := F; replace H := rc_api_Pair (H.pk 1 rfl); obtain ⟨p49, c50, p51, c52, rfl, J⟩ := H; have H := J; have F := G; clear G J
 refine qr H (by kernel_rfl) (by kernel_rfl) ?_
 refine qbk [0,0,0,0] F rfl ⟨⟨_, Tryz.underlying32⟩, trivial⟩ fun a F => ?_
 replace F := F.bT 133 hg45 rfl
 refine qb [0] F rfl fun a F => ?_
 refine qg_on F rfl rfl rfl rfl ?_
 refine qv F rfl (fun u hu => y_idxS F elem32 rfl rfl rfl hp47 ex46) fun a F => ?_
 refine qbk [0,2000] F rfl ⟨fld48_0, rfl, plain26, trivial⟩ fun a F => ?_
 refine qg_on F rfl rfl rfl rfl ?_
 refine qv F rfl (fun u hu => y_b2s F Tryz.underlying26 Tryz.underlying9 Tryz.underlying5 rfl rfl (hu) 0 rfl) fun a F => ?_
 refine qbk [0,13000] F rfl ⟨fld28_0, rfl, plain26, trivial⟩ fun a F => ?_
 refine qg_on F rfl rfl rfl rfl ?_
 refine qv F rfl (fun u hu => y_b2s F Tryz.underlying26 Tryz.underlying9 Tryz.underlying5 rfl rfl (hu) 12 rfl) fun a F => ?_
 refine qg_on F rfl rfl rfl rfl ?_
 refine qv F rfl (fun u hu => y_eqT (l := x46.1) (m := q.1) F rfl rfl rfl) fun a F => ?_
 refine qb [0,0] F rfl fun a F => ?_
 refine q_nil fun w H => ?_
 refine ct (sq (sq ?_))
 by_cases hg53 : (x22.2.1) = (decide (x46.1 = q.1))
 replace hm := ifT hg53 hm
 by_cases hg54 : x46.1 = q.1
 replace hm := ifT hg54 hm
 obtain ⟨x55, ex55, hm⟩ := ob hm
 obtain ⟨cs56, H⟩ := H.slF 3 rfl hp47 ex55
 have G := F; replace H := rc_api_Pair (H.pk 1 rfl); obtain ⟨p57, c58, p59, c60, rfl, J⟩ := H; have H := J; have F := G; clear G J
 by_cases hg61 : x22.1 = x55.2
 replace hm := ifT hg61 hm
 refine mix_regionK [23,24] [] (scL [0,1,2,3,4,5,6,7,8,9,10,1011,12,13,14,15,16,17,18,19,1020,21,1022,2023,2024,25,26]) [1,11] H rfl rfl (by kernel_rfl) (by kernel_rfl) fun w H => ?_
 refine mb [0,0] F H rfl fun a F => ?_
 refine m_pure F rfl rfl rfl rfl (fun u hu => y_neqBool (p := x22.2.1) (q := decide (x46.1 = q.1)) F rfl Tryz.underlying4 rfl rfl) fun a F => ?_
 refine mb [0] F H rfl fun a F => ?_
 replace F := F.nT 147 hg53 rfl
 refine mb [0,0] F H rfl fun a F => ?_
 replace F := F.bT 149 hg54 rfl
 refine mb [0] F H rfl fun a F => ?_
 refine m_on (k := 0) F rfl rfl rfl rfl rfl rfl rfl (fun u hu => y_b2s F Tryz.underlying26 Tryz.underlying9 Tryz.underlying5 rfl rfl (hu.choose_spec) 1 rfl) fun a F => ?_
 refine mb [0] F H rfl fun a F => ?_
 refine m_on (k := 0) F rfl rfl rfl rfl rfl rfl rfl (fun u hu => y_idxS F elem32 rfl rfl rfl hp47 ex55) fun a F => ?_
 refine mbk [1,2001] F H rfl ⟨fld48_1, rfl, plain26, trivial⟩ fun a F => ?_
 refine m_on (k := 0) F rfl rfl rfl rfl rfl rfl rfl (fun u hu => y_b2s F Tryz.underlying26 Tryz.underlying9 Tryz.underlying5 rfl rfl (hu.choose_spec) 0 rfl) fun a F => ?_
 refine m_on (k := 0) F rfl rfl rfl rfl rfl rfl rfl (fun u hu => y_neT (l := x22.1) (m := x55.2) F rfl rfl rfl) fun a F => ?_
 refine mb [0,0,0] F H rfl fun a F => ?_
 replace F := F.nT 160 hg61 rfl
 refine mbk [0,0,0,16000,1,16001] F H rfl ⟨fld28_0, rfl, plain26, fld28_1, rfl, plain3, trivial⟩ fun a F => ?_
 refine m_heavyOn F rfl rfl rfl rfl rfl ?_; refine g_onP F rfl rfl rfl rfl ?_
 obtain ⟨x62, ex62, hm⟩ := ob hm
 refine sd F rfl ent14 (w_m_triremeref08_From ex62 (H.pm 21 [13,15,0,1,2,3,4,5,6,7,8,9,10,11,12,13,14,15,16,17,18,19,20] rfl:):) ?_; rintro _ w a ⟨p63, c63, rfl, H⟩ F
 refine lz ?_; refine ct ⟨⟨_, (H.pm 22 [2,12,0,1,2,3,4,5,6,7,8,9,10,11,12,13,14,15,16,17,18,19,20,21] rfl:)⟩, ?_⟩
 refine m_heavyOn F rfl rfl rfl rfl rfl ?_; refine g_onP F rfl rfl rfl rfl ?_
 obtain ⟨x64, ex64, hm⟩ := ob hm
 have H0 := H
 refine sd F rfl ent12 (w_m_triremeref06_SamePairs ex64 (sealC (H.sealB 10 rfl) (sealC (H.sealP 0 rfl rfl) (sealN _))).st:) ?_; rintro _ w a ⟨rfl, H⟩ F
 replace H := H0.unseal0 H; clear H0
 refine lz ?_; refine ct ⟨⟨_, (H.pm 22 [2,12,0,1,2,3,4,5,6,7,8,9,10,11,12,13,14,15,16,17,18,19,20,21] rfl:)⟩, ?_⟩
 refine mb [0,0] F H rfl fun a F => ?_
 refine m_nil ?_
 refine ct (cB F rfl (fun hg65 => ?_) (fun hg65 => ?_))
 replace hm := ifT hg65 hm
 refine sb [0] F H rfl fun a F => ?_
 replace H := H.nf 22 rfl
 refine nl (wr (tr ?_))
 cases hm
 refine x_ret1 F rfl rfl ?_
 exact ⟨_, rfl, rfl, (H.pm 22 [] rfl:)⟩
 replace hm := ifF (nT hg65) hm
 refine sk (ct (sb [0] F H rfl fun a F => ?_))
 obtain ⟨x66, ex66, hm⟩ := ob hm
 refine sd F rfl ent15 (w_m_triremeref08_Build ex66 (H.pm 22 [14,0,1,2,3,4,5,6,7,8,9,10,11,12,13,14,15,16,17,18,19,20,21] rfl:):) ?_; rintro _ w a ⟨cs68, rfl, hl67, H⟩ F
 refine bb [0,0,0,0] F H rfl fun a F => ?_
 refine s_allocA wkP F rfl rfl rfl agz25 rfl H fun b69 w a H F => ?_
 replace H := H.owNil (rBytesN 32) 25
 replace H := H.owNil (rSl rByte) 26
 refine s_allocA wkP F rfl rfl rfl agz51 rfl H fun b70 w a H F => ?_
 refine s_storeA wkP F rfl rfl agg25 rfl rfl rfl H 3 rfl ((bcells_length _).trans hl67) ((bcells_length _).trans (List.length_replicate (n := 32))) (bcells_flat _) fun w H => ?_
 refine s_storeA wkP F rfl rfl agg51 rfl rfl rfl H 0 rfl (H.rcLen 4 rfl) rfl (H.rcFlat 4 rfl) fun w H => ?_
 refine bb [0] F H rfl fun a F => ?_
 replace H := H.nf 27 rfl
 refine nb [0] F H rfl fun a F => ?_
 refine s_call wkP F rfl rfl rfl rfl (y_call F rfl rfl ent16) (w_spoil16 (H.pm 27 [20,0,1,2,3,4,5,6,7,8,9,10,11,12,13,14,15,16,17,18,19,21,22,23,24,25,26] rfl:)) ?_; rintro _ w a ⟨rfl, H⟩ F
 replace H := H.nf 26 rfl
 refine nb [0] F H rfl fun a F => ?_
 refine s_call wkP F rfl rfl rfl rfl (y_call F rfl rfl ent16) (w_spoil16 (H.pm 26 [15,0,1,2,3,4,5,6,7,8,9,10,11,12,13,14,16,17,18,19,20,21,22,23,24,25] rfl:)) ?_; rintro _ w a ⟨rfl, H⟩ F
 replace H := H.nf 25 rfl
 refine nl (sr (bk [0,0] F H rfl ⟨fld51_0, trivial⟩ fun a F => ?_))
 have G := F; replace H := rc_triremeref08_Blocks (H.pk 4 rfl); obtain ⟨p71, c72, p73, c74, rfl, J⟩ := H; have H := J; have F := G; clear G J
 refine bk [2000] F H rfl ⟨rfl, plain41, trivial⟩ fun a F => ?_
 obtain ⟨x75, ex75, hm⟩ := ob hm
 refine sd F rfl ent18 (w_m_triremeref05_Sorted ex75 (H.pm 26 [0,0,1,2,3,4,5,6,7,8,9,10,11,12,13,14,15,16,17,18,19,20,21,22,23,24,25] rfl:):) ?_; rintro _ w a ⟨p76, c76, rfl, H⟩ F
 replace H := H.frz 16 rfl
 obtain ⟨x77, ex77, hm⟩ := ob hm
 refine sd F rfl ent17 (w_m_triremeref05_Same ex77 (H.pm 27 [0,1,0,1,2,3,4,5,6,7,8,9,10,11,12,13,14,15,16,17,18,19,20,21,22,23,24,25,26] rfl:):) ?_; rintro _ w a ⟨rfl, H⟩ F
 refine bb [0] F H rfl fun a F => ?_
 by_cases hg78 : x77 = true
 replace hm := ifT hg78 hm
 replace F := F.vT 186 hg78 rfl
 refine bb [0,0] F H rfl fun a F => ?_
 refine g_onP F rfl rfl rfl rfl ?_
 obtain ⟨x79, ex79, hm⟩ := ob hm
 refine sd F rfl ent13 (w_rSameBag ex79 (H.pm 27 [16,26,0,1,2,3,4,5,6,7,8,9,10,11,12,13,14,15,17,18,19,20,21,22,23,24,25,26] rfl:):) ?_; rintro _ w a ⟨rfl, H⟩ F
 refine bb [0,0] F H rfl fun a F => ?_
 replace H := H.nf 27 rfl
 refine nl (wr ?_)
 cases hm
 refine x_ret1 F rfl rfl ?_
 exact ⟨_, rfl, rfl, (H.pm 27 [] rfl:)⟩
 replace hm := ifF hg78 hm
 replace F := F.vF 186 hg78 rfl
 refine bb (List.replicate 5 0) F H rfl fun a F => ?_
 replace H := H.nf 27 rfl
 refine nl (wr ?_)
 cases hm
 refine x_ret1 F rfl rfl ?_
 exact ⟨_, rfl, rfl, (H.pm 27 [] rfl:)⟩
 replace hm := ifF hg61 hm
 refine mix_regionK [23,24] [] (scL [0,1,2,3,4,5,6,7,8,9,10,1011,12,13,14,15,16,17,18,19,1020,21,1022,2023,2024,25,26]) [1,11] H rfl rfl (by kernel_rfl) (by kernel_rfl) fun w H => ?_
 refine mb [0,0] F H rfl fun a F => ?_
 refine m_pure F rfl rfl rfl rfl (fun u hu => y_neqBool (p := x22.2.1) (q := decide (x46.1 = q.1)) F rfl Tryz.underlying4 rfl rfl) fun a F => ?_
 refine mb [0] F H rfl fun a F => ?_
 replace F := F.nT 147 hg53 rfl
 refine mb [0,0] F H rfl fun a F => ?_
 replace F := F.bT 149 hg54 rfl
 refine mb [0] F H rfl fun a F => ?_
 refine m_on (k := 0) F rfl rfl rfl rfl rfl rfl rfl (fun u hu => y_b2s F Tryz.underlying26 Tryz.underlying9 Tryz.underlying5 rfl rfl (hu.choose_spec) 1 rfl) fun a F => ?_
 refine mb [0] F H rfl fun a F => ?_
 refine m_on (k := 0) F rfl rfl rfl rfl rfl rfl rfl (fun u hu => y_idxS F elem32 rfl rfl rfl hp47 ex55) fun a F => ?_
 refine mbk [1,2001] F H rfl ⟨fld48_1, rfl, plain26, trivial⟩ fun a F => ?_
 refine m_on (k := 0) F rfl rfl rfl rfl rfl rfl rfl (fun u hu => y_b2s F Tryz.underlying26 Tryz.underlying9 Tryz.underlying5 rfl rfl (hu.choose_spec) 0 rfl) fun a F => ?_
 refine m_on (k := 0) F rfl rfl rfl rfl rfl rfl rfl (fun u hu => y_neT (l := x22.1) (m := x55.2) F rfl rfl rfl) fun a F => ?_
 refine mb [0,0,0] F H rfl fun a F => ?_
 replace F := F.nF 160 hg61 rfl
 refine mb (List.replicate 10 0) F H rfl fun a F => ?_
 refine m_nil ?_
 refine ct (cT F rfl ?_)
 refine sb [0] F H rfl fun a F => ?_
 refine nl (wr (tr ?_))
 cases hm
 refine x_ret1 F rfl rfl ?_
 exact ⟨_, rfl, rfl, (H.pm 21 [] rfl:)⟩
 replace hm := ifF hg54 hm
 refine mix_regionK [23,24] [] (scL [0,1,2,3,4,5,6,7,8,9,10,1011,12,13,14,15,16,17,18,19,1020,21,1022,2023,2024,25,26]) [8] H rfl rfl (by kernel_rfl) (by kernel_rfl) fun w H => ?_
 refine mb [0,0] F H rfl fun a F => ?_
 refine m_pure F rfl rfl rfl rfl (fun u hu => y_neqBool (p := x22.2.1) (q := decide (x46.1 = q.1)) F rfl Tryz.underlying4 rfl rfl) fun a F => ?_
 refine mb [0] F H rfl fun a F => ?_
 replace F := F.nT 147 hg53 rfl
 refine mb [0,0] F H rfl fun a F => ?_
 replace F := F.bF 149 hg54 rfl
 refine mbk [0,0,0,0,0,0,0,0,0,0,0,0,0,0,13000,1,13001] F H rfl ⟨fld28_0, rfl, plain26, fld28_1, rfl, plain3, trivial⟩ fun a F => ?_
 refine m_heavyOn F rfl rfl rfl rfl rfl ?_; refine g_onP F rfl rfl rfl rfl ?_
 obtain ⟨x80, ex80, hm⟩ := ob hm
 refine sd F rfl ent14 (w_m_triremeref08_From ex80 (H.pm 18 [10,12,0,1,2,3,4,5,6,7,8,9,10,11,12,13,14,15,16,17] rfl:):) ?_; rintro _ w a ⟨p81, c81, rfl, H⟩ F
 refine lz ?_; refine ct ⟨⟨_, (H.pm 19 [9,0,1,2,3,4,5,6,7,8,9,10,11,12,13,14,15,16,17,18] rfl:)⟩, ?_⟩
 refine m_heavyOn F rfl rfl rfl rfl rfl ?_; refine g_onP F rfl rfl rfl rfl ?_
 obtain ⟨x82, ex82, hm⟩ := ob hm
 have H0 := H
 refine sd F rfl ent12 (w_m_triremeref06_SamePairs ex82 (sealC (H.sealB 7 rfl) (sealC (H.sealP 0 rfl rfl) (sealN _))).st:) ?_; rintro _ w a ⟨rfl, H⟩ F
 replace H := H0.unseal0 H; clear H0
 refine lz ?_; refine ct ⟨⟨_, (H.pm 19 [9,0,1,2,3,4,5,6,7,8,9,10,11,12,13,14,15,16,17,18] rfl:)⟩, ?_⟩
 refine mb [0,0] F H rfl fun a F => ?_
 refine m_nil ?_
 refine ct (cB F rfl (fun hg83 => ?_) (fun hg83 => ?_))
 replace hm := ifT hg83 hm
 refine sb [0] F H rfl fun a F => ?_
 replace H := H.nf 19 rfl
 refine nl (wr (tr ?_))
 cases hm
 refine x_ret1 F rfl rfl ?_
 exact ⟨_, rfl, rfl, (H.pm 19 [] rfl:)⟩
 replace hm := ifF (nT hg83) hm
 refine sk (ct (sb [0] F H rfl fun a F => ?_))
 obtain ⟨x84, ex84, hm⟩ := ob hm
 refine sd F rfl ent15 (w_m_triremeref08_Build ex84 (H.pm 19 [11,0,1,2,3,4,5,6,7,8,9,10,11,12,13,14,15,16,17,18] rfl:):) ?_; rintro _ w a ⟨cs86, rfl, hl85, H⟩ F
 refine bb [0,0,0,0] F H rfl fun a F => ?_
 refine s_allocA wkP F rfl rfl rfl agz25 rfl H fun b87 w a H F => ?_
 replace H := H.owNil (rBytesN 32) 25
 replace H := H.owNil (rSl rByte) 26
 refine s_allocA wkP F rfl rfl rfl agz51 rfl H fun b88 w a H F => ?_
 refine s_storeA wkP F rfl rfl agg25 rfl rfl rfl H 3 rfl ((bcells_length _).trans hl85) ((bcells_length _).trans (List.length_replicate (n := 32))) (bcells_flat _) fun w H => ?_
 refine s_storeA wkP F rfl rfl agg51 rfl rfl rfl H 0 rfl (H.rcLen 4 rfl) rfl (H.rcFlat 4 rfl) fun w H => ?_
 refine bb [0] F H rfl fun a F => ?_
 replace H := H.nf 24 rfl
 refine nb [0] F H rfl fun a F => ?_
 refine s_call wkP F rfl rfl rfl rfl (y_call F rfl rfl ent16) (w_spoil16 (H.pm 24 [17,0,1,2,3,4,5,6,7,8,9,10,11,12,13,14,15,16,18,19,20,21,22,23] rfl:)) ?_; rintro _ w a ⟨rfl, H⟩ F
 replace H := H.nf 23 rfl
 refine nb [0] F H rfl fun a F => ?_
 refine s_call wkP F rfl rfl rfl rfl (y_call F rfl rfl ent16) (w_spoil16 (H.pm 23 [12,0,1,2,3,4,5,6,7,8,9,10,11,13,14,15,16,17,18,19,20,21,22] rfl:)) ?_; rintro _ w a ⟨rfl, H⟩ F
 replace H := H.nf 22 rfl
 refine nl (sr (bk [0,0] F H rfl ⟨fld51_0, trivial⟩ fun a F => ?_))
 have G := F; replace H := rc_triremeref08_Blocks (H.pk 4 rfl); obtain ⟨p89, c90, p91, c92, rfl, J⟩ := H; have H := J; have F := G; clear G J
 refine bk [2000] F H rfl ⟨rfl, plain41, trivial⟩ fun a F => ?_
 obtain ⟨x93, ex93, hm⟩ := ob hm
 refine sd F rfl ent18 (w_m_triremeref05_Sorted ex93 (H.pm 23 [0,0,1,2,3,4,5,6,7,8,9,10,11,12,13,14,15,16,17,18,19,20,21,22] rfl:):) ?_; rintro _ w a ⟨p94, c94, rfl, H⟩ F
 replace H := H.frz 13 rfl
 obtain ⟨x95, ex95, hm⟩ := ob hm
 refine sd F rfl ent17 (w_m_triremeref05_Same ex95 (H.pm 24 [0,1,0,1,2,3,4,5,6,7,8,9,10,11,12,13,14,15,16,17,18,19,20,21,22,23] rfl:):) ?_; rintro _ w a ⟨rfl, H⟩ F
 refine bb [0] F H rfl fun a F => ?_
 by_cases hg96 : x95 = true
 replace hm := ifT hg96 hm
 replace F := F.vT 186 hg96 rfl
 refine bb [0,0] F H rfl fun a F => ?_
 refine g_onP F rfl rfl rfl rfl ?_
 obtain ⟨x97, ex97, hm⟩ := ob hm
 refine sd F rfl ent13 (w_rSameBag ex97 (H.pm 24 [13,23,0,1,2,3,4,5,6,7,8,9,10,11,12,14,15,16,17,18,19,20,21,22,23] rfl:):) ?_; rintro _ w a ⟨rfl, H⟩ F
 refine bb [0,0] F H rfl fun a F => ?_
 replace H := H.nf 24 rfl
 refine nl (wr ?_)
 cases hm
 refine x_ret1 F rfl rfl ?_
 exact ⟨_, rfl, rfl, (H.pm 24 [] rfl:)⟩
 replace hm := ifF hg96 hm
 replace F := F.vF 186 hg96 rfl
 refine bb (List.replicate 5 0) F H rfl fun a F => ?_
 replace H := H.nf 24 rfl
 refine nl (wr ?_)
 cases hm
 refine x_ret1 F rfl rfl ?_
 exact ⟨_, rfl, rfl, (H.pm 24 [] rfl:)⟩
 replace hm := ifF hg53 hm
 refine mix_regionK [23,24] [] (scL [0,1,2,3,4,5,6,7,8,9,10,1011,12,13,14,15,16,17,18,19,1020,21,1022,2023,2024,25,26]) [8] H rfl rfl (by kernel_rfl) (by kernel_rfl) fun w H => ?_
 refine mb [0,0] F H rfl fun a F => ?_
 refine m_pure F rfl rfl rfl rfl (fun u hu => y_neqBool (p := x22.2.1) (q := decide (x46.1 = q.1)) F rfl Tryz.underlying4 rfl rfl) fun a F => ?_
 refine mb [0] F H rfl fun a F => ?_
 replace F := F.nF 147 hg53 rfl
 refine mb (List.replicate 23 0) F H rfl fun a F => ?_
 refine m_nil ?_
 refine ct (cT F rfl ?_)
 refine sb [0] F H rfl fun a F => ?_
 refine nl (wr (tr ?_))
 cases hm
 refine x_ret1 F rfl rfl ?_
 exact ⟨_, rfl, rfl, (H.pm 18 [] rfl:)⟩
 replace hm := ifF hg45 hm
 refine qr H (by kernel_rfl) (by kernel_rfl) ?_
 refine qbk [0,0,0,0] F rfl ⟨⟨_, Tryz.underlying32⟩, trivial⟩ fun a F => ?_
 replace F := F.bF 133 hg45 rfl
 refine qb (List.replicate 11 0) F rfl fun a F => ?_
 refine q_nil fun w H => ?_
 refine ct (sq (sq ?_))
 by_cases hg98 : (x22.2.1) = (false)
 replace hm := ifT hg98 hm
 refine mix_regionK [23,24] [] (scL [0,1,2,3,4,5,6,7,8,9,10,1011,12,13,14,15,16,17,18,19,1020,21,1022,2023,2024,25,26]) [] H rfl rfl (by kernel_rfl) (by kernel_rfl) fun w H => ?_
 refine mb [0,0] F H rfl fun a F => ?_
 refine m_pure F rfl rfl rfl rfl (fun u hu => y_neqBool (p := x22.2.1) (q := false) F rfl Tryz.underlying4 rfl rfl) fun a F => ?_
 refine mb [0] F H rfl fun a F => ?_
 replace F := F.nT 147 hg98 rfl
 refine mbk [0,0,0,0,0,0,0,0,0,0,0,0,0,0,0,0,10000,1,10001] F H rfl ⟨fld28_0, rfl, plain26, fld28_1, rfl, plain3, trivial⟩ fun a F => ?_
 refine m_heavyOn F rfl rfl rfl rfl rfl ?_; refine g_onP F rfl rfl rfl rfl ?_
 obtain ⟨x99, ex99, hm⟩ := ob hm
 refine sd F rfl ent14 (w_m_triremeref08_From ex99 (H.pm 15 [7,9,0,1,2,3,4,5,6,7,8,9,10,11,12,13,14] rfl:):) ?_; rintro _ w a ⟨p100, c100, rfl, H⟩ F
 refine lz ?_; refine ct ⟨⟨_, H⟩, ?_⟩
 refine m_heavyOn F rfl rfl rfl rfl rfl ?_; refine g_onP F rfl rfl rfl rfl ?_
 obtain ⟨x101, ex101, hm⟩ := ob hm
 have H0 := H
 refine sd F rfl ent12 (w_m_triremeref06_SamePairs ex101 (sealC (H.sealB 4 rfl) (sealC (H.sealP 0 rfl rfl) (sealN _))).st:) ?_; rintro _ w a ⟨rfl, H⟩ F
 replace H := H0.unseal0 H; clear H0
 refine lz ?_; refine ct ⟨⟨_, H⟩, ?_⟩
 refine mb [0,0] F H rfl fun a F => ?_
 refine m_nil ?_
 refine ct (cB F rfl (fun hg102 => ?_) (fun hg102 => ?_))
 replace hm := ifT hg102 hm
 refine sb [0] F H rfl fun a F => ?_
 replace H := H.nf 16 rfl
 refine nl (wr (tr ?_))
 cases hm
 refine x_ret1 F rfl rfl ?_
 exact ⟨_, rfl, rfl, (H.pm 16 [] rfl:)⟩
 replace hm := ifF (nT hg102) hm
 refine sk (ct (sb [0] F H rfl fun a F => ?_))
 obtain ⟨x103, ex103, hm⟩ := ob hm
 refine sd F rfl ent15 (w_m_triremeref08_Build ex103 (H.pm 16 [8,0,1,2,3,4,5,6,7,8,9,10,11,12,13,14,15] rfl:):) ?_; rintro _ w a ⟨cs105, rfl, hl104, H⟩ F
 refine bb [0,0,0,0] F H rfl fun a F => ?_
 refine s_allocA wkP F rfl rfl rfl agz25 rfl H fun b106 w a H F => ?_
 replace H := H.owNil (rBytesN 32) 25
 replace H := H.owNil (rSl rByte) 26
 refine s_allocA wkP F rfl rfl rfl agz51 rfl H fun b107 w a H F => ?_
 refine s_storeA wkP F rfl rfl agg25 rfl rfl rfl H 3 rfl ((bcells_length _).trans hl104) ((bcells_length _).trans (List.length_replicate (n := 32))) (bcells_flat _) fun w H => ?_
 refine s_storeA wkP F rfl rfl agg51 rfl rfl rfl H 0 rfl (H.rcLen 4 rfl) rfl (H.rcFlat 4 rfl) fun w H => ?_
 refine bb [0] F H rfl fun a F => ?_
 replace H := H.nf 21 rfl
 refine nb [0] F H rfl fun a F => ?_
 refine s_call wkP F rfl rfl rfl rfl (y_call F rfl rfl ent16) (w_spoil16 (H.pm 21 [14,0,1,2,3,4,5,6,7,8,9,10,11,12,13,15,16,17,18,19,20] rfl:)) ?_; rintro _ w a ⟨rfl, H⟩ F
 replace H := H.nf 20 rfl
 refine nb [0] F H rfl fun a F => ?_
 refine s_call wkP F rfl rfl rfl rfl (y_call F rfl rfl ent16) (w_spoil16 (H.pm 20 [9,0,1,2,3,4,5,6,7,8,10,11,12,13,14,15,16,17,18,19] rfl:)) ?_; rintro _ w a ⟨rfl, H⟩ F
 replace H := H.nf 19 rfl
 refine nl (sr (bk [0,0] F H rfl ⟨fld51_0, trivial⟩ fun a F => ?_))
 have G := F; replace H := rc_triremeref08_Blocks (H.pk 4 rfl); obtain ⟨p108, c109, p110, c111, rfl, J⟩ := H; have H := J; have F := G; clear G J
 refine bk [2000] F H rfl ⟨rfl, plain41, trivial⟩ fun a F => ?_
 obtain ⟨x112, ex112, hm⟩ := ob hm
 refine sd F rfl ent18 (w_m_triremeref05_Sorted ex112 (H.pm 20 [0,0,1,2,3,4,5,6,7,8,9,10,11,12,13,14,15,16,17,18,19] rfl:):) ?_; rintro _ w a ⟨p113, c113, rfl, H⟩ F
 replace H := H.frz 10 rfl
 obtain ⟨x114, ex114, hm⟩ := ob hm
 refine sd F rfl ent17 (w_m_triremeref05_Same ex114 (H.pm 21 [0,1,0,1,2,3,4,5,6,7,8,9,10,11,12,13,14,15,16,17,18,19,20] rfl:):) ?_; rintro _ w a ⟨rfl, H⟩ F
 refine bb [0] F H rfl fun a F => ?_
 by_cases hg115 : x114 = true
 replace hm := ifT hg115 hm
 replace F := F.vT 186 hg115 rfl
 refine bb [0,0] F H rfl fun a F => ?_
 refine g_onP F rfl rfl rfl rfl ?_
 obtain ⟨x116, ex116, hm⟩ := ob hm
 refine sd F rfl ent13 (w_rSameBag ex116 (H.pm 21 [10,20,0,1,2,3,4,5,6,7,8,9,11,12,13,14,15,16,17,18,19,20] rfl:):) ?_; rintro _ w a ⟨rfl, H⟩ F
 refine bb [0,0] F H rfl fun a F => ?_
 replace H := H.nf 21 rfl
 refine nl (wr ?_)
 cases hm
 refine x_ret1 F rfl rfl ?_
 exact ⟨_, rfl, rfl, (H.pm 21 [] rfl:)⟩
 replace hm := ifF hg115 hm
 replace F := F.vF 186 hg115 rfl
 refine bb (List.replicate 5 0) F H rfl fun a F => ?_
 replace H := H.nf 21 rfl
 refine nl (wr ?_)
 cases hm
 refine x_ret1 F rfl rfl ?_
 exact ⟨_, rfl, rfl, (H.pm 21 [] rfl:)⟩
 replace hm := ifF hg98 hm
 refine mix_regionK [23,24] [] (scL [0,1,2,3,4,5,6,7,8,9,10,1011,12,13,14,15,16,17,18,19,1020,21,1022,2023,2024,25,26]) [] H rfl rfl (by kernel_rfl) (by kernel_rfl) fun w H => ?_
 refine mb [0,0] F H rfl fun a F => ?_
 refine m_pure F rfl rfl rfl rfl (fun u hu => y_neqBool (p := x22.2.1) (q := false) F rfl Tryz.underlying4 rfl rfl) fun a F => ?_
 refine mb [0] F H rfl fun a F => ?_
 replace F := F.nF 147 hg98 rfl
 refine mb (List.replicate 23 0) F H rfl fun a F => ?_
 refine m_nil ?_
 refine ct (cT F rfl ?_)
 refine sb [0] F H rfl fun a F => ?_
 refine nl (wr (tr ?_))
 cases hm
 refine x_ret1 F rfl rfl ?_
 exact ⟨_, rfl, rfl, (H.pm 15 [] rfl:)⟩
 refine bb (List.replicate 11 0) F H rfl fun a F => ?_
 refine nl (cT F rfl ?_)
 refine sb [0] F H rfl fun a F => ?_
 refine nl (wr (tr ?_))
 cases hm
 refine x_ret1 F rfl rfl ?_
 exact ⟨_, rfl, rfl, (H.pm 14 [] rfl:)⟩
 refine bb (List.replicate 16 0) F H rfl fun a F => ?_
 refine nl (cT F rfl ?_)
 refine sb [0] F H rfl fun a F => ?_
 refine nl (wr (tr ?_))
 cases hm
 refine x_ret1 F rfl rfl ?_
 exact ⟨_, rfl, rfl, (H.pm 14 [] rfl:)⟩
 refine bb (List.replicate 21 0) F H rfl fun a F => ?_
 refine nl (cT F rfl ?_)
 refine sb [0] F H rfl fun a F => ?_
 refine nl (wr (tr ?_))
 cases hm
 refine x_ret1 F rfl rfl ?_
 exact ⟨_, rfl, rfl, (H.pm 14 [] rfl:)⟩
 refine bb (List.replicate 26 0) F H rfl fun a F => ?_
 refine nl (cT F rfl ?_)
 refine sb [0] F H rfl fun a F => ?_
 refine nl (wr (tr ?_))
 cases hm
 refine x_ret1 F rfl rfl ?_
 exact ⟨_, rfl, rfl, (H.pm 14 [] rfl:)⟩
end Go.Proofs.YtnjemlkcamdbfaaGreatDoor
