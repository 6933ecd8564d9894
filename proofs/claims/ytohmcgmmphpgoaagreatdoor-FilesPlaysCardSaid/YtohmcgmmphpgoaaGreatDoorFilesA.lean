/- files -/
import Derived.Test.YtohmcgmmphpgoaaGreatDoorLibA
set_option linter.unusedSimpArgs false
set_option linter.unusedVariables false
namespace Go.Proofs.YtohmcgmmphpgoaaGreatDoor
open Go.RowKit Go.Tri
theorem elem23 : ElemT Tryz.prog 23 5 1 1 (.int .u8 0) := ⟨Tryz.underlying23, by kernel_rfl, by kernel_rfl, by decide⟩
set_option maxRecDepth 100000 in
set_option maxHeartbeats 4000000 in
theorem w_cloneB {s : List UInt8} {p1 : Option Addr} {c1 : Nat} {w0 w : World} {l : List HP}  {r : (List UInt8)} (hm : cloneB s = some r) (H : St w0 w (HP.sl rByte p1 c1 s :: l)) :
  Calls Tryz.prog 55 [.slice p1 (s).length c1].toArray w (fun e w' => ∃ v, e = .returned v ∧ ∃ (p2 : Option Addr) (c2 : Nat), v = .slice p2 (r).length c2 ∧ St w0 w' (HP.ow rByte 5 p2 c2 r :: l)) := by
 unfold cloneB at hm
 refine x_enter Tryz.func55 rfl rfl rfl ?_
 intro a F
 refine sr (bk [0] F H rfl trivial ?_); clear F; intro a F
 refine nl (sq (sr (bk [0] F H rfl trivial ?_))); clear F; intro a F
 obtain _ | ad := p1
 obtain ⟨hx0, hc0⟩ := H.slNone 0 rfl; subst hc0; try subst hx0
 replace H := H.dp 0 rfl
 refine s_val wkP F rfl rfl rfl rfl (y_eqNil F rfl Tryz.underlying23 rfl rfl (by simp)) ?_; clear F; intro a F
 refine nl (cT F rfl ?_)
 refine sr (bk [0] F H rfl trivial ?_); clear F; intro a F
 refine nl (wr (tr ?_))
 replace H := H.owNil rByte 5
 cases hm
 refine x_ret1 F rfl rfl ?_
 exact ⟨_, rfl, none, 0, rfl, H⟩
 refine s_val wkP F rfl rfl rfl rfl (y_eqSome F rfl Tryz.underlying23 rfl rfl (by simp)) ?_; clear F; intro a F
 refine nl (cF F rfl ?_)
 refine sk (ct (sr (s_build0O (R := rByte) wkP F rfl rfl rfl elem23 rfl H ?_))); clear F H; intro b3 w a H F
 refine bk [0] F H rfl trivial ?_; clear F; intro a F
 obtain ⟨x5, ex5, hm⟩ := ob hm
 refine s_app wkP F rfl rfl rfl rfl rfl rfl elem23 rfl ex5 H 0 1 rfl rfl ?_; clear F H; intro p4 c4 w a H F
 refine bk [0] F H rfl trivial ?_; clear F; intro a F
 replace H := H.nf 2 rfl
 refine nl (wr ?_)
 cases hm
 refine x_ret1 F rfl rfl ?_
 exact ⟨_, rfl, p4, c4, rfl, (H.pm 2 [0] rfl:)⟩
theorem fld88_0 : FieldT Tryz.prog 88 0 0 := by unfold FieldT; rw [Tryz.underlying88]; kernel_rfl
theorem zero23 : Zero1 Tryz.prog 23 (.slice none 0 0) := ⟨by kernel_rfl, rfl⟩
set_option maxRecDepth 100000 in
set_option maxHeartbeats 4000000 in
theorem w_penRaw {p : T_pack_Pen_o} {b : List UInt8} {bo0 : Nat} {p1 : Option Addr} {c1 : Nat} {w0 w : World} {l : List HP}  {r : T_pack_Pen_o} (hm : penRaw p b = some r) (H : St w0 w (O_pack_Pen bo0 p :: HP.sl rByte p1 c1 b :: l)) :
  Calls Tryz.prog 51 [.pointer (some ⟨bo0, 0, none⟩), .slice p1 (b).length c1].toArray w (fun e w' => ∃ v, e = .returned v ∧ v = .tuple [].toArray ∧ St w0 w' (O_pack_Pen bo0 r :: l)) := by
 unfold penRaw at hm
 refine x_enter Tryz.func51 rfl rfl rfl ?_
 intro a F
 refine rl (bk [0, 0, 0, 0] F H rfl ⟨fld88_0, trivial⟩ ?_); clear F; intro a F
 obtain ⟨p2, c3, H⟩ := O_pack_Pen_o (H.pk 0 rfl)
 refine bk [0, 0] F H rfl ⟨rfl, plain23, trivial⟩ ?_; clear F; intro a F
 obtain ⟨x5, ex5, hm⟩ := ob hm
 refine s_app wkP F rfl rfl rfl rfl rfl rfl elem23 rfl ex5 H 1 2 rfl rfl ?_; clear F H; intro p4 c4 w a H F
 refine bk [0, 0] F H rfl ⟨fld88_0, trivial⟩ ?_; clear F; intro a F
 refine s_st1 wkP F rfl rfl zero23 rfl rfl rfl rfl rfl H 0 rfl rfl ?_; clear H; intro w H
 replace H := H.nf 3 rfl
 refine lz ?_
 replace H := O_pack_Pen_s H
 cases hm
 refine x_end0 F rfl ?_
 exact ⟨_, rfl, rfl, (H.pm 2 [0] rfl:)⟩
theorem zero5 : Zero1 Tryz.prog 5 (.int .u8 0) := ⟨by kernel_rfl, rfl⟩
set_option maxRecDepth 100000 in
set_option maxHeartbeats 4000000 in
theorem w_penUint {p : T_pack_Pen_o} {n : Int} {size : Int} {bo0 : Nat} {w0 w : World} {l : List HP}  {r : Int × T_pack_Pen_o} (hm : penUint p n size = some r) (H : St w0 w (O_pack_Pen bo0 p :: l)) :
  Calls Tryz.prog 52 [.pointer (some ⟨bo0, 0, none⟩), .int .u64 (n), .int .i64 (size)].toArray w (fun e w' => ∃ v, e = .returned v ∧ v = .int .i64 (r.1) ∧ St w0 w' (O_pack_Pen bo0 r.2 :: l)) := by
 unfold penUint at hm
 refine x_enter Tryz.func52 rfl rfl rfl ?_
 intro a F
 refine sr (bk [0] F H rfl trivial ?_); clear F; intro a F
 refine nl (sq (sr (bk [0, 0, 0] F H rfl trivial ?_))); clear F; intro a F
 by_cases hg1 : size < 1
 replace hm := ifT hg1 hm
 replace F := F.bT 10 hg1 rfl
 refine bk (List.replicate 14 0) F H rfl trivial ?_; clear F; intro a F
 refine nl (cT F rfl ?_)
 refine sr (bk [0] F H rfl trivial ?_); clear F; intro a F
 refine nl (wr (tr ?_))
 cases hm
 refine x_ret1 F rfl rfl ?_
 exact ⟨_, rfl, rfl, H⟩
 replace hm := ifF hg1 hm
 replace F := F.bF 10 hg1 rfl
 refine bk [0, 0, 0, 0] F H rfl trivial ?_; clear F; intro a F
 by_cases hg2 : 8 < size
 replace hm := ifT hg2 hm
 replace F := F.bT 14 hg2 rfl
 refine bk (List.replicate 10 0) F H rfl trivial ?_; clear F; intro a F
 refine nl (cT F rfl ?_)
 refine sr (bk [0] F H rfl trivial ?_); clear F; intro a F
 refine nl (wr (tr ?_))
 cases hm
 refine x_ret1 F rfl rfl ?_
 exact ⟨_, rfl, rfl, H⟩
 replace hm := ifF hg2 hm
 replace F := F.bF 14 hg2 rfl
 refine bk [0, 0, 0] F H rfl trivial ?_; clear F; intro a F
 by_cases hg3 : size < 8
 replace hm := ifT hg3 hm
 replace F := F.bT 17 hg3 rfl
 refine bk [0, 0, 0] F H rfl trivial ?_; clear F; intro a F
 refine g_onP F rfl rfl rfl rfl ?_
 obtain ⟨x4, ex4, hm⟩ := ob hm
 refine s_val wkP F rfl rfl rfl rfl (i_shrO F rfl rfl rfl ex4) ?_; clear F; intro a F
 refine bk [0, 0, 0] F H rfl trivial ?_; clear F; intro a F
 refine nl (cP F rfl (fun hg5 => ?_) (fun hg5 => ?_))
 replace hm := ifT hg5 hm
 refine sr (bk [0] F H rfl trivial ?_); clear F; intro a F
 refine nl (wr (tr ?_))
 cases hm
 refine x_ret1 F rfl rfl ?_
 exact ⟨_, rfl, rfl, H⟩
 replace hm := ifF hg5 hm
 refine sk (ct (sq (sr (bk [0, 0, 0] F H rfl trivial ?_)))); clear F; intro a F
 refine nl ?_
 obtain ⟨r31, er31, hm31⟩ := ob hm; clear hm; revert er31; intro hm
 refine x_mid (fun aa ww => Fr ⟨45, []⟩ aa [] ∧ St w0 ww (O_pack_Pen bo0 r31 :: l)) ?_ ?_
 refine bl (x_loopO _ (fun (s48 : T_pack_Pen_o × Int) aa ww => Fr ⟨45, []⟩ aa [(0, .pointer (some ⟨bo0, 0, none⟩)), (1, .int .u64 (n)), (7, .int .i64 (s48.2))] ∧ St w0 ww (O_pack_Pen bo0 s48.1 :: l)) hm ⟨F.sl rfl, H⟩ ?_)
 clear F H hm
 rintro s48 a w o ⟨F, H⟩ hm
 refine sq (sr (bk [0, 0] F H rfl trivial ?_)); clear F; intro a F
 refine nl (cP F rfl (fun hg49 => ?_) (fun hg49 => ?_))
 replace hm := ifT hg49 hm
 refine sk (ct (sq (bl ?_)))
 obtain ⟨p50, c51, H⟩ := O_pack_Pen_o (H.pk 0 rfl)
 obtain ⟨x52, ex52, hm⟩ := ob hm
 refine mix_region [10, 11, 14] [14] (.step 0 0 (.step 0 1 (.step 0 2 (.step 0 3 (.step 0 4 (.step 0 5 (.step 0 6 (.step 0 7 (.step 0 8 (.step 0 9 (.step 2 10 (.step 2 11 (.step 0 12 (.step 0 13 (.step 3 14 .done))))))))))))))) (fun u => ∃ ls, St w0 u (HP.blk bo0 ([.slice p50 (s48.1).length c51]) 88 :: ls)) (by kernel_rfl) (by kernel_rfl) ⟨_, H.drew⟩ ?_
 replace H := H.drew
 generalize w.drew = w at H ⊢
 refine mbk [0, 0, 0, 0] F H rfl ⟨fld88_0, trivial⟩ ?_; clear F; intro a F
 refine m_pure F rfl rfl rfl rfl (fun u hu => y_load1 F plain23 rfl rfl (row_at (v := .slice p50 (s48.1).length c51) ((hu.choose_spec.blk 0 rfl).row) rfl)) ?_; clear F; intro a F
 refine mbk [0, 0, 0] F H rfl trivial ?_; clear F; intro a F
 refine m_pure F rfl rfl rfl rfl (fun u hu => i_shrO F rfl rfl rfl ex52) ?_; clear F; intro a F
 refine mbk [1] F H rfl ⟨Tryz.underlying91, Tryz.underlying5, trivial⟩ ?_; clear F; intro a F
 refine m_heavy rfl rfl ?_
 obtain ⟨x54, ex54, hm⟩ := ob hm
 refine s_buildC wkP F rfl rfl rfl elem23 zero5 rfl rfl rfl rfl (by simp [Value.cells]) (by decide) H ?_; clear F H; intro b53 w a H F
 replace H := H.blkOw1 (R := rByte) (x := x54) (fun gg => (congrArg (fun z => [Value.int .u8 z]) (u8O_some ex54).symm))
 refine lz ?_; refine ct ⟨⟨_, (H.pm 3 [1, 0, 2] rfl:)⟩, ?_⟩
 refine m_heavy rfl rfl ?_
 replace H := H.frz 0 rfl
 obtain ⟨x56, ex56, hm⟩ := ob hm
 refine s_app wkP F rfl rfl rfl rfl rfl rfl elem23 rfl ex56 H 2 0 rfl rfl ?_; clear F H; intro p55 c55 w a H F
 refine lz ?_; refine ct ⟨⟨_, (H.pm 3 [1, 0, 2] rfl:)⟩, ?_⟩
 refine mbk [0, 0] F H rfl ⟨fld88_0, trivial⟩ ?_; clear F; intro a F
 refine m_last rfl rfl ?_
 refine s_st1 wkP F rfl rfl zero23 rfl rfl rfl rfl rfl H 1 rfl rfl ?_; clear H; intro w H
 refine lz ?_; refine ct ?_
 refine m_nil ?_
 refine bn (ct (rl (bk [0, 0, 0] F H rfl trivial ?_))); clear F; intro a F
 replace H := H.nf 3 rfl
 refine lz ?_
 replace H := O_pack_Pen_s (H.pm 3 [1, 2, 0] rfl:)
 refine ct ?_; cases hm
 exact ⟨_, rfl, ⟨F.sl rfl, (H.pm 2 [0] rfl:)⟩⟩
 replace hm := ifF hg49 hm
 refine ex (cx (cx ?_)); cases hm; refine ⟨_, rfl, ?_⟩; rintro rfl
 refine ch (ct ?_)
 exact ⟨F.cut _ trivial, H⟩
 clear F H hm
 rintro a w ⟨F, H⟩; have hm := hm31; clear hm31
 refine ct (sr (bk [0] F H rfl trivial ?_)); clear F; intro a F
 refine nl (wr ?_)
 cases hm
 refine x_ret1 F rfl rfl ?_
 exact ⟨_, rfl, rfl, H⟩
 replace hm := ifF hg3 hm
 replace F := F.bF 17 hg3 rfl
 refine bk (List.replicate 7 0) F H rfl trivial ?_; clear F; intro a F
 refine nl (cF F rfl ?_)
 refine sk (ct (sq (sr (bk [0, 0, 0] F H rfl trivial ?_)))); clear F; intro a F
 refine nl ?_
 obtain ⟨r82, er82, hm82⟩ := ob hm; clear hm; revert er82; intro hm
 refine x_mid (fun aa ww => Fr ⟨45, []⟩ aa [] ∧ St w0 ww (O_pack_Pen bo0 r82 :: l)) ?_ ?_
 refine bl (x_loopO _ (fun (s99 : T_pack_Pen_o × Int) aa ww => Fr ⟨45, []⟩ aa [(0, .pointer (some ⟨bo0, 0, none⟩)), (1, .int .u64 (n)), (7, .int .i64 (s99.2))] ∧ St w0 ww (O_pack_Pen bo0 s99.1 :: l)) hm ⟨F.sl rfl, H⟩ ?_)
 clear F H hm
 rintro s99 a w o ⟨F, H⟩ hm
 refine sq (sr (bk [0, 0] F H rfl trivial ?_)); clear F; intro a F
 refine nl (cP F rfl (fun hg100 => ?_) (fun hg100 => ?_))
 replace hm := ifT hg100 hm
 refine sk (ct (sq (bl ?_)))
 obtain ⟨p101, c102, H⟩ := O_pack_Pen_o (H.pk 0 rfl)
 obtain ⟨x103, ex103, hm⟩ := ob hm
 refine mix_region [10, 11, 14] [14] (.step 0 0 (.step 0 1 (.step 0 2 (.step 0 3 (.step 0 4 (.step 0 5 (.step 0 6 (.step 0 7 (.step 0 8 (.step 0 9 (.step 2 10 (.step 2 11 (.step 0 12 (.step 0 13 (.step 3 14 .done))))))))))))))) (fun u => ∃ ls, St w0 u (HP.blk bo0 ([.slice p101 (s99.1).length c102]) 88 :: ls)) (by kernel_rfl) (by kernel_rfl) ⟨_, H.drew⟩ ?_
 replace H := H.drew
 generalize w.drew = w at H ⊢
 refine mbk [0, 0, 0, 0] F H rfl ⟨fld88_0, trivial⟩ ?_; clear F; intro a F
 refine m_pure F rfl rfl rfl rfl (fun u hu => y_load1 F plain23 rfl rfl (row_at (v := .slice p101 (s99.1).length c102) ((hu.choose_spec.blk 0 rfl).row) rfl)) ?_; clear F; intro a F
 refine mbk [0, 0, 0] F H rfl trivial ?_; clear F; intro a F
 refine m_pure F rfl rfl rfl rfl (fun u hu => i_shrO F rfl rfl rfl ex103) ?_; clear F; intro a F
 refine mbk [1] F H rfl ⟨Tryz.underlying91, Tryz.underlying5, trivial⟩ ?_; clear F; intro a F
 refine m_heavy rfl rfl ?_
 obtain ⟨x105, ex105, hm⟩ := ob hm
 refine s_buildC wkP F rfl rfl rfl elem23 zero5 rfl rfl rfl rfl (by simp [Value.cells]) (by decide) H ?_; clear F H; intro b104 w a H F
 replace H := H.blkOw1 (R := rByte) (x := x105) (fun gg => (congrArg (fun z => [Value.int .u8 z]) (u8O_some ex105).symm))
 refine lz ?_; refine ct ⟨⟨_, (H.pm 3 [1, 0, 2] rfl:)⟩, ?_⟩
 refine m_heavy rfl rfl ?_
 replace H := H.frz 0 rfl
 obtain ⟨x107, ex107, hm⟩ := ob hm
 refine s_app wkP F rfl rfl rfl rfl rfl rfl elem23 rfl ex107 H 2 0 rfl rfl ?_; clear F H; intro p106 c106 w a H F
 refine lz ?_; refine ct ⟨⟨_, (H.pm 3 [1, 0, 2] rfl:)⟩, ?_⟩
 refine mbk [0, 0] F H rfl ⟨fld88_0, trivial⟩ ?_; clear F; intro a F
 refine m_last rfl rfl ?_
 refine s_st1 wkP F rfl rfl zero23 rfl rfl rfl rfl rfl H 1 rfl rfl ?_; clear H; intro w H
 refine lz ?_; refine ct ?_
 refine m_nil ?_
 refine bn (ct (rl (bk [0, 0, 0] F H rfl trivial ?_))); clear F; intro a F
 replace H := H.nf 3 rfl
 refine lz ?_
 replace H := O_pack_Pen_s (H.pm 3 [1, 2, 0] rfl:)
 refine ct ?_; cases hm
 exact ⟨_, rfl, ⟨F.sl rfl, (H.pm 2 [0] rfl:)⟩⟩
 replace hm := ifF hg100 hm
 refine ex (cx (cx ?_)); cases hm; refine ⟨_, rfl, ?_⟩; rintro rfl
 refine ch (ct ?_)
 exact ⟨F.cut _ trivial, H⟩
 clear F H hm
 rintro a w ⟨F, H⟩; have hm := hm82; clear hm82
 refine ct (sr (bk [0] F H rfl trivial ?_)); clear F; intro a F
 refine nl (wr ?_)
 cases hm
 refine x_ret1 F rfl rfl ?_
 exact ⟨_, rfl, rfl, H⟩
theorem ent55 : ∀ args w, (callFunc 55 args).run Tryz.prog w = .ok (.enter 55 args) w := enters Tryz.func55 (by kernel_rfl) rfl
set_option maxRecDepth 100000 in
set_option maxHeartbeats 4000000 in
theorem w_penData {p : T_pack_Pen_o} {bo0 : Nat} {w0 w : World} {l : List HP}  {r : (List UInt8) × T_pack_Pen_o} (hm : penData p = some r) (H : St w0 w (O_pack_Pen bo0 p :: l)) :
  Calls Tryz.prog 53 [.pointer (some ⟨bo0, 0, none⟩)].toArray w (fun e w' => ∃ v, e = .returned v ∧ ∃ (p1 : Option Addr) (c1 : Nat), v = .slice p1 (r.1).length c1 ∧ St w0 w' (HP.ow rByte 5 p1 c1 r.1 :: O_pack_Pen_1 bo0 r.2 :: l)) := by
 unfold penData at hm
 refine x_enter Tryz.func53 rfl rfl rfl ?_
 intro a F
 refine sr (bk [0] F H rfl trivial ?_); clear F; intro a F
 refine nl (sr (bk [0, 0, 0] F H rfl ⟨fld88_0, trivial⟩ ?_)); clear F; intro a F
 obtain ⟨p2, c3, H⟩ := O_pack_Pen_o (H.pk 0 rfl)
 refine bk [0] F H rfl ⟨rfl, plain23, trivial⟩ ?_; clear F; intro a F
 replace H := H.frz 1 rfl
 obtain ⟨x4, ex4, hm⟩ := ob hm
 refine sc wkP F rfl ent55 (w_cloneB ex4 (H.pm 2 [0, 0, 1] rfl:):) ?_; clear F H; rintro _ w a ⟨p5, c5, rfl, H⟩ F
 refine bk [0] F H rfl trivial ?_; clear F; intro a F
 replace H := H.nf 3 rfl
 refine nl (wr ?_)
 replace H := O_pack_Pen_1_s (H.pm 3 [2, 1, 0, 1] rfl:)
 cases hm
 refine x_ret1 F rfl rfl ?_
 exact ⟨_, rfl, p5, c5, rfl, (H.pm 3 [1, 0] rfl:)⟩
theorem plain3 : Plain Tryz.prog 3 := by unfold Plain; rw [Tryz.underlying3]; rfl
theorem w_mk54 (p : Option Addr) (n c : Nat) (x : Int) {m : Nat} (hx : x = ((m : Nat) : Int)) (hm : 0 < m) (w0 w : World) (l : List HP) (H : St w0 w l) :
  Calls Tryz.prog 54 [.slice p n c, .int .i64 x].toArray w (fun e w' => ∃ v, e = .returned v ∧ ∃ b0 b1, v = .func (.func 75) #[] [.pointer (some ⟨b0, 0, none⟩), .pointer (some ⟨b1, 0, none⟩)].toArray ∧ St w0 w' (HP.blk b1 [.int .i64 ((m : Nat) : Int)] 3 :: HP.blk b0 [.slice p n c] 23 :: l)) := by
 subst hx
 refine x_enter Tryz.func54 rfl rfl rfl ?_
 intro a F
 replace F : Fr ⟨9, []⟩ a [(0, .slice p n c), (1, .int .i64 ((m : Nat) : Int))] := F
 refine wp_seq ?_
 refine r_lit ?_
 refine s_box1 wkP F rfl rfl rfl rfl rfl rfl H ?_; clear F H; intro b0 w a H F
 refine s_box1 wkP F rfl rfl rfl rfl rfl rfl H ?_; clear F H; intro b1 w a H F
 refine s_val wkP F rfl rfl rfl rfl (y_assign F rfl rfl) ?_; clear F; intro a F
 refine wpList_nil ?_
 refine c_then ?_
 refine wp_seq ?_
 refine wp_seq ?_
 refine r_lit ?_
 refine s_val wkP F rfl rfl rfl rfl (y_load1 F plain3 rfl rfl ((H.blk 0 rfl).cell _)) ?_; clear F; intro a F
 refine s_val wkP F rfl rfl rfl rfl (y_lss F rfl rfl rfl) ?_; clear F; intro a F
 refine wpList_nil ?_
 refine c_then ?_
 refine x_condP F rfl (fun hc => absurd hc (by omega)) (fun hc => ?_)
 refine wp_skip ?_
 refine c_then ?_
 refine wp_seq ?_
 refine r_lit ?_
 refine s_val wkP F rfl rfl rfl rfl (y_makeFunc F rfl rfl) ?_; clear F; intro a F
 refine s_val wkP F rfl rfl rfl rfl (y_assign F rfl rfl) ?_; clear F; intro a F
 refine wpList_nil ?_
 refine c_then ?_
 refine wp_ret ?_
 refine x_ret1 F rfl rfl ?_
 exact ⟨_, rfl, b0, b1, rfl, H⟩
set_option maxHeartbeats 2000000 in
theorem seq75 (b0 b1 : Nat) (p : Option Addr) (c : Nat) (xs : List UInt8) (n : Nat) (hn : 0 < n) (hm : n ≤ 9223372036854775807) (hmx : xs.length ≤ 1152921504606846976) :
    SeqC Tryz.prog 75 [.pointer (some ⟨b0, 0, none⟩), .pointer (some ⟨b1, 0, none⟩)] (fun z : Nat × List UInt8 => [.slice (shp p (z.1 + z.2.length) z.1 1) z.2.length z.2.length]) [HP.blk b1 [.int .i64 ((n : Nat) : Int)] 3, HP.blk b0 [.slice p xs.length c] 23, HP.sl rByte p c xs] (fun pre x => ∃ post, chunkZ n xs = pre ++ x :: post) (fun pre => pre = chunkZ n xs) := by
 intro L w0 G E J KK next stop g0 hY W fr H
 refine xii_enter Tryz.func75 rfl rfl rfl ?_
 intro a F
 replace F : Fr ⟨31, []⟩ a [(0, .func (.yield L) #[] #[]), (1, .pointer (some ⟨b0, 0, none⟩)), (2, .pointer (some ⟨b1, 0, none⟩))] := F
 have H : St w0 W ([HP.blk b1 [.int .i64 ((n : Nat) : Int)] 3, HP.blk b0 [.slice p xs.length c] 23, HP.sl rByte p c xs] ++ (J g0 ++ fr)) := H.perm perm_mid
 have hcap := H.slCap 2 rfl
 refine wpIn_seq ?_
 refine ri_lit ?_
 refine s_val wkI F rfl rfl rfl rfl (y_assign F rfl rfl) ?_; clear F; intro a F
 refine wpListIn_nil ?_
 refine c_then ?_
 refine wpIn_block ?_
 refine xi_loop (fun (q : G × Nat × Int) aa ww => (q.2.2 = ((q.2.1 * n : Nat) : Int)) ∧ Rn next g0 ((chunkZ n xs).take q.2.1) q.1 ∧ Fr ⟨31, []⟩ aa [(0, .func (.yield L) #[] #[]), (1, .pointer (some ⟨b0, 0, none⟩)), (2, .pointer (some ⟨b1, 0, none⟩)), (4, .int .i64 q.2.2)] ∧ St w0 ww ([HP.blk b1 [.int .i64 ((n : Nat) : Int)] 3, HP.blk b0 [.slice p xs.length c] 23, HP.sl rByte p c xs] ++ (J q.1 ++ fr))) (fun q => xs.length - q.2.1) (g0, 0, 0) ⟨by simp, by show Rn next g0 ((chunkZ n xs).take 0) g0; rw [List.take_zero]; rfl, F.cut _ ⟨rfl, rfl, rfl, rfl, trivial⟩, H⟩ ?_
 clear F H
 rintro ⟨g, k, i⟩ a w ⟨hi, hrn, F, H⟩
 simp only at hi hrn F H
 refine wpIn_seq ?_
 refine wpIn_seq ?_
 refine ri_lit ?_
 refine s_val wkI F rfl rfl rfl rfl (y_move F rfl rfl) ?_; clear F; intro a F
 refine s_val wkI F rfl rfl rfl rfl (y_load1 F plain23 rfl rfl ((H.blk 1 rfl).cell _)) ?_; clear F; intro a F
 refine s_val wkI F rfl rfl rfl rfl (y_lenS F rfl Tryz.underlying23 rfl) ?_; clear F; intro a F
 refine s_val wkI F rfl rfl rfl rfl (y_lss F rfl rfl rfl) ?_; clear F; intro a F
 refine wpListIn_nil ?_
 refine c_then ?_
 refine xi_condP F rfl (fun hc => ?_) (fun hc => ?_)
 · refine wpIn_skip ?_
   refine c_then ?_
   have hkl : k * n < xs.length := by omega
   have hat := chunkZ_at hn hkl
   obtain ⟨y, hy⟩ : ∃ y, y = (xs.drop (k * n)).take n := ⟨_, rfl⟩
   rw [← hy] at hat
   have hmem : (k * n, y) ∈ chunkZ n xs := List.mem_of_getElem? hat
   have hyl : y.length = min n (xs.length - k * n) := by rw [hy]; simp
   have hsl := chunk_slc hkl hy
   have hsl1 : slcO xs ((k * n : Nat) : Int) ((xs.length : Nat) : Int) = some (xs.drop (k * n)) := by unfold slcO; rw [if_pos (by omega), Int.toNat_natCast, Int.toNat_natCast, List.take_length]
   have hkn : 0 < k → n ≤ k * n := fun h => Nat.le_mul_of_pos_left n h
   have hs2 : (k + 1) * n = k * n + n := Nat.succ_mul k n
   have hle : (k + 1) * n ≤ 9223372036854775807 := by
     rcases Nat.eq_zero_or_pos k with h0 | h0
     · subst h0; omega
     · have := hkn h0; omega
   have hw1 : IntKind.i64.wrap (((k * n : Nat) : Int) + ((y.length : Nat) : Int)) = ((k * n + y.length : Nat) : Int) := wrap_i64 (by omega) (by omega) (by omega)
   have hw2 : IntKind.i64.wrap (((k * n : Nat) : Int) + ((n : Nat) : Int)) = (((k + 1) * n : Nat) : Int) := wrap_i64 (by omega) (by omega) (by omega)
   subst hi
   refine wpIn_seq ?_
   refine wpIn_block ?_
   refine wpIn_seq ?_
   refine qri H (by kernel_rfl) (by kernel_rfl) ?_
   refine q_val F rfl rfl rfl (fun u hu => y_load1 F plain3 rfl rfl ((hu.blk 0 rfl).cell _)) ?_; clear F; intro a F
   refine q_val F rfl rfl rfl (fun u hu => y_load1 F plain23 rfl rfl ((hu.blk 1 rfl).cell _)) ?_; clear F; intro a F
   refine q_val F rfl rfl rfl (fun u hu => y_move F rfl rfl) ?_; clear F; intro a F
   refine q_val F rfl rfl rfl (fun u hu => y_slL F elem23 rfl rfl rfl hsl1 hcap) ?_; clear F; intro a F
   refine q_val F rfl rfl rfl (fun u hu => y_lenS F rfl Tryz.underlying23 rfl) ?_; clear F; intro a F
   refine q_val F rfl rfl rfl (fun u hu => y_min F rfl rfl rfl (r := ((y.length : Nat) : Int)) (by rw [List.length_drop, hyl]; omega)) ?_; clear F; intro a F
   refine q_val F rfl rfl rfl (fun u hu => y_assign F rfl rfl) ?_; clear F; intro a F
   refine q_nil ?_
   clear H; intro w H
   refine c_then ?_
   refine wpIn_seq ?_
   refine ri_lit ?_
   refine s_val wkI F rfl rfl rfl rfl (y_move F rfl rfl) ?_; clear F; intro a F
   refine s_val wkI F rfl rfl rfl rfl (y_load1 F plain23 rfl rfl ((H.blk 1 rfl).cell _)) ?_; clear F; intro a F
   refine s_val wkI F rfl rfl rfl rfl (y_move F rfl rfl) ?_; clear F; intro a F
   refine s_val wkI F rfl rfl rfl rfl (y_move F rfl rfl) ?_; clear F; intro a F
   refine s_val wkI F rfl rfl rfl rfl (y_move F rfl rfl) ?_; clear F; intro a F
   refine s_val wkI F rfl rfl rfl rfl (y_add F rfl rfl rfl hw1) ?_; clear F; intro a F
   refine s_val wkI F rfl rfl rfl rfl (y_move F rfl rfl) ?_; clear F; intro a F
   refine s_val wkI F rfl rfl rfl rfl (y_move F rfl rfl) ?_; clear F; intro a F
   refine s_val wkI F rfl rfl rfl rfl (y_add F rfl rfl rfl hw1) ?_; clear F; intro a F
   refine s_val wkI F rfl rfl rfl rfl (y_slLHM F elem23 rfl rfl rfl rfl rfl hsl hcap) ?_; clear F; intro a F
   rw [Int.toNat_natCast, Int.toNat_natCast, Nat.add_sub_cancel_left] at F
   have hadm : ∃ post, chunkZ n xs = (chunkZ n xs).take k ++ (k * n, y) :: post := by
     refine ⟨(chunkZ n xs).drop (k + 1), ?_⟩
     obtain ⟨h2, h3⟩ := List.getElem?_eq_some_iff.1 hat
     rw [← h3, ← List.drop_eq_getElem_cons h2, List.take_append_drop]
   refine si_yield F rfl rfl rfl rfl rfl rfl (R := fun bo W' => (bo = true ∧ ∃ g', next g (k * n, y) g' ∧ St w0 W' (J g' ++ ([HP.blk b1 [.int .i64 ((n : Nat) : Int)] 3, HP.blk b0 [.slice p xs.length c] 23, HP.sl rByte p c xs] ++ fr))) ∨ (bo = false ∧ ∃ kk, stop g (k * n, y) kk ∧ St w0 W' (KK kk ++ ([HP.blk b1 [.int .i64 ((n : Nat) : Int)] 3, HP.blk b0 [.slice p xs.length c] 23, HP.sl rByte p c xs] ++ fr)))) (YieldI.mono (hY _ g (k * n, y) _ ([HP.blk b1 [.int .i64 ((n : Nat) : Int)] 3, HP.blk b0 [.slice p xs.length c] 23, HP.sl rByte p c xs] ++ fr) hadm hrn (H.perm (perm_mid (A := [HP.blk b1 [.int .i64 ((n : Nat) : Int)] 3, HP.blk b0 [.slice p xs.length c] 23, HP.sl rByte p c xs])))) ?_) ?_
   · rintro ee W' (⟨g', rfl, hn, H'⟩ | ⟨kk, rfl, hs, H'⟩)
     · exact ⟨true, rfl, .inl ⟨rfl, g', hn, H'⟩⟩
     · exact ⟨false, rfl, .inr ⟨rfl, kk, hs, H'⟩⟩
   intro bo w a hR F
   refine s_val wkI F rfl rfl rfl rfl (y_not F rfl rfl) ?_; clear F; intro a F
   refine wpListIn_nil ?_
   refine c_then ?_
   rcases hR with ⟨rfl, g', hn2, H⟩ | ⟨rfl, kk, hst, H⟩
   · refine xi_condF F rfl ?_
     refine wpIn_skip ?_
     refine c_blkN ?_
     refine c_then ?_
     replace H : St w0 w ([HP.blk b1 [.int .i64 ((n : Nat) : Int)] 3, HP.blk b0 [.slice p xs.length c] 23, HP.sl rByte p c xs] ++ (J g' ++ fr)) := H.perm (perm_mid (A := J g'))
     refine ri_lit ?_
     refine s_val wkI F rfl rfl rfl rfl (y_move F rfl rfl) ?_; clear F; intro a F
     refine s_val wkI F rfl rfl rfl rfl (y_load1 F plain3 rfl rfl ((H.blk 0 rfl).cell _)) ?_; clear F; intro a F
     refine s_val wkI F rfl rfl rfl rfl (y_add F rfl rfl rfl hw2) ?_; clear F; intro a F
     refine s_val wkI F rfl rfl rfl rfl (y_assign F rfl rfl) ?_; clear F; intro a F
     refine wpListIn_nil ?_
     refine c_then ⟨(g', k + 1, _), ⟨rfl, ?_, F.cut _ ⟨rfl, rfl, rfl, rfl, trivial⟩, H⟩, ?_⟩
     · show Rn next g0 ((chunkZ n xs).take (k + 1)) g'
       rw [List.take_add_one, hat]
       exact Rn.snoc hrn hn2
     · show xs.length - (k + 1) < xs.length - k
       have : k ≤ k * n := Nat.le_mul_of_pos_right k hn
       omega
   · refine xi_condT F rfl ?_
     refine wpIn_ret ?_
     refine c_blkR ?_
     refine c_thenR ?_
     refine c_thenR ?_
     refine c_blkR ?_
     refine xi_ret0 F rfl ?_
     exact ⟨_, rfl, .inr ⟨_, g, (k * n, y), kk, hadm, hrn, hst, H⟩⟩
 · refine wpIn_exit ?_
   refine c_thenX ?_
   refine c_thenX ?_
   refine c_hit ?_
   refine xi_end0 F rfl ?_
   rw [chunkZ_all hn (by omega)] at hrn
   exact ⟨_, rfl, .inl ⟨_, g, rfl, hrn, H.perm (perm_mid (A := [HP.blk b1 [.int .i64 ((n : Nat) : Int)] 3, HP.blk b0 [.slice p xs.length c] 23, HP.sl rByte p c xs]))⟩⟩
theorem agz71 : AggT Tryz.prog 71 2 ([.bool false, .slice none (([] : List UInt8)).length 0]) := ⟨by rw [Tryz.underlying71]; rfl, by kernel_rfl, by kernel_rfl⟩
theorem ent49 : ∀ args w, (callFunc 49 args).run Tryz.prog w = .ok (.enter 49 args) w := enters Tryz.func49 (by kernel_rfl) rfl
theorem agg71 : AggT Tryz.prog 71 2 [.bool false, .slice none 0 0] := ⟨by rw [Tryz.underlying71]; rfl, by kernel_rfl, by kernel_rfl⟩
theorem aggz71 : AggT Tryz.prog 71 2 ([Value.bool false] ++ [Value.slice none 0 0]) := ⟨by rw [Tryz.underlying71]; rfl, by kernel_rfl, by kernel_rfl⟩
theorem ent104 : ∀ args w, (callFunc 104 args).run Tryz.prog w = .ok (.enter 104 args) w := enters Tryz.func104 (by kernel_rfl) rfl
theorem fld71_0 : FieldT Tryz.prog 71 0 0 := by unfold FieldT; rw [Tryz.underlying71]; kernel_rfl
theorem plain4 : Plain Tryz.prog 4 := by unfold Plain; rw [Tryz.underlying4]; rfl
set_option maxRecDepth 100000 in
set_option maxHeartbeats 4000000 in
theorem w_sLook {s : (List UInt8) → Option T_files_file} {p : List UInt8} {q1 : Option Nat} {w0 w : World} {l : List HP}  {r : T_files_file × Int} (hm : sLook s p = some r) (H : St w0 w (HP.mm q1 ekStr true R_files_file (fun _ => True) s :: l)) :
  Calls Tryz.prog 79 [.map q1, .string (txb (p))].toArray w (fun e w' => ∃ v, e = .returned v ∧ ∃ (cs2 : List Value), v = .tuple [.agg cs2.toArray, .int .i64 (r.2)].toArray ∧ St w0 w' (HP.rc R_files_file cs2 r.1 :: HP.mm q1 ekStr true R_files_file (fun _ => True) s :: l)) := by
 unfold sLook at hm
 refine x_enter Tryz.func79 rfl rfl rfl ?_
 intro a F
 refine sr ?_
 replace H := H.owNil rByte 5
 refine s_allocA wkP F rfl rfl rfl agz71 rfl H ?_; clear F H; intro b3 w a H F
 refine bk [0] F H rfl trivial ?_; clear F; intro a F
 replace H := H.nf 3 rfl
 refine nl (sq (sr (bk [0] F H rfl trivial ?_))); clear F; intro a F
 obtain ⟨x4, ex4, hm⟩ := ob hm
 refine sc wkP F rfl ent49 (w_m_path_Check ex4 H:) ?_; clear F H; rintro _ w a ⟨rfl, H⟩ F
 refine bk [0] F H rfl trivial ?_; clear F; intro a F
 replace H := H.nf 3 rfl
 refine nl (sr (bk [0, 0] F H rfl trivial ?_)); clear F; intro a F
 refine nl (cN F rfl (fun hg5 => ?_) (fun hg5 => ?_))
 replace hm := ifF hg5 hm
 refine sr ?_
 replace H := H.owNil rByte 5
 refine s_val wkP F rfl rfl rfl rfl (y_build F rfl rfl (cs := [.bool false, .slice none (([] : List UInt8)).length 0]) (by kernel_rfl)) ?_; clear F; intro a F
 refine bk [0] F H rfl trivial ?_; clear F; intro a F
 refine s_storeA wkP F rfl rfl agg71 rfl rfl rfl H 1 rfl (by simp only [List.length_append, List.length_cons, List.length_nil, icells_length, bcells_length]) (by simp only [List.length_append, List.length_cons, List.length_nil, icells_length, bcells_length]) (by intro v hv; simp only [List.mem_append, List.mem_cons, List.not_mem_nil, or_false] at hv; first | (rcases hv with h | h <;> first | (subst h; rfl) | exact bcells_flat _ _ h | exact icells_flat _ _ _ h | (rcases h with h | h <;> first | (subst h; rfl) | exact bcells_flat _ _ h | exact icells_flat _ _ _ h | (rcases h with h | h <;> first | (subst h; rfl) | exact bcells_flat _ _ h | (rcases h with h | h <;> first | (subst h; rfl) | (rcases h with h | h <;> (subst h; rfl)))))) | (subst hv; rfl)) ?_; clear H; intro w H
 refine bk [0] F H rfl trivial ?_; clear F; intro a F
 replace H := H.nf 4 rfl
 refine nl (wr (tr ?_))
 replace H := H.frz 0 rfl
 replace H := H.mkRc (R := R_files_file) (cs := [.bool false, .slice none (([] : List UInt8)).length 0]) (x := (false, ([] : List UInt8))) (fun gg => ⟨_, _, rfl, rfl, ⟨_, _, rfl, (gg 0 _ rfl).choose_spec⟩⟩)
 cases hm
 refine x_resC2 F rfl (⟨_, rfl, agg71.run_load (H.blk 2 rfl).row (by simp only [List.length_append, List.length_cons, List.length_nil, icells_length, bcells_length])⟩) rfl ?_
 exact ⟨_, rfl, [.bool false, .slice none (([] : List UInt8)).length 0], rfl, (H.pm 5 [0, 4] rfl:)⟩
 replace hm := ifT hg5 hm
 refine sk (ct (sq (sr (bk [0] F H rfl trivial ?_)))); clear F; intro a F
 obtain ⟨x6, ex6, hm⟩ := ob hm
 refine sc wkP F rfl ent104 (w_m_path_Ancestors ex6 H:) ?_; clear F H; rintro _ w a ⟨p7, c7, rfl, H⟩ F
 refine bk [0, 0] F H rfl ⟨⟨_, Tryz.underlying35⟩, trivial⟩ ?_; clear F; intro a F
 replace H := H.nf 4 rfl
 refine nl ?_
 obtain ⟨o42, eo42, hm42⟩ := ob hm; clear hm; revert eo42; intro hm
 refine x_mid (fun aa ww => ∃ r42, o42 = Sum.inl r42 ∧ Fr ⟨52, []⟩ aa [(0, .map q1), (1, .string (txb (p))), (4, .pointer (some ⟨b3, 0, none⟩))] ∧ St w0 ww (HP.blk b3 ([.bool false, .slice none (([] : List UInt8)).length 0]) 71 :: HP.ow rByte 5 none 0 ([] : List UInt8) :: HP.mm q1 ekStr true R_files_file (fun _ => True) s :: l)) ?_ ?_
 refine bl ?_
 refine x_loopO _ (fun (s65 : Int) aa ww => Fr ⟨52, []⟩ aa [(0, .map q1), (1, .string (txb (p))), (4, .pointer (some ⟨b3, 0, none⟩)), (20, .slice p7 (x6).length c7), (21, .int .i64 (((x6).length : Int))), (22, .int .i64 (s65))] ∧ St w0 ww (HP.sl rStr p7 c7 x6 :: HP.blk b3 ([.bool false, .slice none (([] : List UInt8)).length 0]) 71 :: HP.ow rByte 5 none 0 ([] : List UInt8) :: HP.mm q1 ekStr true R_files_file (fun _ => True) s :: l)) hm ⟨F.sl rfl, H⟩ ?_
 clear F H hm
 rintro s65 a w o ⟨F, H⟩ hm
 refine sr (bk [0] F H rfl trivial ?_); clear F; intro a F
 refine nl (sq (cP F rfl (fun hg66 => ?_) (fun hg66 => ?_)))
 replace hm := ifT hg66 hm
 refine sk (ct (sq (bl (sr ?_))))
 obtain ⟨x67, ex67, hm⟩ := ob hm
 obtain ⟨b68, o68, hp68⟩ := H.slP 0 rfl (idxO_some ex67).2
 obtain ⟨cs69, hcl69, H⟩ := H.slEl 0 rfl hp68 (idxO_some ex67).2
 obtain rfl := H.rcStr 1 rfl
 replace H := H.dp 1 rfl
 clear hcl69
 refine s_val wkP F rfl rfl rfl rfl (y_idxS F elem35 rfl rfl rfl hp68 ex67) ?_; clear F; intro a F
 refine bk [0, 0] F H rfl ⟨rfl, plain9, trivial⟩ ?_; clear F; intro a F
 refine nl (sr (bk [0, 0] F H rfl trivial ?_)); clear F; intro a F
 obtain ⟨es70, H⟩ := H.mmOpen 4 rfl
 obtain ⟨cs71, hcs71, H⟩ := H.mxGet 4 rfl x67 (zc := ([Value.bool false] ++ [Value.slice none 0 0])) (z0 := (false, [])) (fun B => ⟨_, _, rfl, (fun _ => rfl) B, ((fun _ => rSl_nil _ _) B)⟩)
 refine s_val wkP F rfl rfl rfl rfl (y_mxGet2 (agg := true) (zc := ([Value.bool false] ++ [Value.slice none 0 0])) F Tryz.underlying65 (keyStr Tryz.underlying9) (fun w => aggz71.run_zero w) rfl H 5 rfl rfl (k := x67) rfl trivial hcs71) ?_; clear F; intro a F
 refine bk [0, 0, 0] F H rfl trivial ?_; clear F; intro a F
 replace H := H.owNil rByte 5
 refine s_allocA wkP F rfl rfl rfl agz71 rfl H ?_; clear F H; intro b72 w a H F
 refine s_storeA wkP F rfl rfl agg71 rfl rfl rfl H 0 rfl (H.rcLen 2 rfl) (by simp only [List.length_append, List.length_cons, List.length_nil, icells_length, bcells_length]) (H.rcFlat 2 rfl) ?_; clear H; intro w H
 refine bk [0] F H rfl trivial ?_; clear F; intro a F
 replace H := H.nf 8 rfl
 refine nl ?_
 replace H := H.mxShut 7 rfl
 refine bl (sr (bk [0, 0, 0] F H rfl trivial ?_)); clear F; intro a F
 replace H := H.nf 8 rfl
 refine nl (cB F rfl (fun hg73 => ?_) (fun hg73 => ?_))
 replace hm := ifT hg73 hm
 refine sr ?_
 replace H := H.owNil rByte 5
 refine s_val wkP F rfl rfl rfl rfl (y_build F rfl rfl (cs := [.bool false, .slice none (([] : List UInt8)).length 0]) (by kernel_rfl)) ?_; clear F; intro a F
 refine s_storeA wkP F rfl rfl agg71 rfl rfl rfl H 6 rfl (by simp only [List.length_append, List.length_cons, List.length_nil, icells_length, bcells_length]) (by simp only [List.length_append, List.length_cons, List.length_nil, icells_length, bcells_length]) (by intro v hv; simp only [List.mem_append, List.mem_cons, List.not_mem_nil, or_false] at hv; first | (rcases hv with h | h <;> first | (subst h; rfl) | exact bcells_flat _ _ h | exact icells_flat _ _ _ h | (rcases h with h | h <;> first | (subst h; rfl) | exact bcells_flat _ _ h | exact icells_flat _ _ _ h | (rcases h with h | h <;> first | (subst h; rfl) | exact bcells_flat _ _ h | (rcases h with h | h <;> first | (subst h; rfl) | (rcases h with h | h <;> (subst h; rfl)))))) | (subst hv; rfl)) ?_; clear H; intro w H
 refine bk [0] F H rfl trivial ?_; clear F; intro a F
 replace H := H.nf 9 rfl
 refine nl (wr (br (br (tr (tr ?_))))); cases hm; refine ⟨_, rfl, ?_⟩; rintro rfl
 refine br (tr ?_)
 replace hm := elimR hm42
 refine tr ?_
 replace H := H.frz 0 rfl
 replace H := H.mkRc (R := R_files_file) (cs := [.bool false, .slice none (([] : List UInt8)).length 0]) (x := (false, ([] : List UInt8))) (fun gg => ⟨_, _, rfl, rfl, ⟨_, _, rfl, (gg 0 _ rfl).choose_spec⟩⟩)
 cases hm
 refine x_resC2 F rfl (⟨_, rfl, agg71.run_load (H.blk 7 rfl).row (by simp only [List.length_append, List.length_cons, List.length_nil, icells_length, bcells_length])⟩) rfl ?_
 exact ⟨_, rfl, [.bool false, .slice none (([] : List UInt8)).length 0], rfl, (H.pm 10 [0, 9] rfl:)⟩
 replace hm := ifF (nT hg73) hm
 refine sr (bk [0] F H rfl ⟨fld71_0, trivial⟩ ?_); clear F; intro a F
 replace H := rc_files_file (H.pk 2 rfl); obtain ⟨p74, c75, rfl, H⟩ := H
 refine bk [1000, 0, 0] F H rfl ⟨rfl, plain4, trivial⟩ ?_; clear F; intro a F
 refine nl (cB F rfl (fun hg76 => ?_) (fun hg76 => ?_))
 replace hm := ifT hg76 hm
 refine sr ?_
 replace H := H.owNil rByte 5
 refine s_val wkP F rfl rfl rfl rfl (y_build F rfl rfl (cs := [.bool false, .slice none (([] : List UInt8)).length 0]) (by kernel_rfl)) ?_; clear F; intro a F
 refine s_storeA wkP F rfl rfl agg71 rfl rfl rfl H 6 rfl (by simp only [List.length_append, List.length_cons, List.length_nil, icells_length, bcells_length]) (by simp only [List.length_append, List.length_cons, List.length_nil, icells_length, bcells_length]) (by intro v hv; simp only [List.mem_append, List.mem_cons, List.not_mem_nil, or_false] at hv; first | (rcases hv with h | h <;> first | (subst h; rfl) | exact bcells_flat _ _ h | exact icells_flat _ _ _ h | (rcases h with h | h <;> first | (subst h; rfl) | exact bcells_flat _ _ h | exact icells_flat _ _ _ h | (rcases h with h | h <;> first | (subst h; rfl) | exact bcells_flat _ _ h | (rcases h with h | h <;> first | (subst h; rfl) | (rcases h with h | h <;> (subst h; rfl)))))) | (subst hv; rfl)) ?_; clear H; intro w H
 refine bk [0] F H rfl trivial ?_; clear F; intro a F
 replace H := H.nf 9 rfl
 refine nl (wr (br (br (tr (tr ?_))))); cases hm; refine ⟨_, rfl, ?_⟩; rintro rfl
 refine br (tr ?_)
 replace hm := elimR hm42
 refine tr ?_
 replace H := H.frz 0 rfl
 replace H := H.mkRc (R := R_files_file) (cs := [.bool false, .slice none (([] : List UInt8)).length 0]) (x := (false, ([] : List UInt8))) (fun gg => ⟨_, _, rfl, rfl, ⟨_, _, rfl, (gg 0 _ rfl).choose_spec⟩⟩)
 cases hm
 refine x_resC2 F rfl (⟨_, rfl, agg71.run_load (H.blk 7 rfl).row (by simp only [List.length_append, List.length_cons, List.length_nil, icells_length, bcells_length])⟩) rfl ?_
 exact ⟨_, rfl, [.bool false, .slice none (([] : List UInt8)).length 0], rfl, (H.pm 10 [0, 9] rfl:)⟩
 replace hm := ifF (nT hg76) hm
 refine sk (bn (bn (ct (rl (bk [0, 0] F H rfl trivial ?_))))); clear F; intro a F
 refine lz (ct ?_); cases hm
 exact ⟨_, rfl, ⟨F.sl rfl, (H.pm 8 [4, 5, 6, 7] rfl:)⟩⟩
 replace hm := ifF hg66 hm
 refine ex (cx (cx ?_)); cases hm; refine ⟨_, rfl, ?_⟩; rintro rfl
 refine ch (ct ?_)
 exact ⟨_, rfl, F.sl rfl, (H.pm 4 [1, 2, 3] rfl:)⟩
 clear F H hm
 rintro a w ⟨r42, rfl, F, H⟩; have hm := elimL hm42; clear hm42
 refine ct (sr (bk [0, 0] F H rfl trivial ?_)); clear F; intro a F
 obtain ⟨es77, H⟩ := H.mmOpen 2 rfl
 obtain ⟨cs78, hcs78, H⟩ := H.mxGet 2 rfl p (zc := ([Value.bool false] ++ [Value.slice none 0 0])) (z0 := (false, [])) (fun B => ⟨_, _, rfl, (fun _ => rfl) B, ((fun _ => rSl_nil _ _) B)⟩)
 refine s_val wkP F rfl rfl rfl rfl (y_mxGet2 (agg := true) (zc := ([Value.bool false] ++ [Value.slice none 0 0])) F Tryz.underlying65 (keyStr Tryz.underlying9) (fun w => aggz71.run_zero w) rfl H 3 rfl rfl (k := p) rfl trivial hcs78) ?_; clear F; intro a F
 refine bk [0, 0, 0] F H rfl trivial ?_; clear F; intro a F
 replace H := H.owNil rByte 5
 refine s_allocA wkP F rfl rfl rfl agz71 rfl H ?_; clear F H; intro b79 w a H F
 refine s_storeA wkP F rfl rfl agg71 rfl rfl rfl H 0 rfl (H.rcLen 2 rfl) (by simp only [List.length_append, List.length_cons, List.length_nil, icells_length, bcells_length]) (H.rcFlat 2 rfl) ?_; clear H; intro w H
 refine bk [0] F H rfl trivial ?_; clear F; intro a F
 replace H := H.nf 6 rfl
 refine nl ?_
 replace H := H.mxShut 5 rfl
 refine sq (sr (bk [0, 0] F H rfl trivial ?_)); clear F; intro a F
 replace H := H.nf 6 rfl
 refine nl (cB F rfl (fun hg80 => ?_) (fun hg80 => ?_))
 replace hm := ifT hg80 hm
 refine sr ?_
 replace H := H.owNil rByte 5
 refine s_val wkP F rfl rfl rfl rfl (y_build F rfl rfl (cs := [.bool false, .slice none (([] : List UInt8)).length 0]) (by kernel_rfl)) ?_; clear F; intro a F
 refine s_storeA wkP F rfl rfl agg71 rfl rfl rfl H 4 rfl (by simp only [List.length_append, List.length_cons, List.length_nil, icells_length, bcells_length]) (by simp only [List.length_append, List.length_cons, List.length_nil, icells_length, bcells_length]) (by intro v hv; simp only [List.mem_append, List.mem_cons, List.not_mem_nil, or_false] at hv; first | (rcases hv with h | h <;> first | (subst h; rfl) | exact bcells_flat _ _ h | exact icells_flat _ _ _ h | (rcases h with h | h <;> first | (subst h; rfl) | exact bcells_flat _ _ h | exact icells_flat _ _ _ h | (rcases h with h | h <;> first | (subst h; rfl) | exact bcells_flat _ _ h | (rcases h with h | h <;> first | (subst h; rfl) | (rcases h with h | h <;> (subst h; rfl)))))) | (subst hv; rfl)) ?_; clear H; intro w H
 refine bk [0] F H rfl trivial ?_; clear F; intro a F
 replace H := H.nf 7 rfl
 refine nl (wr (tr ?_))
 replace H := H.frz 0 rfl
 replace H := H.mkRc (R := R_files_file) (cs := [.bool false, .slice none (([] : List UInt8)).length 0]) (x := (false, ([] : List UInt8))) (fun gg => ⟨_, _, rfl, rfl, ⟨_, _, rfl, (gg 0 _ rfl).choose_spec⟩⟩)
 cases hm
 refine x_resC2 F rfl (⟨_, rfl, agg71.run_load (H.blk 5 rfl).row (by simp only [List.length_append, List.length_cons, List.length_nil, icells_length, bcells_length])⟩) rfl ?_
 exact ⟨_, rfl, [.bool false, .slice none (([] : List UInt8)).length 0], rfl, (H.pm 8 [0, 7] rfl:)⟩
 replace hm := ifF (nT hg80) hm
 refine sk (ct (sr (bk [999] F H rfl ⟨rfl, (aggn agg71 (H.rcLen 2 rfl)), trivial⟩ ?_))); clear F; intro a F
 refine s_storeA wkP F rfl rfl agg71 rfl rfl rfl H 3 rfl (H.rcLen 2 rfl) (by simp only [List.length_append, List.length_cons, List.length_nil, icells_length, bcells_length]) (H.rcFlat 2 rfl) ?_; clear H; intro w H
 refine bk [0] F H rfl trivial ?_; clear F; intro a F
 replace H := H.nf 6 rfl
 refine nl (wr ?_)
 cases hm
 refine x_resC2 F rfl (⟨_, rfl, agg71.run_load (H.blk 3 rfl).row (H.rcLen 2 rfl)⟩) rfl ?_
 exact ⟨_, rfl, cs78, rfl, (H.pm 6 [2, 5] rfl:)⟩
theorem ent79 : ∀ args w, (callFunc 79 args).run Tryz.prog w = .ok (.enter 79 args) w := enters Tryz.func79 (by kernel_rfl) rfl
set_option maxRecDepth 100000 in
set_option maxHeartbeats 4000000 in
theorem w_sRegular {s : (List UInt8) → Option T_files_file} {p : List UInt8} {q1 : Option Nat} {w0 w : World} {l : List HP}  {r : T_files_file × Int} (hm : sRegular s p = some r) (H : St w0 w (HP.mm q1 ekStr true R_files_file (fun _ => True) s :: l)) :
  Calls Tryz.prog 80 [.map q1, .string (txb (p))].toArray w (fun e w' => ∃ v, e = .returned v ∧ ∃ (cs2 : List Value), v = .tuple [.agg cs2.toArray, .int .i64 (r.2)].toArray ∧ St w0 w' (HP.rc R_files_file cs2 r.1 :: HP.mm q1 ekStr true R_files_file (fun _ => True) s :: l)) := by
 unfold sRegular at hm
 refine x_enter Tryz.func80 rfl rfl rfl ?_
 intro a F
 refine sr ?_
 replace H := H.owNil rByte 5
 refine s_allocA wkP F rfl rfl rfl agz71 rfl H ?_; clear F H; intro b3 w a H F
 refine bk [0] F H rfl trivial ?_; clear F; intro a F
 replace H := H.nf 3 rfl
 refine nl (sr (bk [0, 0] F H rfl trivial ?_)); clear F; intro a F
 obtain ⟨x4, ex4, hm⟩ := ob hm
 refine sc wkP F rfl ent79 (w_sLook ex4 (H.pm 3 [2, 0, 1] rfl:):) ?_; clear F H; rintro _ w a ⟨cs5, rfl, H⟩ F
 refine bk [0, 0, 0] F H rfl trivial ?_; clear F; intro a F
 replace H := H.owNil rByte 5
 refine s_allocA wkP F rfl rfl rfl agz71 rfl H ?_; clear F H; intro b6 w a H F
 refine s_storeA wkP F rfl rfl agg71 rfl rfl rfl H 0 rfl (H.rcLen 2 rfl) (by simp only [List.length_append, List.length_cons, List.length_nil, icells_length, bcells_length]) (H.rcFlat 2 rfl) ?_; clear H; intro w H
 refine bk [0] F H rfl trivial ?_; clear F; intro a F
 replace H := H.nf 6 rfl
 refine nl (sq (sr (bk [0, 0, 0] F H rfl trivial ?_))); clear F; intro a F
 by_cases hg7 : x4.2 = 0
 replace hm := ifT hg7 hm
 replace F := F.bT 16 hg7 rfl
 refine bk [0] F H rfl ⟨fld71_0, trivial⟩ ?_; clear F; intro a F
 refine g_onP F rfl rfl rfl rfl ?_
 replace H := rc_files_file (H.pk 2 rfl); obtain ⟨p8, c9, rfl, H⟩ := H
 refine bk [1000, 0] F H rfl ⟨rfl, plain4, trivial⟩ ?_; clear F; intro a F
 refine nl (cB F rfl (fun hg10 => ?_) (fun hg10 => ?_))
 replace hm := ifT hg10 hm
 refine sr ?_
 replace H := H.owNil rByte 5
 refine s_val wkP F rfl rfl rfl rfl (y_build F rfl rfl (cs := [.bool false, .slice none (([] : List UInt8)).length 0]) (by kernel_rfl)) ?_; clear F; intro a F
 refine s_storeA wkP F rfl rfl agg71 rfl rfl rfl H 5 rfl (by simp only [List.length_append, List.length_cons, List.length_nil, icells_length, bcells_length]) (by simp only [List.length_append, List.length_cons, List.length_nil, icells_length, bcells_length]) (by intro v hv; simp only [List.mem_append, List.mem_cons, List.not_mem_nil, or_false] at hv; first | (rcases hv with h | h <;> first | (subst h; rfl) | exact bcells_flat _ _ h | exact icells_flat _ _ _ h | (rcases h with h | h <;> first | (subst h; rfl) | exact bcells_flat _ _ h | exact icells_flat _ _ _ h | (rcases h with h | h <;> first | (subst h; rfl) | exact bcells_flat _ _ h | (rcases h with h | h <;> first | (subst h; rfl) | (rcases h with h | h <;> (subst h; rfl)))))) | (subst hv; rfl)) ?_; clear H; intro w H
 refine bk [0] F H rfl trivial ?_; clear F; intro a F
 replace H := H.nf 7 rfl
 refine nl (wr (tr ?_))
 replace H := H.frz 0 rfl
 replace H := H.mkRc (R := R_files_file) (cs := [.bool false, .slice none (([] : List UInt8)).length 0]) (x := (false, ([] : List UInt8))) (fun gg => ⟨_, _, rfl, rfl, ⟨_, _, rfl, (gg 0 _ rfl).choose_spec⟩⟩)
 cases hm
 refine x_resC2 F rfl (⟨_, rfl, agg71.run_load (H.blk 6 rfl).row (by simp only [List.length_append, List.length_cons, List.length_nil, icells_length, bcells_length])⟩) rfl ?_
 exact ⟨_, rfl, [.bool false, .slice none (([] : List UInt8)).length 0], rfl, (H.pm 8 [0, 5] rfl:)⟩
 replace hm := ifF (nT hg10) hm
 refine sk (ct (sr (bk [1999, 0] F H rfl ⟨rfl, (aggn agg71 (by simp only [List.length_append, List.length_cons, List.length_nil, icells_length, bcells_length])), trivial⟩ ?_))); clear F; intro a F
 refine s_storeA wkP F rfl rfl agg71 rfl rfl rfl H 4 rfl (by simp only [List.length_append, List.length_cons, List.length_nil, icells_length, bcells_length]) (by simp only [List.length_append, List.length_cons, List.length_nil, icells_length, bcells_length]) (by intro v hv; simp only [List.mem_append, List.mem_cons, List.not_mem_nil, or_false] at hv; first | (rcases hv with h | h <;> first | (subst h; rfl) | exact bcells_flat _ _ h | exact icells_flat _ _ _ h | (rcases h with h | h <;> first | (subst h; rfl) | exact bcells_flat _ _ h | exact icells_flat _ _ _ h | (rcases h with h | h <;> first | (subst h; rfl) | exact bcells_flat _ _ h | (rcases h with h | h <;> first | (subst h; rfl) | (rcases h with h | h <;> (subst h; rfl)))))) | (subst hv; rfl)) ?_; clear H; intro w H
 refine bk [0] F H rfl trivial ?_; clear F; intro a F
 replace H := H.nf 6 rfl
 refine nl (wr ?_)
 replace H := H.mkRc (R := R_files_file) (cs := [.bool (x4.1.1), .slice p8 (x4.1.2).length c9]) (x := (x4.1.1, x4.1.2)) (fun gg => ⟨_, _, rfl, rfl, ⟨_, _, rfl, (gg 0 _ rfl).choose_spec⟩⟩)
 cases hm
 refine x_resC2 F rfl (⟨_, rfl, agg71.run_load (H.blk 5 rfl).row (by simp only [List.length_append, List.length_cons, List.length_nil, icells_length, bcells_length])⟩) rfl ?_
 exact ⟨_, rfl, [.bool (x4.1.1), .slice p8 (x4.1.2).length c9], rfl, (H.pm 7 [0, 4] rfl:)⟩
 replace hm := ifF hg7 hm
 replace F := F.bF 16 hg7 rfl
 refine bk [0, 0, 0] F H rfl trivial ?_; clear F; intro a F
 refine nl (cF F rfl ?_)
 refine sk (ct (sr (bk [999, 0] F H rfl ⟨rfl, (aggn agg71 (H.rcLen 2 rfl)), trivial⟩ ?_))); clear F; intro a F
 refine s_storeA wkP F rfl rfl agg71 rfl rfl rfl H 4 rfl (H.rcLen 2 rfl) (by simp only [List.length_append, List.length_cons, List.length_nil, icells_length, bcells_length]) (H.rcFlat 2 rfl) ?_; clear H; intro w H
 refine bk [0] F H rfl trivial ?_; clear F; intro a F
 replace H := H.nf 6 rfl
 refine nl (wr ?_)
 cases hm
 refine x_resC2 F rfl (⟨_, rfl, agg71.run_load (H.blk 4 rfl).row (H.rcLen 2 rfl)⟩) rfl ?_
 exact ⟨_, rfl, cs5, rfl, (H.pm 6 [2, 3] rfl:)⟩
theorem ent50 : ∀ args w, (callFunc 50 args).run Tryz.prog w = .ok (.enter 50 args) w := enters Tryz.func50 (by kernel_rfl) rfl
set_option maxRecDepth 100000 in
set_option maxHeartbeats 4000000 in
theorem w_sRoom {s : (List UInt8) → Option T_files_file} {p : List UInt8} {q1 : Option Nat} {w0 w : World} {l : List HP}  {r : Int} (hm : sRoom s p = some r) (H : St w0 w (HP.mm q1 ekStr true R_files_file (fun _ => True) s :: l)) :
  Calls Tryz.prog 61 [.map q1, .string (txb (p))].toArray w (fun e w' => ∃ v, e = .returned v ∧ v = .int .i64 (r) ∧ St w0 w' (HP.mm q1 ekStr true R_files_file (fun _ => True) s :: l)) := by
 unfold sRoom at hm
 refine x_enter Tryz.func61 rfl rfl rfl ?_
 intro a F
 refine sr (bk [0] F H rfl trivial ?_); clear F; intro a F
 refine nl (sq (sr (bk [0] F H rfl trivial ?_))); clear F; intro a F
 obtain ⟨x2, ex2, hm⟩ := ob hm
 refine sc wkP F rfl ent49 (w_m_path_Check ex2 H:) ?_; clear F H; rintro _ w a ⟨rfl, H⟩ F
 refine bk [0] F H rfl trivial ?_; clear F; intro a F
 replace H := H.nf 1 rfl
 refine nl (sr (bk [0, 0] F H rfl trivial ?_)); clear F; intro a F
 refine nl (cN F rfl (fun hg3 => ?_) (fun hg3 => ?_))
 replace hm := ifF hg3 hm
 refine sr (bk [0, 0] F H rfl trivial ?_); clear F; intro a F
 refine nl (wr (tr ?_))
 cases hm
 refine x_ret1 F rfl rfl ?_
 exact ⟨_, rfl, rfl, H⟩
 replace hm := ifT hg3 hm
 refine sk (ct (sq (sr (bk [0] F H rfl trivial ?_)))); clear F; intro a F
 refine s_val wkP F rfl rfl rfl rfl (y_eqT (l := p) (m := [47]) F rfl rfl rfl) ?_; clear F; intro a F
 refine nl (cP F rfl (fun hg4 => ?_) (fun hg4 => ?_))
 replace hm := ifT hg4 hm
 refine sr (bk [0] F H rfl trivial ?_); clear F; intro a F
 refine nl (wr (tr ?_))
 cases hm
 refine x_ret1 F rfl rfl ?_
 exact ⟨_, rfl, rfl, H⟩
 replace hm := ifF hg4 hm
 refine sk (ct (sr (bk [0, 0] F H rfl trivial ?_))); clear F; intro a F
 obtain ⟨x5, ex5, hm⟩ := ob hm
 refine sc wkP F rfl ent50 (w_m_path_Parent ex5 H:) ?_; clear F H; rintro _ w a ⟨rfl, H⟩ F
 obtain ⟨x6, ex6, hm⟩ := ob hm
 refine sc wkP F rfl ent79 (w_sLook ex6 H:) ?_; clear F H; rintro _ w a ⟨cs7, rfl, H⟩ F
 refine bk [0, 0, 0] F H rfl trivial ?_; clear F; intro a F
 replace H := H.owNil rByte 5
 refine s_allocA wkP F rfl rfl rfl agz71 rfl H ?_; clear F H; intro b8 w a H F
 refine s_storeA wkP F rfl rfl agg71 rfl rfl rfl H 0 rfl (H.rcLen 2 rfl) (by simp only [List.length_append, List.length_cons, List.length_nil, icells_length, bcells_length]) (H.rcFlat 2 rfl) ?_; clear H; intro w H
 refine bk [0] F H rfl trivial ?_; clear F; intro a F
 replace H := H.nf 4 rfl
 refine nl (sq (sr (bk [0, 0] F H rfl trivial ?_))); clear F; intro a F
 refine nl (cN F rfl (fun hg9 => ?_) (fun hg9 => ?_))
 replace hm := ifF hg9 hm
 refine sr (bk [0, 0] F H rfl trivial ?_); clear F; intro a F
 refine nl (wr (tr ?_))
 cases hm
 refine x_ret1 F rfl rfl ?_
 exact ⟨_, rfl, rfl, (H.pm 4 [3] rfl:)⟩
 replace hm := ifT hg9 hm
 refine sk (ct (sq (sr (bk [0] F H rfl ⟨fld71_0, trivial⟩ ?_)))); clear F; intro a F
 replace H := rc_files_file (H.pk 2 rfl); obtain ⟨p10, c11, rfl, H⟩ := H
 refine bk [1000, 0] F H rfl ⟨rfl, plain4, trivial⟩ ?_; clear F; intro a F
 refine nl (cB F rfl (fun hg12 => ?_) (fun hg12 => ?_))
 replace hm := ifT hg12 hm
 refine sr (bk [0] F H rfl trivial ?_); clear F; intro a F
 refine nl (wr (tr ?_))
 cases hm
 refine x_ret1 F rfl rfl ?_
 exact ⟨_, rfl, rfl, (H.pm 4 [3] rfl:)⟩
 replace hm := ifF (nT hg12) hm
 refine sk (ct (sq (sr (bk [0, 0] F H rfl trivial ?_)))); clear F; intro a F
 obtain ⟨es13, H⟩ := H.mmOpen 3 rfl
 obtain ⟨cs14, hcs14, H⟩ := H.mxGet 3 rfl p (zc := ([Value.bool false] ++ [Value.slice none 0 0])) (z0 := (false, [])) (fun B => ⟨_, _, rfl, (fun _ => rfl) B, ((fun _ => rSl_nil _ _) B)⟩)
 refine s_val wkP F rfl rfl rfl rfl (y_mxGet2 (agg := true) (zc := ([Value.bool false] ++ [Value.slice none 0 0])) F Tryz.underlying65 (keyStr Tryz.underlying9) (fun w => aggz71.run_zero w) rfl H 4 rfl rfl (k := p) rfl trivial hcs14) ?_; clear F; intro a F
 refine bk [0, 0, 0] F H rfl trivial ?_; clear F; intro a F
 replace H := H.owNil rByte 5
 refine s_allocA wkP F rfl rfl rfl agz71 rfl H ?_; clear F H; intro b15 w a H F
 refine s_storeA wkP F rfl rfl agg71 rfl rfl rfl H 0 rfl (H.rcLen 2 rfl) (by simp only [List.length_append, List.length_cons, List.length_nil, icells_length, bcells_length]) (H.rcFlat 2 rfl) ?_; clear H; intro w H
 refine bk [0] F H rfl trivial ?_; clear F; intro a F
 replace H := H.nf 7 rfl
 refine nl ?_
 replace H := H.mxShut 6 rfl
 refine sr (bk [0] F H rfl trivial ?_); clear F; intro a F
 replace H := H.nf 7 rfl
 refine nl (cB F rfl (fun hg16 => ?_) (fun hg16 => ?_))
 replace hm := ifT hg16 hm
 refine sr (bk [0] F H rfl trivial ?_); clear F; intro a F
 refine nl (wr (tr ?_))
 cases hm
 refine x_ret1 F rfl rfl ?_
 exact ⟨_, rfl, rfl, (H.pm 7 [6] rfl:)⟩
 replace hm := ifF (nT hg16) hm
 refine sk (ct (sr (bk [0] F H rfl trivial ?_))); clear F; intro a F
 refine nl (wr ?_)
 cases hm
 refine x_ret1 F rfl rfl ?_
 exact ⟨_, rfl, rfl, (H.pm 7 [6] rfl:)⟩
theorem fld71_1 : FieldT Tryz.prog 71 1 1 := by unfold FieldT; rw [Tryz.underlying71]; kernel_rfl
set_option maxRecDepth 100000 in
set_option maxHeartbeats 4000000 in
theorem w_sSound {s : (List UInt8) → Option T_files_file} {q1 : Option Nat} {w0 w : World} {l : List HP}  {r : Bool} (hm : sSound s = some r) (H : St w0 w (HP.mm q1 ekStr true R_files_file (fun _ => True) s :: l)) :
  Calls Tryz.prog 32 [.map q1].toArray w (fun e w' => ∃ v, e = .returned v ∧ v = .bool (r) ∧ St w0 w' (HP.mm q1 ekStr true R_files_file (fun _ => True) s :: l)) := by
 unfold sSound at hm
 refine x_enter Tryz.func32 rfl rfl rfl ?_
 intro a F
 refine sr (bk [0] F H rfl trivial ?_); clear F; intro a F
 refine nl (sq (sr (bk [0] F H rfl trivial ?_))); clear F; intro a F
 obtain ⟨raw2, cl2, es2, hM2, hE2, H⟩ := H.moOpen 0 rfl
 refine s_rngM wkP F rfl rfl rfl Tryz.underlying65 rfl H 1 rfl rfl ?_; clear F H; intro r2 w a H F
 replace H := H.nf 3 rfl
 refine nl (bl ?_)
 have hmM39 := hm; clear hm
 refine x_loopM es2 hmM39 (fun (s39 : Unit) vis39 aa ww => Fr ⟨36, []⟩ aa [(0, .map q1), (6, .pointer (some ⟨r2, 0, none⟩))] ∧ St w0 ww (HP.obj r2 (mit q1 cl2 (bornsOf raw2 (vis39))) :: HP.es R_files_file (fun _ => True) es2 s :: HP.mo q1 raw2 cl2 :: l)) ⟨F.sl rfl, H⟩ ?_
 clear F H
 rintro s39 vis39 a w hr39 ⟨F, H⟩
 refine sr (s_nxtM wkP F rfl rfl rfl rfl rfl hM2 hr39.ok H 2 0 rfl rfl rfl (fun hall40 w a H F => ?_) (fun q40 k40 cs40 v40 hq40 hn40 w a H F => ?_))
 have hm := elimL (hr39.done hE2 hall40 hmM39)
 refine bk [0] F H rfl trivial ?_; clear F; intro a F
 refine nl (sq (cF F rfl ?_))
 refine ex (cx (cx ?_))
 replace H := H.moMm 2 1 hM2 rfl rfl
 refine ch (ct (sr (bk [0] F H rfl trivial ?_))); clear F; intro a F
 obtain ⟨es41, H⟩ := H.mmOpen 2 rfl
 obtain ⟨cs42, hcs42, H⟩ := H.mxGet 2 rfl ([47]) (zc := ([Value.bool false] ++ [Value.slice none 0 0])) (z0 := (false, [])) (fun B => ⟨_, _, rfl, (fun _ => rfl) B, ((fun _ => rSl_nil _ _) B)⟩)
 refine s_val wkP F rfl rfl rfl rfl (y_mxGet (agg := true) (zc := ([Value.bool false] ++ [Value.slice none 0 0])) F Tryz.underlying65 (keyStr Tryz.underlying9) (fun w => aggz71.run_zero w) rfl H 3 rfl rfl (k := ([47])) rfl trivial hcs42) ?_; clear F; intro a F
 replace H := rc_files_file (H.pk 0 rfl); obtain ⟨p43, c44, rfl, H⟩ := H
 refine s_val wkP F rfl rfl rfl rfl (y_field1 F Tryz.underlying71 rfl plain4 rfl rfl rfl) ?_; clear F; intro a F
 refine bk [0] F H rfl trivial ?_; clear F; intro a F
 replace H := H.nf 4 rfl
 refine nl ?_
 replace H := H.mxShut 3 rfl
 refine wr ?_
 cases hm
 refine x_ret1 F rfl rfl ?_
 exact ⟨_, rfl, rfl, (H.pm 4 [3] rfl:)⟩
 obtain ⟨o40, hm, hs40, hx40⟩ := hr39.step hE2 hq40 hn40 hmM39
 refine bk [0] F H rfl trivial ?_; clear F; intro a F
 refine nl (sq (cT F rfl ?_))
 refine sk (ct (bl (sr ?_)))
 obtain ⟨hk45, H⟩ := H.esEl 1 rfl hq40
 refine s_val wkP F rfl rfl rfl rfl (y_entM (agg := true) (ek := ekStr) F rfl rfl hM2 hq40 H 3 1 rfl rfl rfl) ?_; clear F; intro a F
 refine bk [0, 0] F H rfl trivial ?_; clear F; intro a F
 replace H := H.owNil rByte 5
 refine s_allocA wkP F rfl rfl rfl agz71 rfl H ?_; clear F H; intro b46 w a H F
 refine bk [0] F H rfl trivial ?_; clear F; intro a F
 refine s_storeA wkP F rfl rfl agg71 rfl rfl rfl H 0 rfl (H.rcLen 2 rfl) (by simp only [List.length_append, List.length_cons, List.length_nil, icells_length, bcells_length]) (H.rcFlat 2 rfl) ?_; clear H; intro w H
 replace H := H.nf 6 rfl
 refine nl (sr (bk [0] F H rfl trivial ?_)); clear F; intro a F
 obtain ⟨x47, ex47, hm⟩ := ob hm
 refine sc wkP F rfl ent49 (w_m_path_Check ex47 H:) ?_; clear F H; rintro _ w a ⟨rfl, H⟩ F
 refine bk [0, 0] F H rfl trivial ?_; clear F; intro a F
 by_cases hg48 : x47 = 0
 replace hm := ifT hg48 hm
 replace F := F.nT 15 hg48 rfl
 refine bk [1] F H rfl ⟨fld71_1, trivial⟩ ?_; clear F; intro a F
 refine g_onP F rfl rfl rfl rfl ?_
 replace H := rc_files_file (H.pk 2 rfl); obtain ⟨p49, c50, rfl, H⟩ := H
 refine bk [1001, 0, 0, 0, 0] F H rfl ⟨rfl, plain23, ⟨_, Tryz.underlying23⟩, trivial⟩ ?_; clear F; intro a F
 by_cases hg51 : 192 < ((v40.2).length : Int)
 replace hm := ifT hg51 hm
 replace F := F.bT 21 hg51 rfl
 refine bk (List.replicate 11 0) F H rfl trivial ?_; clear F; intro a F
 replace H := H.nf 6 rfl
 refine nl (cT F rfl ?_)
 refine sr (bk [0] F H rfl trivial ?_); clear F; intro a F
 refine nl (wr (br (tr ?_))); cases hm; obtain rfl := elimS (hx40 _ rfl)
 replace H := H.moMm 5 4 hM2 rfl rfl
 refine br (tr (x_ret1 F rfl rfl ?_))
 exact ⟨_, rfl, rfl, (H.pm 6 [5] rfl:)⟩
 replace hm := ifF hg51 hm
 replace F := F.bF 21 hg51 rfl
 refine bk [0] F H rfl trivial ?_; clear F; intro a F
 refine g_onP F rfl rfl rfl rfl ?_
 refine s_val wkP F rfl rfl rfl rfl (y_neT (l := k40) (m := [47]) F rfl rfl rfl) ?_; clear F; intro a F
 refine bk [0] F H rfl trivial ?_; clear F; intro a F
 by_cases hg52 : k40 = ([47])
 replace hm := ifT hg52 hm
 replace F := F.nT 24 hg52 rfl
 refine bk (List.replicate 8 0) F H rfl trivial ?_; clear F; intro a F
 replace H := H.nf 6 rfl
 refine nl (cF F rfl ?_)
 refine sk (bn (ct ?_)); cases hm
 exact ⟨_, q40, hs40 _ rfl, ⟨F.sl rfl, (H.pm 6 [3, 4, 5] rfl:)⟩⟩
 replace hm := ifF hg52 hm
 replace F := F.nF 24 hg52 rfl
 refine bk [0, 0] F H rfl trivial ?_; clear F; intro a F
 refine g_onP F rfl rfl rfl rfl ?_
 obtain ⟨x53, ex53, hm⟩ := ob hm
 refine sc wkP F rfl ent50 (w_m_path_Parent ex53 H:) ?_; clear F H; rintro _ w a ⟨rfl, H⟩ F
 refine g_onP F rfl rfl rfl rfl ?_
 obtain ⟨cs54, hcs54, H⟩ := H.esLook 4 rfl x53 (zc := ([Value.bool false] ++ [Value.slice none 0 0])) (z0 := (false, [])) (fun B => ⟨_, _, rfl, (fun _ => rfl) B, ((fun _ => rSl_nil _ _) B)⟩)
 refine s_val wkP F rfl rfl rfl rfl (y_mxGet (agg := true) (zc := ([Value.bool false] ++ [Value.slice none 0 0])) F Tryz.underlying65 (keyStr Tryz.underlying9) (fun w => aggz71.run_zero w) rfl (H.moMx 6 5 hM2 rfl rfl) 6 rfl rfl (k := x53) rfl trivial hcs54) ?_; clear F; intro a F
 refine g_onP F rfl rfl rfl rfl ?_
 replace H := rc_files_file (H.pk 0 rfl); obtain ⟨p55, c56, rfl, H⟩ := H
 refine s_val wkP F rfl rfl rfl rfl (y_field1 F Tryz.underlying71 rfl plain4 rfl rfl rfl) ?_; clear F; intro a F
 refine bk [0, 0, 0] F H rfl trivial ?_; clear F; intro a F
 replace H := H.nf 7 rfl
 refine nl (cB F rfl (fun hg57 => ?_) (fun hg57 => ?_))
 replace hm := ifT hg57 hm
 refine sr (bk [0] F H rfl trivial ?_); clear F; intro a F
 refine nl (wr (br (tr ?_))); cases hm; obtain rfl := elimS (hx40 _ rfl)
 replace H := H.moMm 6 5 hM2 rfl rfl
 refine br (tr (x_ret1 F rfl rfl ?_))
 exact ⟨_, rfl, rfl, (H.pm 7 [6] rfl:)⟩
 replace hm := ifF (nT hg57) hm
 refine sk (bn (ct ?_)); cases hm
 exact ⟨_, q40, hs40 _ rfl, ⟨F.sl rfl, (H.pm 7 [4, 5, 6] rfl:)⟩⟩
 replace hm := ifF hg48 hm
 replace F := F.nF 15 hg48 rfl
 refine bk (List.replicate 17 0) F H rfl trivial ?_; clear F; intro a F
 replace H := H.nf 6 rfl
 refine nl (cT F rfl ?_)
 refine sr (bk [0] F H rfl trivial ?_); clear F; intro a F
 refine nl (wr (br (tr ?_))); cases hm; obtain rfl := elimS (hx40 _ rfl)
 replace H := H.moMm 5 4 hM2 rfl rfl
 refine br (tr (x_ret1 F rfl rfl ?_))
 exact ⟨_, rfl, rfl, (H.pm 6 [5] rfl:)⟩
set_option maxRecDepth 100000 in
set_option maxHeartbeats 4000000 in
theorem w_sized {data : List UInt8} {n : Int} {p1 : Option Addr} {c1 : Nat} {w0 w : World} {l : List HP}  {r : (List UInt8)} (hm : sized data n = some r) (H : St w0 w (HP.sl rByte p1 c1 data :: l)) :
  Calls Tryz.prog 81 [.slice p1 (data).length c1, .int .i64 (n)].toArray w (fun e w' => ∃ v, e = .returned v ∧ ∃ (p2 : Option Addr) (c2 : Nat), v = .slice p2 (r).length c2 ∧ St w0 w' (HP.ow rByte 5 p2 c2 r :: l)) := by
 unfold sized at hm
 refine x_enter Tryz.func81 rfl rfl rfl ?_
 intro a F
 refine sr (bk [0] F H rfl trivial ?_); clear F; intro a F
 refine nl (sr (bk [0] F H rfl trivial ?_)); clear F; intro a F
 obtain ⟨x4, ex4, hm⟩ := ob hm
 refine s_mkO (R := rByte) wkP F rfl rfl rfl elem23 rfl rfl rfl rfl rfl rfl (z := (0 : UInt8)) (fun _ => rfl) ex4 H ?_; clear F H; intro b3 w a H F
 refine bk [0] F H rfl trivial ?_; clear F; intro a F
 replace H := H.nf 2 rfl
 refine nl (sr (bk [0, 0] F H rfl trivial ?_)); clear F; intro a F
 have hf5 : 0 + (x4).length ≤ (x4).length := (by rw [Nat.zero_add]; exact Nat.le_refl _)
 have hl5 : (putAt x4 0 ((data).take (x4).length)).length = (x4).length := putAt_len _ _ _ (by rw [List.length_take]; omega)
 refine s_cpyO wkP F rfl rfl rfl elem23 rfl H 0 1 rfl rfl (fun h => by obtain ⟨b, hb⟩ := H.owP 0 rfl (List.getElem?_eq_getElem h); exact ⟨b, hb, hb⟩) hf5 rfl rfl ?_; clear F H; intro w a H F
 replace F := F.bool (k := 7) (u := .slice (some ⟨b3, 0, none⟩) ((putAt x4 0 ((data).take (x4).length))).length ((x4).length)) rfl (by rw [hl5])
 replace F := F.bool (k := 5) (u := .slice (some ⟨b3, 0, none⟩) ((putAt x4 0 ((data).take (x4).length))).length ((x4).length)) rfl (by rw [hl5])
 replace F := F.bool (k := 8) (u := .slice (some ⟨b3, 0, none⟩) ((putAt x4 0 ((data).take (x4).length))).length ((x4).length)) rfl (by rw [hl5])
 replace H := H.nf 2 rfl
 refine nl (sr (bk [0, 0] F H rfl trivial ?_)); clear F; intro a F
 refine nl (wr ?_)
 cases hm
 refine x_ret1 F rfl rfl ?_
 exact ⟨_, rfl, (some ⟨b3, 0, none⟩), (x4).length, rfl, (H.pm 2 [0] rfl:)⟩
theorem agz37 : AggT Tryz.prog 37 4 ([.int .i64 (0), .int .i64 (0), .slice none (([] : List UInt8)).length 0, .slice none (([] : List (List UInt8))).length 0]) := ⟨by rw [Tryz.underlying37]; rfl, by kernel_rfl, by kernel_rfl⟩
theorem fld25_1 : FieldT Tryz.prog 25 1 1 := by unfold FieldT; rw [Tryz.underlying25]; kernel_rfl
theorem ent80 : ∀ args w, (callFunc 80 args).run Tryz.prog w = .ok (.enter 80 args) w := enters Tryz.func80 (by kernel_rfl) rfl
theorem fld25_4 : FieldT Tryz.prog 25 4 4 := by unfold FieldT; rw [Tryz.underlying25]; kernel_rfl
theorem fld25_0 : FieldT Tryz.prog 25 0 0 := by unfold FieldT; rw [Tryz.underlying25]; kernel_rfl
theorem fld25_3 : FieldT Tryz.prog 25 3 3 := by unfold FieldT; rw [Tryz.underlying25]; kernel_rfl
theorem fld37_0 : FieldT Tryz.prog 37 0 0 := by unfold FieldT; rw [Tryz.underlying37]; kernel_rfl
theorem zero33 : Zero1 Tryz.prog 33 (.int .i64 0) := ⟨by kernel_rfl, rfl⟩
theorem fld25_5 : FieldT Tryz.prog 25 5 5 := by unfold FieldT; rw [Tryz.underlying25]; kernel_rfl
theorem ent81 : ∀ args w, (callFunc 81 args).run Tryz.prog w = .ok (.enter 81 args) w := enters Tryz.func81 (by kernel_rfl) rfl
theorem fld37_1 : FieldT Tryz.prog 37 1 1 := by unfold FieldT; rw [Tryz.underlying37]; kernel_rfl
theorem zero3 : Zero1 Tryz.prog 3 (.int .i64 0) := ⟨by kernel_rfl, rfl⟩
theorem agg37 : AggT Tryz.prog 37 4 [.int .i64 0, .int .i64 0, .slice none 0 0, .slice none 0 0] := ⟨by rw [Tryz.underlying37]; rfl, by kernel_rfl, by kernel_rfl⟩
set_option maxRecDepth 100000 in
set_option maxHeartbeats 4000000 in
theorem w_sWrite {s : (List UInt8) → Option T_files_file} {o : T_api_Op} {m1 : Nat} {cs2 : List Value} {w0 w : World} {l : List HP}  {r : T_api_Answer × ((List UInt8) → Option T_files_file)} (hm : sWrite s o = some r) (H : St w0 w (HP.mm (some m1) ekStr true R_files_file (fun _ => True) s :: HP.rc R_api_Op cs2 o :: l)) :
  Calls Tryz.prog 62 [.map (some m1), .agg cs2.toArray].toArray w (fun e w' => ∃ v, e = .returned v ∧ ∃ (cs3 : List Value), v = .agg cs3.toArray ∧ St w0 w' (HP.rc R_api_Answer cs3 r.1 :: HP.mm (some m1) ekStr true R_files_file (fun _ => True) r.2 :: l)) := by
 unfold sWrite at hm
 refine x_enter Tryz.func62 rfl rfl rfl ?_
 intro a F
 refine sr (s_boxA wkP F rfl rfl rfl rfl rfl H ?_); clear F H; intro b4 w a H F
 replace H := H.owNil rByte 5
 replace H := H.owNil rStr 9
 refine s_allocA wkP F rfl rfl rfl agz37 rfl H ?_; clear F H; intro b5 w a H F
 replace H := H.nf 6 rfl
 refine nl (sr (bk [0, 1] F H rfl ⟨fld25_1, trivial⟩ ?_)); clear F; intro a F
 replace H := rc_api_Op (H.pk 5 rfl); obtain ⟨p6, c7, rfl, H⟩ := H
 refine bk [4001] F H rfl ⟨rfl, plain9, trivial⟩ ?_; clear F; intro a F
 obtain ⟨x8, ex8, hm⟩ := ob hm
 refine sc wkP F rfl ent80 (w_sRegular ex8 (H.pm 6 [5, 0, 1, 2, 3, 4] rfl:):) ?_; clear F H; rintro _ w a ⟨cs9, rfl, H⟩ F
 refine bk [0, 0, 0] F H rfl trivial ?_; clear F; intro a F
 replace H := H.owNil rByte 5
 refine s_allocA wkP F rfl rfl rfl agz71 rfl H ?_; clear F H; intro b10 w a H F
 refine s_storeA wkP F rfl rfl agg71 rfl rfl rfl H 0 rfl (H.rcLen 2 rfl) (by simp only [List.length_append, List.length_cons, List.length_nil, icells_length, bcells_length]) (H.rcFlat 2 rfl) ?_; clear H; intro w H
 refine bk [0] F H rfl trivial ?_; clear F; intro a F
 replace H := H.nf 9 rfl
 refine nl (sr (bk [4, 8004, 0] F H rfl ⟨fld25_4, rfl, plain3, trivial⟩ ?_)); clear F; intro a F
 refine nl (sq (sr (bk [0, 8000, 0] F H rfl ⟨fld25_0, rfl, plain3, trivial⟩ ?_))); clear F; intro a F
 refine nl ?_
 obtain ⟨r12, er12, hm12⟩ := ob hm; clear hm; revert er12; intro hm
 refine x_mid (fun aa ww => Fr ⟨91, []⟩ aa [(0, .map (some m1)), (3, .pointer (some ⟨b4, 0, none⟩)), (4, .pointer (some ⟨b5, 0, none⟩)), (5, .pointer (some ⟨b10, 0, none⟩)), (6, .int .i64 (x8.2)), (7, .int .i64 (r12))] ∧ St w0 ww (HP.blk b10 (cs9) 71 :: HP.ow rByte 5 none 0 ([] : List UInt8) :: HP.rc R_files_file cs9 x8.1 :: HP.mm (some m1) ekStr true R_files_file (fun _ => True) s :: HP.sl rByte p6 c7 o.2.2.2.2.2 :: HP.blk b5 ([.int .i64 (0), .int .i64 (0), .slice none (([] : List UInt8)).length 0, .slice none (([] : List (List UInt8))).length 0]) 37 :: HP.ow rStr 9 none 0 ([] : List (List UInt8)) :: HP.ow rByte 5 none 0 ([] : List UInt8) :: HP.blk b4 ([.int .i64 (o.1), .string (txb (o.2.1)), .string (txb (o.2.2.1)), .int .i64 (o.2.2.2.1), .int .i64 (o.2.2.2.2.1), .slice p6 (o.2.2.2.2.2).length c7]) 25 :: l)) ?_ ?_
 refine cP F rfl (fun hg13 => ?_) (fun hg13 => ?_)
 replace hm := ifT hg13 hm
 refine rl (bk [3, 8003, 0] F H rfl ⟨fld25_3, rfl, plain3, trivial⟩ ?_); clear F; intro a F
 refine lz ?_
 cases hm
 refine ct ?_
 exact ⟨F.sl rfl, H⟩
 replace hm := ifF hg13 hm
 refine sk ?_
 cases hm
 refine ct ?_
 exact ⟨F.sl rfl, H⟩
 clear F H hm
 rintro a w ⟨F, H⟩; have hm := hm12; clear hm12
 refine ct (sq ?_)
 obtain ⟨r626, er626, hm626⟩ := ob hm; clear hm; revert er626; intro hm
 refine x_mid (fun aa ww => ∃ (cs627 : List Value), Fr ⟨91, []⟩ aa [(4, .pointer (some ⟨b5, 0, none⟩))] ∧ St w0 ww (HP.blk b10 (cs627) 71 :: HP.ow rByte 5 none 0 ([] : List UInt8) :: HP.mm (some m1) ekStr true R_files_file (fun _ => True) r626.2.1 :: HP.sl rByte p6 c7 o.2.2.2.2.2 :: HP.blk b5 ([.int .i64 (r626.2.2.1), .int .i64 (r626.2.2.2), .slice none (([] : List UInt8)).length 0, .slice none (([] : List (List UInt8))).length 0]) 37 :: HP.ow rStr 9 none 0 ([] : List (List UInt8)) :: HP.ow rByte 5 none 0 ([] : List UInt8) :: HP.blk b4 ([.int .i64 (o.1), .string (txb (o.2.1)), .string (txb (o.2.2.1)), .int .i64 (o.2.2.2.1), .int .i64 (o.2.2.2.2.1), .slice p6 (o.2.2.2.2.2).length c7]) 25 :: HP.rc R_files_file cs627 r626.1 :: l)) ?_ ?_
 refine bl (sr (bk [0, 0, 0] F H rfl trivial ?_)); clear F; intro a F
 refine nl ?_
 obtain ⟨r933, er933, hm933⟩ := ob hm; clear hm; revert er933; intro hm
 refine x_mid (fun aa ww => ∃ (cs934 : List Value), Fr ⟨91, []⟩ aa [(4, .pointer (some ⟨b5, 0, none⟩))] ∧ St w0 ww (HP.blk b10 (cs934) 71 :: HP.ow rByte 5 none 0 ([] : List UInt8) :: HP.mm (some m1) ekStr true R_files_file (fun _ => True) r933.2.1 :: HP.sl rByte p6 c7 o.2.2.2.2.2 :: HP.blk b5 ([.int .i64 (r933.2.2.1), .int .i64 (r933.2.2.2), .slice none (([] : List UInt8)).length 0, .slice none (([] : List (List UInt8))).length 0]) 37 :: HP.ow rStr 9 none 0 ([] : List (List UInt8)) :: HP.ow rByte 5 none 0 ([] : List UInt8) :: HP.blk b4 ([.int .i64 (o.1), .string (txb (o.2.1)), .string (txb (o.2.2.1)), .int .i64 (o.2.2.2.1), .int .i64 (o.2.2.2.2.1), .slice p6 (o.2.2.2.2.2).length c7]) 25 :: HP.rc R_files_file cs934 r933.1 :: l)) ?_ ?_
 refine cN F rfl (fun hg935 => ?_) (fun hg935 => ?_)
 replace hm := ifF hg935 hm
 refine rl (bk [0, 0] F H rfl ⟨fld37_0, trivial⟩ ?_); clear F; intro a F
 refine s_st1 wkP F rfl rfl zero33 rfl rfl rfl rfl rfl H 5 rfl rfl ?_; clear H; intro w H
 replace H := H.nf 9 rfl
 refine lz ?_
 cases hm
 refine ct ?_
 exact ⟨cs9, F.sl rfl, (H.pm 9 [0, 1, 3, 4, 5, 6, 7, 8, 2] rfl:)⟩
 replace hm := ifT hg935 hm
 refine sr (bk [0, 0, 0] F H rfl trivial ?_); clear F; intro a F
 refine nl ?_
 obtain ⟨r1087, er1087, hm1087⟩ := ob hm; clear hm; revert er1087; intro hm
 refine x_mid (fun aa ww => ∃ (cs1088 : List Value), Fr ⟨91, []⟩ aa [(4, .pointer (some ⟨b5, 0, none⟩))] ∧ St w0 ww (HP.blk b10 (cs1088) 71 :: HP.ow rByte 5 none 0 ([] : List UInt8) :: HP.mm (some m1) ekStr true R_files_file (fun _ => True) r1087.2.1 :: HP.sl rByte p6 c7 o.2.2.2.2.2 :: HP.blk b5 ([.int .i64 (r1087.2.2.1), .int .i64 (r1087.2.2.2), .slice none (([] : List UInt8)).length 0, .slice none (([] : List (List UInt8))).length 0]) 37 :: HP.ow rStr 9 none 0 ([] : List (List UInt8)) :: HP.ow rByte 5 none 0 ([] : List UInt8) :: HP.blk b4 ([.int .i64 (o.1), .string (txb (o.2.1)), .string (txb (o.2.2.1)), .int .i64 (o.2.2.2.1), .int .i64 (o.2.2.2.2.1), .slice p6 (o.2.2.2.2.2).length c7]) 25 :: HP.rc R_files_file cs1088 r1087.1 :: l)) ?_ ?_
 refine cP F rfl (fun hg1089 => ?_) (fun hg1089 => ?_)
 replace hm := ifT hg1089 hm
 refine rl (bk [0] F H rfl ⟨fld37_0, trivial⟩ ?_); clear F; intro a F
 refine s_st1 wkP F rfl rfl zero33 rfl rfl rfl rfl rfl H 5 rfl rfl ?_; clear H; intro w H
 replace H := H.nf 9 rfl
 refine lz ?_
 cases hm
 refine ct ?_
 exact ⟨cs9, F.sl rfl, (H.pm 9 [0, 1, 3, 4, 5, 6, 7, 8, 2] rfl:)⟩
 replace hm := ifF hg1089 hm
 refine sr (bk [0, 0, 0] F H rfl trivial ?_); clear F; intro a F
 by_cases hg1090 : 192 < r12
 replace hm := ifT hg1090 hm
 replace F := F.bT 64 hg1090 rfl
 refine bk (List.replicate 13 0) F H rfl trivial ?_; clear F; intro a F
 refine nl (cT F rfl ?_)
 refine rl (bk [0] F H rfl ⟨fld37_0, trivial⟩ ?_); clear F; intro a F
 refine s_st1 wkP F rfl rfl zero33 rfl rfl rfl rfl rfl H 5 rfl rfl ?_; clear H; intro w H
 replace H := H.nf 9 rfl
 refine lz ?_
 cases hm
 refine ct ?_
 exact ⟨cs9, F.sl rfl, (H.pm 9 [0, 1, 3, 4, 5, 6, 7, 8, 2] rfl:)⟩
 replace hm := ifF hg1090 hm
 replace F := F.bF 64 hg1090 rfl
 refine bk [0, 8000, 0, 0] F H rfl ⟨fld25_0, rfl, plain3, trivial⟩ ?_; clear F; intro a F
 by_cases hg1091 : o.1 = 3
 replace hm := ifT hg1091 hm
 replace F := F.bT 68 hg1091 rfl
 refine bk [0, 5, 8005, 0, 0, 0, 0, 0, 0] F H rfl ⟨fld25_5, rfl, plain23, ⟨_, Tryz.underlying23⟩, trivial⟩ ?_; clear F; intro a F
 refine nl ?_
 obtain ⟨r1141, er1141, hm1141⟩ := ob hm; clear hm; revert er1141; intro hm
 refine x_mid (fun aa ww => ∃ (cs1142 : List Value), Fr ⟨91, []⟩ aa [(4, .pointer (some ⟨b5, 0, none⟩))] ∧ St w0 ww (HP.blk b10 (cs1142) 71 :: HP.ow rByte 5 none 0 ([] : List UInt8) :: HP.mm (some m1) ekStr true R_files_file (fun _ => True) r1141.2.1 :: HP.sl rByte p6 c7 o.2.2.2.2.2 :: HP.blk b5 ([.int .i64 (r1141.2.2.1), .int .i64 (r1141.2.2.2), .slice none (([] : List UInt8)).length 0, .slice none (([] : List (List UInt8))).length 0]) 37 :: HP.ow rStr 9 none 0 ([] : List (List UInt8)) :: HP.ow rByte 5 none 0 ([] : List UInt8) :: HP.blk b4 ([.int .i64 (o.1), .string (txb (o.2.1)), .string (txb (o.2.2.1)), .int .i64 (o.2.2.2.1), .int .i64 (o.2.2.2.2.1), .slice p6 (o.2.2.2.2.2).length c7]) 25 :: HP.rc R_files_file cs1142 r1141.1 :: l)) ?_ ?_
 refine cP F rfl (fun hg1143 => ?_) (fun hg1143 => ?_)
 replace hm := ifT hg1143 hm
 refine rl (bk [0] F H rfl ⟨fld37_0, trivial⟩ ?_); clear F; intro a F
 refine s_st1 wkP F rfl rfl zero33 rfl rfl rfl rfl rfl H 5 rfl rfl ?_; clear H; intro w H
 replace H := H.nf 9 rfl
 refine lz ?_
 cases hm
 refine ct ?_
 exact ⟨cs9, F.sl rfl, (H.pm 9 [0, 1, 3, 4, 5, 6, 7, 8, 2] rfl:)⟩
 replace hm := ifF hg1143 hm
 refine sr (bk [0, 8000, 0, 0] F H rfl ⟨fld25_0, rfl, plain3, trivial⟩ ?_); clear F; intro a F
 refine nl ?_
 obtain ⟨r1167, er1167, hm1167⟩ := ob hm; clear hm; revert er1167; intro hm
 refine x_mid (fun aa ww => ∃ (cs1168 : List Value), Fr ⟨91, []⟩ aa [(4, .pointer (some ⟨b5, 0, none⟩))] ∧ St w0 ww (HP.blk b10 (cs1168) 71 :: HP.ow rByte 5 none 0 ([] : List UInt8) :: HP.mm (some m1) ekStr true R_files_file (fun _ => True) r1167.2.1 :: HP.sl rByte p6 c7 o.2.2.2.2.2 :: HP.blk b5 ([.int .i64 (0), .int .i64 (r1167.2.2), .slice none (([] : List UInt8)).length 0, .slice none (([] : List (List UInt8))).length 0]) 37 :: HP.ow rStr 9 none 0 ([] : List (List UInt8)) :: HP.ow rByte 5 none 0 ([] : List UInt8) :: HP.blk b4 ([.int .i64 (o.1), .string (txb (o.2.1)), .string (txb (o.2.2.1)), .int .i64 (o.2.2.2.1), .int .i64 (o.2.2.2.2.1), .slice p6 (o.2.2.2.2.2).length c7]) 25 :: HP.rc R_files_file cs1168 r1167.1 :: l)) ?_ ?_
 refine cP F rfl (fun hg1169 => ?_) (fun hg1169 => ?_)
 replace hm := ifT hg1169 hm
 replace H := rc_files_file (H.pk 2 rfl); obtain ⟨p1170, c1171, rfl, H⟩ := H
 refine mix_region [6, 8] [8] (.step 0 0 (.step 0 1 (.step 0 2 (.step 0 3 (.step 1 4 (.step 0 5 (.step 2 6 (.step 0 7 (.step 3 8 .done))))))))) (fun u => ∃ ls, St w0 u (HP.blk b4 ([.int .i64 (o.1), .string (txb (o.2.1)), .string (txb (o.2.2.1)), .int .i64 (o.2.2.2.1), .int .i64 (o.2.2.2.2.1), .slice p6 (o.2.2.2.2.2).length c7]) 25 :: ls)) (by kernel_rfl) (by kernel_rfl) ⟨_, (H.drew.pm 9 [8, 0, 1, 2, 3, 4, 5, 6, 7] rfl:)⟩ ?_
 replace H := H.drew
 generalize w.drew = w at H ⊢
 refine mbk [0, 1] F H rfl ⟨fld25_1, trivial⟩ ?_; clear F; intro a F
 refine m_pure F rfl rfl rfl rfl (fun u hu => y_load1 F plain9 rfl rfl (row_at (v := .string (txb (o.2.1))) ((hu.choose_spec.blk 0 rfl).row) rfl)) ?_; clear F; intro a F
 refine mbk [1, 1001, 0] F H rfl ⟨fld71_1, rfl, plain23, trivial⟩ ?_; clear F; intro a F
 refine m_heavy rfl rfl ?_
 obtain ⟨x1172, ex1172, hm⟩ := ob hm
 refine sc wkP F rfl ent81 (w_sized ex1172 (H.pm 9 [0, 0, 1, 2, 3, 4, 5, 6, 7, 8] rfl:):) ?_; clear F H; rintro _ w a ⟨p1173, c1173, rfl, H⟩ F
 refine lz ?_; refine ct ⟨⟨_, (H.pm 10 [9, 0, 1, 2, 3, 4, 5, 6, 7, 8] rfl:)⟩, ?_⟩
 refine m_pure F rfl rfl rfl rfl (fun u hu => y_build F rfl rfl (cs := [.bool false, .slice p1173 (x1172).length c1173]) (by kernel_rfl)) ?_; clear F; intro a F
 refine m_last rfl rfl ?_
 replace H := H.frz 0 rfl
 refine s_mmSet wkP F rfl rfl Tryz.underlying65 (keyStr Tryz.underlying9) rfl H 4 rfl rfl (k := o.2.1) rfl (cs := [.bool false, .slice p1173 (x1172).length c1173]) rfl trivial (v := (false, x1172)) (fun gg => ⟨_, _, rfl, rfl, ⟨_, _, rfl, (gg 0 _ rfl).choose_spec⟩⟩) ?_; clear H; intro w H
 refine lz ?_; refine ct ?_
 refine m_nil ?_
 cases hm
 refine ct ?_
 replace H := H.mkRc (R := R_files_file) (cs := [.bool (x8.1.1), .slice p1170 (x8.1.2).length c1171]) (x := (x8.1.1, x8.1.2)) (fun gg => ⟨_, _, rfl, rfl, ⟨_, _, rfl, (gg 1 _ rfl).choose_spec⟩⟩)
 exact ⟨[.bool (x8.1.1), .slice p1170 (x8.1.2).length c1171], F.sl rfl, (H.pm 11 [3, 4, 5, 6, 7, 8, 9, 10, 0] rfl:)⟩
 replace hm := ifF hg1169 hm
 refine sr (bk [5, 8005, 0, 1] F H rfl ⟨fld25_5, rfl, plain23, ⟨_, Tryz.underlying23⟩, fld37_1, trivial⟩ ?_); clear F; intro a F
 refine s_st1 wkP F rfl rfl zero3 rfl rfl rfl rfl rfl H 5 rfl rfl ?_; clear H; intro w H
 replace H := H.nf 9 rfl
 refine nl (sr (bk [1, 5001, 0] F H rfl ⟨fld37_1, rfl, plain3, trivial⟩ ?_)); clear F; intro a F
 refine nl ?_
 obtain ⟨r1182, er1182, hm1182⟩ := ob hm; clear hm; revert er1182; intro hm
 refine x_mid (fun aa ww => ∃ (cs1183 : List Value), Fr ⟨91, []⟩ aa [(4, .pointer (some ⟨b5, 0, none⟩))] ∧ St w0 ww (HP.blk b10 (cs1183) 71 :: HP.ow rByte 5 none 0 ([] : List UInt8) :: HP.mm (some m1) ekStr true R_files_file (fun _ => True) r1182.2 :: HP.sl rByte p6 c7 o.2.2.2.2.2 :: HP.blk b5 ([.int .i64 (0), .int .i64 (((o.2.2.2.2.2).length : Int)), .slice none (([] : List UInt8)).length 0, .slice none (([] : List (List UInt8))).length 0]) 37 :: HP.ow rStr 9 none 0 ([] : List (List UInt8)) :: HP.ow rByte 5 none 0 ([] : List UInt8) :: HP.blk b4 ([.int .i64 (o.1), .string (txb (o.2.1)), .string (txb (o.2.2.1)), .int .i64 (o.2.2.2.1), .int .i64 (o.2.2.2.2.1), .slice p6 (o.2.2.2.2.2).length c7]) 25 :: HP.rc R_files_file cs1183 r1182.1 :: l)) ?_ ?_
 refine cP F rfl (fun hg1184 => ?_) (fun hg1184 => ?_)
 replace hm := ifT hg1184 hm
 refine sr (bk [1] F H rfl ⟨fld71_1, trivial⟩ ?_); clear F; intro a F
 replace H := rc_files_file (H.pk 2 rfl); obtain ⟨p1185, c1186, rfl, H⟩ := H
 refine bk [1001, 1, 1001, 0, 0, 1, 5001, 0] F H rfl ⟨rfl, plain23, fld71_1, rfl, plain23, ⟨_, Tryz.underlying23⟩, fld37_1, rfl, plain3, trivial⟩ ?_; clear F; intro a F
 refine s_val wkP F rfl rfl rfl rfl (y_max F rfl rfl rfl rfl) ?_; clear F; intro a F
 obtain ⟨x1187, ex1187, hm⟩ := ob hm
 refine sc wkP F rfl ent81 (w_sized ex1187 (H.pm 9 [0, 0, 1, 2, 3, 4, 5, 6, 7, 8] rfl:):) ?_; clear F H; rintro _ w a ⟨p1188, c1188, rfl, H⟩ F
 refine bk [0] F H rfl trivial ?_; clear F; intro a F
 replace H := H.nf 10 rfl
 refine nl (sq ?_)
 obtain ⟨x1190, ex1190, hm⟩ := ob hm
 have hc1189 := H.owForm 0 rfl
 refine mix_region [5] [5] (.step 0 0 (.step 0 1 (.step 0 2 (.step 0 3 (.step 1 4 (.step 3 5 .done)))))) (fun u => ∃ ls, St w0 u (ls)) (by kernel_rfl) (by kernel_rfl) ⟨_, H.drew⟩ ?_
 replace H := H.drew
 generalize w.drew = w at H ⊢
 refine mbk [0, 0] F H rfl trivial ?_; clear F; intro a F
 refine m_pure F rfl rfl rfl rfl (fun u hu => y_slL F elem23 rfl rfl rfl ex1190 hc1189) ?_; clear F; intro a F
 refine mbk [5, 9005] F H rfl ⟨fld25_5, rfl, plain23, trivial⟩ ?_; clear F; intro a F
 refine m_last rfl rfl ?_
 have hf1191 : (r12 : Int).toNat + (x1190).length ≤ (x1187).length := (ow_sub H 0 rfl ex1190).2
 have hl1191 : (putAt x1187 (r12 : Int).toNat ((o.2.2.2.2.2).take (x1190).length)).length = (x1187).length := putAt_len _ _ _ (by rw [List.length_take]; omega)
 refine s_cpyO wkP F rfl rfl rfl elem23 rfl H 0 5 rfl rfl (ow_sub H 0 rfl ex1190).1 hf1191 rfl rfl ?_; clear F H; intro w a H F
 replace F := F.bool (k := 40) (u := .slice p1188 ((putAt x1187 (r12 : Int).toNat ((o.2.2.2.2.2).take (x1190).length))).length c1188) rfl (by rw [hl1191])
 replace F := F.bool (k := 8) (u := .slice p1188 ((putAt x1187 (r12 : Int).toNat ((o.2.2.2.2.2).take (x1190).length))).length c1188) rfl (by rw [hl1191])
 replace F := F.bool (k := 41) (u := .slice p1188 ((putAt x1187 (r12 : Int).toNat ((o.2.2.2.2.2).take (x1190).length))).length c1188) rfl (by rw [hl1191])
 refine lz ?_; refine ct ?_
 refine m_nil ?_
 refine ct (rl (bk [0, 1, 9001, 0] F H rfl ⟨fld25_1, rfl, plain9, trivial⟩ ?_)); clear F; intro a F
 refine s_val wkP F rfl rfl rfl rfl (y_build F rfl rfl (cs := [.bool false, .slice p1188 ((putAt x1187 (r12 : Int).toNat ((o.2.2.2.2.2).take (x1190).length))).length c1188]) (by kernel_rfl)) ?_; clear F; intro a F
 replace H := H.frz 0 rfl
 refine s_mmSet wkP F rfl rfl Tryz.underlying65 (keyStr Tryz.underlying9) rfl H 4 rfl rfl (k := o.2.1) rfl (cs := [.bool false, .slice p1188 ((putAt x1187 (r12 : Int).toNat ((o.2.2.2.2.2).take (x1190).length))).length c1188]) rfl trivial (v := (false, (putAt x1187 (r12 : Int).toNat ((o.2.2.2.2.2).take (x1190).length)))) (fun gg => ⟨_, _, rfl, rfl, ⟨_, _, rfl, (gg 0 _ rfl).choose_spec⟩⟩) ?_; clear H; intro w H
 replace H := H.nf 10 rfl
 refine lz ?_
 cases hm
 refine ct ?_
 replace H := H.mkRc (R := R_files_file) (cs := [.bool (x8.1.1), .slice p1185 (x8.1.2).length c1186]) (x := (x8.1.1, x8.1.2)) (fun gg => ⟨_, _, rfl, rfl, ⟨_, _, rfl, (gg 1 _ rfl).choose_spec⟩⟩)
 exact ⟨[.bool (x8.1.1), .slice p1185 (x8.1.2).length c1186], F.sl rfl, (H.pm 11 [3, 4, 5, 6, 7, 8, 9, 10, 0] rfl:)⟩
 replace hm := ifF hg1184 hm
 refine sk ?_
 cases hm
 refine ct ?_
 exact ⟨cs9, F.sl rfl, (H.pm 9 [0, 1, 3, 4, 5, 6, 7, 8, 2] rfl:)⟩
 clear F H hm
 rintro a w ⟨cs1183, F, H⟩; have hm := hm1182; clear hm1182
 cases hm
 refine ct ?_
 exact ⟨cs1183, F.sl rfl, H⟩
 clear F H hm
 rintro a w ⟨cs1168, F, H⟩; have hm := hm1167; clear hm1167
 cases hm
 refine ct ?_
 exact ⟨cs1168, F.sl rfl, H⟩
 clear F H hm
 rintro a w ⟨cs1142, F, H⟩; have hm := hm1141; clear hm1141
 cases hm
 refine ct ?_
 exact ⟨cs1142, F.sl rfl, H⟩
 replace hm := ifF hg1091 hm
 replace F := F.bF 68 hg1091 rfl
 refine bk (List.replicate 9 0) F H rfl trivial ?_; clear F; intro a F
 refine nl (cF F rfl ?_)
 refine sr (bk [0, 8000, 0, 0] F H rfl ⟨fld25_0, rfl, plain3, trivial⟩ ?_); clear F; intro a F
 refine nl ?_
 obtain ⟨r1215, er1215, hm1215⟩ := ob hm; clear hm; revert er1215; intro hm
 refine x_mid (fun aa ww => ∃ (cs1216 : List Value), Fr ⟨91, []⟩ aa [(4, .pointer (some ⟨b5, 0, none⟩))] ∧ St w0 ww (HP.blk b10 (cs1216) 71 :: HP.ow rByte 5 none 0 ([] : List UInt8) :: HP.mm (some m1) ekStr true R_files_file (fun _ => True) r1215.2.1 :: HP.sl rByte p6 c7 o.2.2.2.2.2 :: HP.blk b5 ([.int .i64 (0), .int .i64 (r1215.2.2), .slice none (([] : List UInt8)).length 0, .slice none (([] : List (List UInt8))).length 0]) 37 :: HP.ow rStr 9 none 0 ([] : List (List UInt8)) :: HP.ow rByte 5 none 0 ([] : List UInt8) :: HP.blk b4 ([.int .i64 (o.1), .string (txb (o.2.1)), .string (txb (o.2.2.1)), .int .i64 (o.2.2.2.1), .int .i64 (o.2.2.2.2.1), .slice p6 (o.2.2.2.2.2).length c7]) 25 :: HP.rc R_files_file cs1216 r1215.1 :: l)) ?_ ?_
 refine cP F rfl (fun hg1217 => ?_) (fun hg1217 => ?_)
 replace hm := ifT hg1217 hm
 replace H := rc_files_file (H.pk 2 rfl); obtain ⟨p1218, c1219, rfl, H⟩ := H
 refine mix_region [6, 8] [8] (.step 0 0 (.step 0 1 (.step 0 2 (.step 0 3 (.step 1 4 (.step 0 5 (.step 2 6 (.step 0 7 (.step 3 8 .done))))))))) (fun u => ∃ ls, St w0 u (HP.blk b4 ([.int .i64 (o.1), .string (txb (o.2.1)), .string (txb (o.2.2.1)), .int .i64 (o.2.2.2.1), .int .i64 (o.2.2.2.2.1), .slice p6 (o.2.2.2.2.2).length c7]) 25 :: ls)) (by kernel_rfl) (by kernel_rfl) ⟨_, (H.drew.pm 9 [8, 0, 1, 2, 3, 4, 5, 6, 7] rfl:)⟩ ?_
 replace H := H.drew
 generalize w.drew = w at H ⊢
 refine mbk [0, 1] F H rfl ⟨fld25_1, trivial⟩ ?_; clear F; intro a F
 refine m_pure F rfl rfl rfl rfl (fun u hu => y_load1 F plain9 rfl rfl (row_at (v := .string (txb (o.2.1))) ((hu.choose_spec.blk 0 rfl).row) rfl)) ?_; clear F; intro a F
 refine mbk [1, 1001, 0] F H rfl ⟨fld71_1, rfl, plain23, trivial⟩ ?_; clear F; intro a F
 refine m_heavy rfl rfl ?_
 obtain ⟨x1220, ex1220, hm⟩ := ob hm
 refine sc wkP F rfl ent81 (w_sized ex1220 (H.pm 9 [0, 0, 1, 2, 3, 4, 5, 6, 7, 8] rfl:):) ?_; clear F H; rintro _ w a ⟨p1221, c1221, rfl, H⟩ F
 refine lz ?_; refine ct ⟨⟨_, (H.pm 10 [9, 0, 1, 2, 3, 4, 5, 6, 7, 8] rfl:)⟩, ?_⟩
 refine m_pure F rfl rfl rfl rfl (fun u hu => y_build F rfl rfl (cs := [.bool false, .slice p1221 (x1220).length c1221]) (by kernel_rfl)) ?_; clear F; intro a F
 refine m_last rfl rfl ?_
 replace H := H.frz 0 rfl
 refine s_mmSet wkP F rfl rfl Tryz.underlying65 (keyStr Tryz.underlying9) rfl H 4 rfl rfl (k := o.2.1) rfl (cs := [.bool false, .slice p1221 (x1220).length c1221]) rfl trivial (v := (false, x1220)) (fun gg => ⟨_, _, rfl, rfl, ⟨_, _, rfl, (gg 0 _ rfl).choose_spec⟩⟩) ?_; clear H; intro w H
 refine lz ?_; refine ct ?_
 refine m_nil ?_
 cases hm
 refine ct ?_
 replace H := H.mkRc (R := R_files_file) (cs := [.bool (x8.1.1), .slice p1218 (x8.1.2).length c1219]) (x := (x8.1.1, x8.1.2)) (fun gg => ⟨_, _, rfl, rfl, ⟨_, _, rfl, (gg 1 _ rfl).choose_spec⟩⟩)
 exact ⟨[.bool (x8.1.1), .slice p1218 (x8.1.2).length c1219], F.sl rfl, (H.pm 11 [3, 4, 5, 6, 7, 8, 9, 10, 0] rfl:)⟩
 replace hm := ifF hg1217 hm
 refine sr (bk [5, 8005, 0, 1] F H rfl ⟨fld25_5, rfl, plain23, ⟨_, Tryz.underlying23⟩, fld37_1, trivial⟩ ?_); clear F; intro a F
 refine s_st1 wkP F rfl rfl zero3 rfl rfl rfl rfl rfl H 5 rfl rfl ?_; clear H; intro w H
 replace H := H.nf 9 rfl
 refine nl (sr (bk [1, 5001, 0] F H rfl ⟨fld37_1, rfl, plain3, trivial⟩ ?_)); clear F; intro a F
 refine nl ?_
 obtain ⟨r1230, er1230, hm1230⟩ := ob hm; clear hm; revert er1230; intro hm
 refine x_mid (fun aa ww => ∃ (cs1231 : List Value), Fr ⟨91, []⟩ aa [(4, .pointer (some ⟨b5, 0, none⟩))] ∧ St w0 ww (HP.blk b10 (cs1231) 71 :: HP.ow rByte 5 none 0 ([] : List UInt8) :: HP.mm (some m1) ekStr true R_files_file (fun _ => True) r1230.2 :: HP.sl rByte p6 c7 o.2.2.2.2.2 :: HP.blk b5 ([.int .i64 (0), .int .i64 (((o.2.2.2.2.2).length : Int)), .slice none (([] : List UInt8)).length 0, .slice none (([] : List (List UInt8))).length 0]) 37 :: HP.ow rStr 9 none 0 ([] : List (List UInt8)) :: HP.ow rByte 5 none 0 ([] : List UInt8) :: HP.blk b4 ([.int .i64 (o.1), .string (txb (o.2.1)), .string (txb (o.2.2.1)), .int .i64 (o.2.2.2.1), .int .i64 (o.2.2.2.2.1), .slice p6 (o.2.2.2.2.2).length c7]) 25 :: HP.rc R_files_file cs1231 r1230.1 :: l)) ?_ ?_
 refine cP F rfl (fun hg1232 => ?_) (fun hg1232 => ?_)
 replace hm := ifT hg1232 hm
 refine sr (bk [1] F H rfl ⟨fld71_1, trivial⟩ ?_); clear F; intro a F
 replace H := rc_files_file (H.pk 2 rfl); obtain ⟨p1233, c1234, rfl, H⟩ := H
 refine bk [1001, 1, 1001, 0, 0, 1, 5001, 0] F H rfl ⟨rfl, plain23, fld71_1, rfl, plain23, ⟨_, Tryz.underlying23⟩, fld37_1, rfl, plain3, trivial⟩ ?_; clear F; intro a F
 refine s_val wkP F rfl rfl rfl rfl (y_max F rfl rfl rfl rfl) ?_; clear F; intro a F
 obtain ⟨x1235, ex1235, hm⟩ := ob hm
 refine sc wkP F rfl ent81 (w_sized ex1235 (H.pm 9 [0, 0, 1, 2, 3, 4, 5, 6, 7, 8] rfl:):) ?_; clear F H; rintro _ w a ⟨p1236, c1236, rfl, H⟩ F
 refine bk [0] F H rfl trivial ?_; clear F; intro a F
 replace H := H.nf 10 rfl
 refine nl (sq ?_)
 obtain ⟨x1238, ex1238, hm⟩ := ob hm
 have hc1237 := H.owForm 0 rfl
 refine mix_region [5] [5] (.step 0 0 (.step 0 1 (.step 0 2 (.step 0 3 (.step 1 4 (.step 3 5 .done)))))) (fun u => ∃ ls, St w0 u (ls)) (by kernel_rfl) (by kernel_rfl) ⟨_, H.drew⟩ ?_
 replace H := H.drew
 generalize w.drew = w at H ⊢
 refine mbk [0, 0] F H rfl trivial ?_; clear F; intro a F
 refine m_pure F rfl rfl rfl rfl (fun u hu => y_slL F elem23 rfl rfl rfl ex1238 hc1237) ?_; clear F; intro a F
 refine mbk [5, 9005] F H rfl ⟨fld25_5, rfl, plain23, trivial⟩ ?_; clear F; intro a F
 refine m_last rfl rfl ?_
 have hf1239 : (r12 : Int).toNat + (x1238).length ≤ (x1235).length := (ow_sub H 0 rfl ex1238).2
 have hl1239 : (putAt x1235 (r12 : Int).toNat ((o.2.2.2.2.2).take (x1238).length)).length = (x1235).length := putAt_len _ _ _ (by rw [List.length_take]; omega)
 refine s_cpyO wkP F rfl rfl rfl elem23 rfl H 0 5 rfl rfl (ow_sub H 0 rfl ex1238).1 hf1239 rfl rfl ?_; clear F H; intro w a H F
 replace F := F.bool (k := 40) (u := .slice p1236 ((putAt x1235 (r12 : Int).toNat ((o.2.2.2.2.2).take (x1238).length))).length c1236) rfl (by rw [hl1239])
 replace F := F.bool (k := 8) (u := .slice p1236 ((putAt x1235 (r12 : Int).toNat ((o.2.2.2.2.2).take (x1238).length))).length c1236) rfl (by rw [hl1239])
 replace F := F.bool (k := 41) (u := .slice p1236 ((putAt x1235 (r12 : Int).toNat ((o.2.2.2.2.2).take (x1238).length))).length c1236) rfl (by rw [hl1239])
 refine lz ?_; refine ct ?_
 refine m_nil ?_
 refine ct (rl (bk [0, 1, 9001, 0] F H rfl ⟨fld25_1, rfl, plain9, trivial⟩ ?_)); clear F; intro a F
 refine s_val wkP F rfl rfl rfl rfl (y_build F rfl rfl (cs := [.bool false, .slice p1236 ((putAt x1235 (r12 : Int).toNat ((o.2.2.2.2.2).take (x1238).length))).length c1236]) (by kernel_rfl)) ?_; clear F; intro a F
 replace H := H.frz 0 rfl
 refine s_mmSet wkP F rfl rfl Tryz.underlying65 (keyStr Tryz.underlying9) rfl H 4 rfl rfl (k := o.2.1) rfl (cs := [.bool false, .slice p1236 ((putAt x1235 (r12 : Int).toNat ((o.2.2.2.2.2).take (x1238).length))).length c1236]) rfl trivial (v := (false, (putAt x1235 (r12 : Int).toNat ((o.2.2.2.2.2).take (x1238).length)))) (fun gg => ⟨_, _, rfl, rfl, ⟨_, _, rfl, (gg 0 _ rfl).choose_spec⟩⟩) ?_; clear H; intro w H
 replace H := H.nf 10 rfl
 refine lz ?_
 cases hm
 refine ct ?_
 replace H := H.mkRc (R := R_files_file) (cs := [.bool (x8.1.1), .slice p1233 (x8.1.2).length c1234]) (x := (x8.1.1, x8.1.2)) (fun gg => ⟨_, _, rfl, rfl, ⟨_, _, rfl, (gg 1 _ rfl).choose_spec⟩⟩)
 exact ⟨[.bool (x8.1.1), .slice p1233 (x8.1.2).length c1234], F.sl rfl, (H.pm 11 [3, 4, 5, 6, 7, 8, 9, 10, 0] rfl:)⟩
 replace hm := ifF hg1232 hm
 refine sk ?_
 cases hm
 refine ct ?_
 exact ⟨cs9, F.sl rfl, (H.pm 9 [0, 1, 3, 4, 5, 6, 7, 8, 2] rfl:)⟩
 clear F H hm
 rintro a w ⟨cs1231, F, H⟩; have hm := hm1230; clear hm1230
 cases hm
 refine ct ?_
 exact ⟨cs1231, F.sl rfl, H⟩
 clear F H hm
 rintro a w ⟨cs1216, F, H⟩; have hm := hm1215; clear hm1215
 cases hm
 refine ct ?_
 exact ⟨cs1216, F.sl rfl, H⟩
 clear F H hm
 rintro a w ⟨cs1088, F, H⟩; have hm := hm1087; clear hm1087
 cases hm
 refine ct ?_
 exact ⟨cs1088, F.sl rfl, H⟩
 clear F H hm
 rintro a w ⟨cs934, F, H⟩; have hm := hm933; clear hm933
 refine bn ?_
 cases hm
 refine ct ?_
 exact ⟨cs934, F.sl rfl, H⟩
 clear F H hm
 rintro a w ⟨cs627, F, H⟩; have hm := hm626; clear hm626
 refine ct (sr (bk [4999] F H rfl ⟨rfl, (aggn agg37 (by simp only [List.length_append, List.length_cons, List.length_nil, icells_length, bcells_length])), trivial⟩ ?_)); clear F; intro a F
 refine s_storeA wkP F rfl rfl agg37 rfl rfl rfl H 4 rfl (by simp only [List.length_append, List.length_cons, List.length_nil, icells_length, bcells_length]) (by simp only [List.length_append, List.length_cons, List.length_nil, icells_length, bcells_length]) (by intro v hv; simp only [List.mem_append, List.mem_cons, List.not_mem_nil, or_false] at hv; first | (rcases hv with h | h <;> first | (subst h; rfl) | exact bcells_flat _ _ h | exact icells_flat _ _ _ h | (rcases h with h | h <;> first | (subst h; rfl) | exact bcells_flat _ _ h | exact icells_flat _ _ _ h | (rcases h with h | h <;> first | (subst h; rfl) | exact bcells_flat _ _ h | (rcases h with h | h <;> first | (subst h; rfl) | (rcases h with h | h <;> (subst h; rfl)))))) | (subst hv; rfl)) ?_; clear H; intro w H
 replace H := H.nf 9 rfl
 refine nl (wr ?_)
 replace H := H.frz 6 rfl
 replace H := H.frz 6 rfl
 replace H := H.mkRc (R := R_api_Answer) (cs := [.int .i64 (r626.2.2.1), .int .i64 (r626.2.2.2), .slice none (([] : List UInt8)).length 0, .slice none (([] : List (List UInt8))).length 0]) (x := (r626.2.2.1, r626.2.2.2, ([] : List UInt8), ([] : List (List UInt8)))) (fun gg => ⟨_, _, rfl, rfl, ⟨_, _, rfl, rfl, ⟨_, _, rfl, ⟨_, _, rfl, (gg 1 _ rfl).choose_spec⟩, ⟨_, _, rfl, (gg 0 _ rfl).choose_spec⟩⟩⟩⟩)
 cases hm
 refine x_resC1 F rfl (⟨_, rfl, agg37.run_load (H.blk 7 rfl).row (by simp only [List.length_append, List.length_cons, List.length_nil, icells_length, bcells_length])⟩) ?_
 exact ⟨_, rfl, [.int .i64 (r626.2.2.1), .int .i64 (r626.2.2.2), .slice none (([] : List UInt8)).length 0, .slice none (([] : List (List UInt8))).length 0], rfl, (H.pm 10 [0, 5] rfl:)⟩
theorem fld37_2 : FieldT Tryz.prog 37 2 2 := by unfold FieldT; rw [Tryz.underlying37]; kernel_rfl
set_option maxRecDepth 100000 in
set_option maxHeartbeats 4000000 in
theorem w_sRead {s : (List UInt8) → Option T_files_file} {o : T_api_Op} {q1 : Option Nat} {cs2 : List Value} {w0 w : World} {l : List HP}  {r : T_api_Answer} (hm : sRead s o = some r) (H : St w0 w (HP.mm q1 ekStr true R_files_file (fun _ => True) s :: HP.rc R_api_Op cs2 o :: l)) :
  Calls Tryz.prog 63 [.map q1, .agg cs2.toArray].toArray w (fun e w' => ∃ v, e = .returned v ∧ ∃ (cs3 : List Value), v = .agg cs3.toArray ∧ St w0 w' (HP.rc R_api_Answer cs3 r :: HP.mm q1 ekStr true R_files_file (fun _ => True) s :: l)) := by
 unfold sRead at hm
 refine x_enter Tryz.func63 rfl rfl rfl ?_
 intro a F
 refine sr (s_boxA wkP F rfl rfl rfl rfl rfl H ?_); clear F H; intro b4 w a H F
 replace H := H.owNil rByte 5
 replace H := H.owNil rStr 9
 refine s_allocA wkP F rfl rfl rfl agz37 rfl H ?_; clear F H; intro b5 w a H F
 replace H := H.nf 6 rfl
 refine nl (sr (bk [0, 1] F H rfl ⟨fld25_1, trivial⟩ ?_)); clear F; intro a F
 replace H := rc_api_Op (H.pk 5 rfl); obtain ⟨p6, c7, rfl, H⟩ := H
 refine bk [4001] F H rfl ⟨rfl, plain9, trivial⟩ ?_; clear F; intro a F
 obtain ⟨x8, ex8, hm⟩ := ob hm
 refine sc wkP F rfl ent80 (w_sRegular ex8 (H.pm 6 [5, 0, 1, 2, 3, 4] rfl:):) ?_; clear F H; rintro _ w a ⟨cs9, rfl, H⟩ F
 refine bk [0, 0, 0] F H rfl trivial ?_; clear F; intro a F
 replace H := H.owNil rByte 5
 refine s_allocA wkP F rfl rfl rfl agz71 rfl H ?_; clear F H; intro b10 w a H F
 refine s_storeA wkP F rfl rfl agg71 rfl rfl rfl H 0 rfl (H.rcLen 2 rfl) (by simp only [List.length_append, List.length_cons, List.length_nil, icells_length, bcells_length]) (H.rcFlat 2 rfl) ?_; clear H; intro w H
 refine bk [0] F H rfl trivial ?_; clear F; intro a F
 replace H := H.nf 9 rfl
 refine nl (sq ?_)
 obtain ⟨r60, er60, hm60⟩ := ob hm; clear hm; revert er60; intro hm
 refine x_mid (fun aa ww => ∃ (cs61 : List Value) (p62 : Option Addr) (c62 : Nat), Fr ⟨56, []⟩ aa [(4, .pointer (some ⟨b5, 0, none⟩))] ∧ St w0 ww (HP.blk b10 (cs61) 71 :: HP.ow rByte 5 none 0 ([] : List UInt8) :: HP.mm q1 ekStr true R_files_file (fun _ => True) s :: HP.sl rByte p6 c7 o.2.2.2.2.2 :: HP.blk b5 ([.int .i64 (r60.2.1), .int .i64 (r60.2.2.1), .slice p62 (r60.2.2.2).length c62, .slice none (([] : List (List UInt8))).length 0]) 37 :: HP.ow rStr 9 none 0 ([] : List (List UInt8)) :: HP.blk b4 ([.int .i64 (o.1), .string (txb (o.2.1)), .string (txb (o.2.2.1)), .int .i64 (o.2.2.2.1), .int .i64 (o.2.2.2.2.1), .slice p6 (o.2.2.2.2.2).length c7]) 25 :: HP.rc R_files_file cs61 r60.1 :: HP.ow rByte 5 p62 c62 r60.2.2.2 :: l)) ?_ ?_
 refine bl (sr (bk [0, 0, 0] F H rfl trivial ?_)); clear F; intro a F
 refine nl ?_
 obtain ⟨r86, er86, hm86⟩ := ob hm; clear hm; revert er86; intro hm
 refine x_mid (fun aa ww => ∃ (cs87 : List Value) (p88 : Option Addr) (c88 : Nat), Fr ⟨56, []⟩ aa [(4, .pointer (some ⟨b5, 0, none⟩))] ∧ St w0 ww (HP.blk b10 (cs87) 71 :: HP.ow rByte 5 none 0 ([] : List UInt8) :: HP.mm q1 ekStr true R_files_file (fun _ => True) s :: HP.sl rByte p6 c7 o.2.2.2.2.2 :: HP.blk b5 ([.int .i64 (r86.2.1), .int .i64 (r86.2.2.1), .slice p88 (r86.2.2.2).length c88, .slice none (([] : List (List UInt8))).length 0]) 37 :: HP.ow rStr 9 none 0 ([] : List (List UInt8)) :: HP.blk b4 ([.int .i64 (o.1), .string (txb (o.2.1)), .string (txb (o.2.2.1)), .int .i64 (o.2.2.2.1), .int .i64 (o.2.2.2.2.1), .slice p6 (o.2.2.2.2.2).length c7]) 25 :: HP.rc R_files_file cs87 r86.1 :: HP.ow rByte 5 p88 c88 r86.2.2.2 :: l)) ?_ ?_
 refine cN F rfl (fun hg89 => ?_) (fun hg89 => ?_)
 replace hm := ifF hg89 hm
 refine rl (bk [0, 0] F H rfl ⟨fld37_0, trivial⟩ ?_); clear F; intro a F
 refine s_st1 wkP F rfl rfl zero33 rfl rfl rfl rfl rfl H 5 rfl rfl ?_; clear H; intro w H
 replace H := H.nf 9 rfl
 refine lz ?_
 cases hm
 refine ct ?_
 exact ⟨cs9, none, 0, F.sl rfl, (H.pm 9 [0, 1, 3, 4, 5, 6, 8, 2, 7] rfl:)⟩
 replace hm := ifT hg89 hm
 refine sr (bk [3, 8003, 0, 0] F H rfl ⟨fld25_3, rfl, plain3, trivial⟩ ?_); clear F; intro a F
 by_cases hg90 : o.2.2.2.1 < 0
 replace hm := ifT hg90 hm
 replace F := F.bT 49 hg90 rfl
 refine bk (List.replicate 5 0) F H rfl trivial ?_; clear F; intro a F
 refine nl (cT F rfl ?_)
 refine rl (bk [0] F H rfl ⟨fld37_0, trivial⟩ ?_); clear F; intro a F
 refine s_st1 wkP F rfl rfl zero33 rfl rfl rfl rfl rfl H 5 rfl rfl ?_; clear H; intro w H
 replace H := H.nf 9 rfl
 refine lz ?_
 cases hm
 refine ct ?_
 exact ⟨cs9, none, 0, F.sl rfl, (H.pm 9 [0, 1, 3, 4, 5, 6, 8, 2, 7] rfl:)⟩
 replace hm := ifF hg90 hm
 replace F := F.bF 49 hg90 rfl
 refine bk [4, 8004, 0, 0, 0] F H rfl ⟨fld25_4, rfl, plain3, trivial⟩ ?_; clear F; intro a F
 refine nl ?_
 obtain ⟨r100, er100, hm100⟩ := ob hm; clear hm; revert er100; intro hm
 refine x_mid (fun aa ww => ∃ (cs101 : List Value) (p102 : Option Addr) (c102 : Nat), Fr ⟨56, []⟩ aa [(4, .pointer (some ⟨b5, 0, none⟩))] ∧ St w0 ww (HP.blk b10 (cs101) 71 :: HP.ow rByte 5 none 0 ([] : List UInt8) :: HP.mm q1 ekStr true R_files_file (fun _ => True) s :: HP.sl rByte p6 c7 o.2.2.2.2.2 :: HP.blk b5 ([.int .i64 (r100.2.1), .int .i64 (r100.2.2.1), .slice p102 (r100.2.2.2).length c102, .slice none (([] : List (List UInt8))).length 0]) 37 :: HP.ow rStr 9 none 0 ([] : List (List UInt8)) :: HP.blk b4 ([.int .i64 (o.1), .string (txb (o.2.1)), .string (txb (o.2.2.1)), .int .i64 (o.2.2.2.1), .int .i64 (o.2.2.2.2.1), .slice p6 (o.2.2.2.2.2).length c7]) 25 :: HP.rc R_files_file cs101 r100.1 :: HP.ow rByte 5 p102 c102 r100.2.2.2 :: l)) ?_ ?_
 refine cP F rfl (fun hg103 => ?_) (fun hg103 => ?_)
 replace hm := ifT hg103 hm
 refine rl (bk [0] F H rfl ⟨fld37_0, trivial⟩ ?_); clear F; intro a F
 refine s_st1 wkP F rfl rfl zero33 rfl rfl rfl rfl rfl H 5 rfl rfl ?_; clear H; intro w H
 replace H := H.nf 9 rfl
 refine lz ?_
 cases hm
 refine ct ?_
 exact ⟨cs9, none, 0, F.sl rfl, (H.pm 9 [0, 1, 3, 4, 5, 6, 8, 2, 7] rfl:)⟩
 replace hm := ifF hg103 hm
 refine sr (bk [3, 8003, 1] F H rfl ⟨fld25_3, rfl, plain3, fld71_1, trivial⟩ ?_); clear F; intro a F
 replace H := rc_files_file (H.pk 2 rfl); obtain ⟨p104, c105, rfl, H⟩ := H
 refine bk [1001, 0] F H rfl ⟨rfl, plain23, ⟨_, Tryz.underlying23⟩, trivial⟩ ?_; clear F; intro a F
 refine s_val wkP F rfl rfl rfl rfl (y_min F rfl rfl rfl rfl) ?_; clear F; intro a F
 refine bk [0] F H rfl trivial ?_; clear F; intro a F
 refine nl (sq ?_)
 obtain ⟨x107, ex107, hm⟩ := ob hm
 have hc106 := H.slCap 0 rfl
 replace H := H.slSubN 1 rfl 0 rfl ex107
 obtain ⟨x109, ex109, hm⟩ := ob hm
 have hc108 := H.slCap 0 rfl
 replace H := H.slSubN 1 rfl 0 rfl ex109
 refine mix_region [13, 15] [15] (.step 0 0 (.step 1 1 (.step 0 2 (.step 0 3 (.step 0 4 (.step 1 5 (.step 0 6 (.step 1 7 (.step 0 8 (.step 0 9 (.step 0 10 (.step 0 11 (.step 0 12 (.step 2 13 (.step 0 14 (.step 3 15 .done)))))))))))))))) (fun u => ∃ ls, St w0 u (ls)) (by kernel_rfl) (by kernel_rfl) ⟨_, H.drew⟩ ?_
 replace H := H.drew
 generalize w.drew = w at H ⊢
 refine mbk [1, 3001, 0] F H rfl ⟨fld71_1, rfl, plain23, trivial⟩ ?_; clear F; intro a F
 refine m_pure F rfl rfl rfl rfl (fun u hu => y_slL F elem23 rfl rfl rfl ex107 hc106) ?_; clear F; intro a F
 refine mbk [4, 10004, 1, 3001, 0, 0, 0] F H rfl ⟨fld25_4, rfl, plain3, fld71_1, rfl, plain23, ⟨_, Tryz.underlying23⟩, trivial⟩ ?_; clear F; intro a F
 refine m_pure F rfl rfl rfl rfl (fun u hu => y_min3 F rfl rfl rfl rfl rfl) ?_; clear F; intro a F
 refine m_pure F rfl rfl rfl rfl (fun u hu => y_slH F elem23 rfl rfl rfl ex109 hc108) ?_; clear F; intro a F
 refine m_heavy rfl rfl ?_
 obtain ⟨x110, ex110, hm⟩ := ob hm
 refine sc wkP F rfl ent55 (w_cloneB ex110 (H.pm 11 [0, 0, 1, 2, 3, 4, 5, 6, 7, 8, 9, 10] rfl:):) ?_; clear F H; rintro _ w a ⟨p111, c111, rfl, H⟩ F
 refine lz ?_; refine ct ⟨⟨_, H⟩, ?_⟩
 refine mbk [2] F H rfl ⟨fld37_2, trivial⟩ ?_; clear F; intro a F
 refine m_last rfl rfl ?_
 refine s_st1 wkP F rfl rfl zero23 rfl rfl rfl rfl rfl H 8 rfl rfl ?_; clear H; intro w H
 refine lz ?_; refine ct ?_
 refine m_nil ?_
 refine ct (rl (bk [1, 4001, 0, 1] F H rfl ⟨fld71_1, rfl, plain23, ⟨_, Tryz.underlying23⟩, fld37_1, trivial⟩ ?_)); clear F; intro a F
 refine s_st1 wkP F rfl rfl zero3 rfl rfl rfl rfl rfl H 8 rfl rfl ?_; clear H; intro w H
 replace H := H.nf 12 rfl
 refine lz ?_
 cases hm
 refine ct ?_
 replace H := H.mkRc (R := R_files_file) (cs := [.bool (x8.1.1), .slice p104 (x8.1.2).length c105]) (x := (x8.1.1, x8.1.2)) (fun gg => ⟨_, _, rfl, rfl, ⟨_, _, rfl, (gg 3 _ rfl).choose_spec⟩⟩)
 exact ⟨[.bool (x8.1.1), .slice p104 (x8.1.2).length c105], p111, c111, F.sl rfl, (H.pm 13 [5, 6, 7, 8, 9, 10, 12, 0, 1] rfl:)⟩
 clear F H hm
 rintro a w ⟨cs101, p102, c102, F, H⟩; have hm := hm100; clear hm100
 cases hm
 refine ct ?_
 exact ⟨cs101, p102, c102, F.sl rfl, H⟩
 clear F H hm
 rintro a w ⟨cs87, p88, c88, F, H⟩; have hm := hm86; clear hm86
 refine bn ?_
 cases hm
 refine ct ?_
 exact ⟨cs87, p88, c88, F.sl rfl, H⟩
 clear F H hm
 rintro a w ⟨cs61, p62, c62, F, H⟩; have hm := hm60; clear hm60
 refine ct (sr (bk [4999] F H rfl ⟨rfl, (aggn agg37 (by simp only [List.length_append, List.length_cons, List.length_nil, icells_length, bcells_length])), trivial⟩ ?_)); clear F; intro a F
 refine s_storeA wkP F rfl rfl agg37 rfl rfl rfl H 4 rfl (by simp only [List.length_append, List.length_cons, List.length_nil, icells_length, bcells_length]) (by simp only [List.length_append, List.length_cons, List.length_nil, icells_length, bcells_length]) (by intro v hv; simp only [List.mem_append, List.mem_cons, List.not_mem_nil, or_false] at hv; first | (rcases hv with h | h <;> first | (subst h; rfl) | exact bcells_flat _ _ h | exact icells_flat _ _ _ h | (rcases h with h | h <;> first | (subst h; rfl) | exact bcells_flat _ _ h | exact icells_flat _ _ _ h | (rcases h with h | h <;> first | (subst h; rfl) | exact bcells_flat _ _ h | (rcases h with h | h <;> first | (subst h; rfl) | (rcases h with h | h <;> (subst h; rfl)))))) | (subst hv; rfl)) ?_; clear H; intro w H
 replace H := H.nf 9 rfl
 refine nl (wr ?_)
 replace H := H.frz 8 rfl
 replace H := H.frz 6 rfl
 replace H := H.mkRc (R := R_api_Answer) (cs := [.int .i64 (r60.2.1), .int .i64 (r60.2.2.1), .slice p62 (r60.2.2.2).length c62, .slice none (([] : List (List UInt8))).length 0]) (x := (r60.2.1, r60.2.2.1, r60.2.2.2, ([] : List (List UInt8)))) (fun gg => ⟨_, _, rfl, rfl, ⟨_, _, rfl, rfl, ⟨_, _, rfl, ⟨_, _, rfl, (gg 1 _ rfl).choose_spec⟩, ⟨_, _, rfl, (gg 0 _ rfl).choose_spec⟩⟩⟩⟩)
 cases hm
 refine x_resC1 F rfl (⟨_, rfl, agg37.run_load (H.blk 7 rfl).row (by simp only [List.length_append, List.length_cons, List.length_nil, icells_length, bcells_length])⟩) ?_
 exact ⟨_, rfl, [.int .i64 (r60.2.1), .int .i64 (r60.2.2.1), .slice p62 (r60.2.2.2).length c62, .slice none (([] : List (List UInt8))).length 0], rfl, (H.pm 10 [0, 5] rfl:)⟩
end Go.Proofs.YtohmcgmmphpgoaaGreatDoor
