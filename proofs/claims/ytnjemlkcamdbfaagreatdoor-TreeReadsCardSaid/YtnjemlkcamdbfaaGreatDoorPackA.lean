/- pack -/
import Derived.Test.YtnjemlkcamdbfaaGreatDoorShaC
set_option linter.unusedSimpArgs false
set_option linter.unusedVariables false
namespace Go.Proofs.YtnjemlkcamdbfaaGreatDoor
open Go.RowKit Go.Tri
set_option maxRecDepth 100000
set_option maxHeartbeats 4000000
theorem w_cloneB {s : List UInt8} {p1 : Option Addr} {c1 : Nat} {w0 w : World} {l : List HP}  {r : (List UInt8)} (hm : cloneB s = some r) (H : St w0 w (HP.sl rByte p1 c1 s :: l)) :
  Calls Tryz.prog 95 [.slice p1 (s).length c1].toArray w (fun e w' => ∃ v, e = .returned v ∧ ∃ (p2 : Option Addr) (c2 : Nat), v = .slice p2 (r).length c2 ∧ St w0 w' (HP.ow rByte 5 p2 c2 r :: l)) := by
 unfold cloneB at hm
 refine x_enter Tryz.func95 rfl rfl rfl ?_
 intro a F
 refine sb [0] F H rfl fun a F => ?_
 refine nl (sq (sb [0] F H rfl fun a F => ?_))
 obtain _ | ad := p1
 obtain ⟨hx0, hc0⟩ := H.slNone 0 rfl; subst hc0; try subst hx0
 replace H := H.dp 0 rfl
 refine sv F rfl (y_eqNil F rfl Tryz.underlying26 rfl rfl (by simp)) fun a F => ?_
 refine nl (cT F rfl ?_)
 refine sb [0] F H rfl fun a F => ?_
 refine nl (wr (tr ?_))
 replace H := H.owNil rByte 5
 cases hm
 refine x_ret1 F rfl rfl ?_
 exact ⟨_, rfl, none, 0, rfl, H⟩
 refine sv F rfl (y_eqSome F rfl Tryz.underlying26 rfl rfl (by simp)) fun a F => ?_
 refine nl (cF F rfl ?_)
 refine sk (ct (sr (s_build0O (R := rByte) wkP F rfl rfl rfl elem26 rfl H fun b3 w a H F => ?_)))
 refine bb [0] F H rfl fun a F => ?_
 obtain ⟨x5, ex5, hm⟩ := ob hm
 refine s_app wkP F rfl rfl rfl rfl rfl rfl elem26 rfl ex5 H 0 1 rfl rfl fun p4 c4 w a H F => ?_
 refine bb [0] F H rfl fun a F => ?_
 replace H := H.nf 2 rfl
 refine nl (wr ?_)
 cases hm
 refine x_ret1 F rfl rfl ?_
 exact ⟨_, rfl, p4, c4, rfl, (H.pm 2 [0] rfl:)⟩
theorem fld132_0 : FieldT Tryz.prog 132 0 0 := by unfold FieldT; rw [Tryz.underlying132]; kernel_rfl
theorem w_penRaw {p : T_pack_Pen_o} {b : List UInt8} {bo0 : Nat} {p1 : Option Addr} {c1 : Nat} {w0 w : World} {l : List HP}  {r : T_pack_Pen_o} (hm : penRaw p b = some r) (H : St w0 w (O_pack_Pen bo0 p :: HP.sl rByte p1 c1 b :: l)) :
  Calls Tryz.prog 67 [.pointer (some ⟨bo0, 0, none⟩), .slice p1 (b).length c1].toArray w (fun e w' => ∃ v, e = .returned v ∧ v = .tuple [].toArray ∧ St w0 w' (O_pack_Pen bo0 r :: l)) := by
 unfold penRaw at hm
 refine x_enter Tryz.func67 rfl rfl rfl ?_
 intro a F
 refine rl (bk [0,0,0,0] F H rfl ⟨fld132_0, trivial⟩ fun a F => ?_)
 obtain ⟨p2, c3, H⟩ := O_pack_Pen_o (H.pk 0 rfl)
 refine bk [0,0] F H rfl ⟨rfl, plain26, trivial⟩ fun a F => ?_
 obtain ⟨x5, ex5, hm⟩ := ob hm
 refine s_app wkP F rfl rfl rfl rfl rfl rfl elem26 rfl ex5 H 1 2 rfl rfl fun p4 c4 w a H F => ?_
 refine bk [0,0] F H rfl ⟨fld132_0, trivial⟩ fun a F => ?_
 refine s_st1 wkP F rfl rfl zero26 rfl rfl rfl rfl rfl H 0 rfl rfl fun w H => ?_
 replace H := H.nf 3 rfl
 refine lz ?_
 replace H := O_pack_Pen_s H
 cases hm
 refine x_end0 F rfl ?_
 exact ⟨_, rfl, rfl, (H.pm 2 [0] rfl:)⟩
theorem w_penUint {p : T_pack_Pen_o} {n : Int} {size : Int} {bo0 : Nat} {w0 w : World} {l : List HP}  {r : Int × T_pack_Pen_o} (hm : penUint p n size = some r) (H : St w0 w (O_pack_Pen bo0 p :: l)) :
  Calls Tryz.prog 94 [.pointer (some ⟨bo0, 0, none⟩), .int .u64 (n), .int .i64 (size)].toArray w (fun e w' => ∃ v, e = .returned v ∧ v = .int .i64 (r.1) ∧ St w0 w' (O_pack_Pen bo0 r.2 :: l)) := by
 unfold penUint at hm
 refine x_enter Tryz.func94 rfl rfl rfl ?_
 intro a F
 refine sb [0] F H rfl fun a F => ?_
 refine nl (sq (sb [0,0,0] F H rfl fun a F => ?_))
 rcases spP 10 F rfl hm with ⟨hg1, hm, F⟩ | ⟨hg1, hm, F⟩
 refine bb (List.replicate 14 0) F H rfl fun a F => ?_
 refine nl (cT F rfl ?_)
 refine sb [0] F H rfl fun a F => ?_
 refine nl (wr (tr ?_))
 cases hm
 refine x_ret1 F rfl rfl ?_
 exact ⟨_, rfl, rfl, H⟩
 refine bb [0,0,0,0] F H rfl fun a F => ?_
 rcases spP 14 F rfl hm with ⟨hg2, hm, F⟩ | ⟨hg2, hm, F⟩
 refine bb (List.replicate 10 0) F H rfl fun a F => ?_
 refine nl (cT F rfl ?_)
 refine sb [0] F H rfl fun a F => ?_
 refine nl (wr (tr ?_))
 cases hm
 refine x_ret1 F rfl rfl ?_
 exact ⟨_, rfl, rfl, H⟩
 refine bb [0,0,0] F H rfl fun a F => ?_
 rcases spP 17 F rfl hm with ⟨hg3, hm, F⟩ | ⟨hg3, hm, F⟩
 refine bb [0,0,0] F H rfl fun a F => ?_
 refine g_onP F rfl rfl rfl rfl ?_
 obtain ⟨x4, ex4, hm⟩ := ob hm
 refine sv F rfl (i_shrO F rfl rfl rfl ex4) fun a F => ?_
 refine bb [0,0,0] F H rfl fun a F => ?_
 refine nl (cPm F rfl hm (fun hg5 hm => ?_) (fun hg5 hm => ?_))
 refine sb [0] F H rfl fun a F => ?_
 refine nl (wr (tr ?_))
 cases hm
 refine x_ret1 F rfl rfl ?_
 exact ⟨_, rfl, rfl, H⟩
 refine sk (ct (sq (sb [0,0,0] F H rfl fun a F => ?_)))
 refine nl (xm0 1 [] [] F H hm rfl rfl (fun r31 z => z) (fun r31 z => O_pack_Pen bo0 r31 :: z) (fun r31 hm => ?_) (fun r31 a w hm F H => ?_))
 refine bl (xl0 1 [0,1] [] F H hm rfl rfl (fun (s48 : T_pack_Pen_o × Int) z => (7, .int .i64 (s48.2)) :: z) (fun s48 z => O_pack_Pen bo0 s48.1 :: z) ⟨F.sl rfl, H⟩ (fun s48 a w o F H hm => ?_))
 refine sq (sb [0,0] F H rfl fun a F => ?_)
 refine nl (cPm F rfl hm (fun hg49 hm => ?_) (fun hg49 hm => ?_))
 refine sk (ct (sq (bl ?_)))
 obtain ⟨p50, c51, H⟩ := O_pack_Pen_o (H.pk 0 rfl)
 obtain ⟨x52, ex52, hm⟩ := ob hm
 refine mix_regionK [10,11,14] [14] (scL [0,1,2,3,4,5,6,7,8,9,2010,2011,12,13,3014]) [0] H rfl rfl (by kernel_rfl) (by kernel_rfl) fun w H => ?_
 refine mbk [0,0,0,0] F H rfl ⟨fld132_0, trivial⟩ fun a F => ?_
 refine m_pure F rfl rfl rfl rfl (fun u hu => y_load1 F plain26 rfl rfl (row_at (v := .slice p50 (s48.1).length c51) ((hu.choose_spec.blk 0 rfl).row) rfl)) fun a F => ?_
 refine mb [0,0,0] F H rfl fun a F => ?_
 refine m_pure F rfl rfl rfl rfl (fun u hu => i_shrO F rfl rfl rfl ex52) fun a F => ?_
 refine mbk [1] F H rfl ⟨Tryz.underlying116, Tryz.underlying5, trivial⟩ fun a F => ?_
 refine m_heavy rfl rfl ?_
 obtain ⟨x54, ex54, hm⟩ := ob hm
 refine s_buildC wkP F rfl rfl rfl elem26 zero5 rfl rfl rfl rfl (by simp [Value.cells]) (by decide) H fun b53 w a H F => ?_
 replace H := H.blkOw1 (R := rByte) (x := x54) (fun gg => (congrArg (fun z => [Value.int .u8 z]) (u8O_some ex54).symm))
 refine lz ?_; refine ct ⟨⟨_, (H.pm 3 [1,0,2] rfl:)⟩, ?_⟩
 refine m_heavy rfl rfl ?_
 replace H := H.frz 0 rfl
 obtain ⟨x56, ex56, hm⟩ := ob hm
 refine s_app wkP F rfl rfl rfl rfl rfl rfl elem26 rfl ex56 H 2 0 rfl rfl fun p55 c55 w a H F => ?_
 refine lz ?_; refine ct ⟨⟨_, (H.pm 3 [1,0,2] rfl:)⟩, ?_⟩
 refine mbk [0,0] F H rfl ⟨fld132_0, trivial⟩ fun a F => ?_
 refine m_last rfl rfl ?_
 refine s_st1 wkP F rfl rfl zero26 rfl rfl rfl rfl rfl H 1 rfl rfl fun w H => ?_
 refine lz ?_; refine ct ?_
 refine m_nil ?_
 refine bn (ct (rl (bb [0,0,0] F H rfl fun a F => ?_)))
 replace H := H.nf 3 rfl
 refine lz ?_
 replace H := O_pack_Pen_s (H.pm 3 [1,2,0] rfl:)
 refine ct ?_; cases hm
 exact ⟨_, rfl, ⟨F.sl rfl, (H.pm 2 [0] rfl:)⟩⟩
 refine ex (cx (cx ?_)); cases hm; refine ⟨_, rfl, ?_⟩; rintro rfl
 refine ch (ct ?_)
 exact ⟨F.cut _ trivial, H⟩
 refine ct (sb [0] F H rfl fun a F => ?_)
 refine nl (wr ?_)
 cases hm
 refine x_ret1 F rfl rfl ?_
 exact ⟨_, rfl, rfl, H⟩
 refine bb (List.replicate 7 0) F H rfl fun a F => ?_
 refine nl (cF F rfl ?_)
 refine sk (ct (sq (sb [0,0,0] F H rfl fun a F => ?_)))
 refine nl (xm0 1 [] [] F H hm rfl rfl (fun r82 z => z) (fun r82 z => O_pack_Pen bo0 r82 :: z) (fun r82 hm => ?_) (fun r82 a w hm F H => ?_))
 refine bl (xl0 1 [0,1] [] F H hm rfl rfl (fun (s99 : T_pack_Pen_o × Int) z => (7, .int .i64 (s99.2)) :: z) (fun s99 z => O_pack_Pen bo0 s99.1 :: z) ⟨F.sl rfl, H⟩ (fun s99 a w o F H hm => ?_))
 refine sq (sb [0,0] F H rfl fun a F => ?_)
 refine nl (cPm F rfl hm (fun hg100 hm => ?_) (fun hg100 hm => ?_))
 refine sk (ct (sq (bl ?_)))
 obtain ⟨p101, c102, H⟩ := O_pack_Pen_o (H.pk 0 rfl)
 obtain ⟨x103, ex103, hm⟩ := ob hm
 refine mix_regionK [10,11,14] [14] (scL [0,1,2,3,4,5,6,7,8,9,2010,2011,12,13,3014]) [0] H rfl rfl (by kernel_rfl) (by kernel_rfl) fun w H => ?_
 refine mbk [0,0,0,0] F H rfl ⟨fld132_0, trivial⟩ fun a F => ?_
 refine m_pure F rfl rfl rfl rfl (fun u hu => y_load1 F plain26 rfl rfl (row_at (v := .slice p101 (s99.1).length c102) ((hu.choose_spec.blk 0 rfl).row) rfl)) fun a F => ?_
 refine mb [0,0,0] F H rfl fun a F => ?_
 refine m_pure F rfl rfl rfl rfl (fun u hu => i_shrO F rfl rfl rfl ex103) fun a F => ?_
 refine mbk [1] F H rfl ⟨Tryz.underlying116, Tryz.underlying5, trivial⟩ fun a F => ?_
 refine m_heavy rfl rfl ?_
 obtain ⟨x105, ex105, hm⟩ := ob hm
 refine s_buildC wkP F rfl rfl rfl elem26 zero5 rfl rfl rfl rfl (by simp [Value.cells]) (by decide) H fun b104 w a H F => ?_
 replace H := H.blkOw1 (R := rByte) (x := x105) (fun gg => (congrArg (fun z => [Value.int .u8 z]) (u8O_some ex105).symm))
 refine lz ?_; refine ct ⟨⟨_, (H.pm 3 [1,0,2] rfl:)⟩, ?_⟩
 refine m_heavy rfl rfl ?_
 replace H := H.frz 0 rfl
 obtain ⟨x107, ex107, hm⟩ := ob hm
 refine s_app wkP F rfl rfl rfl rfl rfl rfl elem26 rfl ex107 H 2 0 rfl rfl fun p106 c106 w a H F => ?_
 refine lz ?_; refine ct ⟨⟨_, (H.pm 3 [1,0,2] rfl:)⟩, ?_⟩
 refine mbk [0,0] F H rfl ⟨fld132_0, trivial⟩ fun a F => ?_
 refine m_last rfl rfl ?_
 refine s_st1 wkP F rfl rfl zero26 rfl rfl rfl rfl rfl H 1 rfl rfl fun w H => ?_
 refine lz ?_; refine ct ?_
 refine m_nil ?_
 refine bn (ct (rl (bb [0,0,0] F H rfl fun a F => ?_)))
 replace H := H.nf 3 rfl
 refine lz ?_
 replace H := O_pack_Pen_s (H.pm 3 [1,2,0] rfl:)
 refine ct ?_; cases hm
 exact ⟨_, rfl, ⟨F.sl rfl, (H.pm 2 [0] rfl:)⟩⟩
 refine ex (cx (cx ?_)); cases hm; refine ⟨_, rfl, ?_⟩; rintro rfl
 refine ch (ct ?_)
 exact ⟨F.cut _ trivial, H⟩
 refine ct (sb [0] F H rfl fun a F => ?_)
 refine nl (wr ?_)
 cases hm
 refine x_ret1 F rfl rfl ?_
 exact ⟨_, rfl, rfl, H⟩
theorem ent94 : En Tryz.prog 94 := enters Tryz.func94 (by kernel_rfl) rfl
theorem ent67 : En Tryz.prog 67 := enters Tryz.func67 (by kernel_rfl) rfl
theorem w_penText {p : T_pack_Pen_o} {b : List UInt8} {bo0 : Nat} {p1 : Option Addr} {c1 : Nat} {w0 w : World} {l : List HP}  {r : Int × T_pack_Pen_o} (hm : penText p b = some r) (H : St w0 w (O_pack_Pen bo0 p :: HP.sl rByte p1 c1 b :: l)) :
  Calls Tryz.prog 68 [.pointer (some ⟨bo0, 0, none⟩), .slice p1 (b).length c1].toArray w (fun e w' => ∃ v, e = .returned v ∧ v = .int .i64 (r.1) ∧ St w0 w' (O_pack_Pen bo0 r.2 :: l)) := by
 unfold penText at hm
 refine x_enter Tryz.func68 rfl rfl rfl ?_
 intro a F
 refine sb [0] F H rfl fun a F => ?_
 refine nl (sq (sr (bk [0,0,0,2] F H rfl ⟨⟨_, Tryz.underlying26⟩, Tryz.underlying3, Tryz.underlying116, trivial⟩ fun a F => ?_)))
 obtain ⟨x2, ex2, hm⟩ := ob hm
 refine sd F rfl ent94 (w_penUint ex2 H:) ?_; rintro _ w a ⟨rfl, H⟩ F
 refine bb [0] F H rfl fun a F => ?_
 replace H := H.nf 2 rfl
 refine nl (cNm F rfl hm (fun hg3 hm => ?_) (fun hg3 hm => ?_))
 refine sb [0] F H rfl fun a F => ?_
 refine nl (wr (tr ?_))
 cases hm
 refine x_ret1 F rfl rfl ?_
 exact ⟨_, rfl, rfl, (H.pm 2 [0] rfl:)⟩
 refine sk (ct (sb [0,0] F H rfl fun a F => ?_))
 obtain ⟨x4, ex4, hm⟩ := ob hm
 refine sd F rfl ent67 (w_penRaw ex4 (H.pm 2 [0,1,1] rfl:):) ?_; rintro _ w a ⟨rfl, H⟩ F
 replace H := H.nf 2 rfl
 refine nb [0] F H rfl fun a F => ?_
 refine nl (wr ?_)
 cases hm
 refine x_ret1 F rfl rfl ?_
 exact ⟨_, rfl, rfl, (H.pm 2 [0] rfl:)⟩
theorem ent95 : En Tryz.prog 95 := enters Tryz.func95 (by kernel_rfl) rfl
theorem w_penData {p : T_pack_Pen_o} {bo0 : Nat} {w0 w : World} {l : List HP}  {r : (List UInt8) × T_pack_Pen_o} (hm : penData p = some r) (H : St w0 w (O_pack_Pen bo0 p :: l)) :
  Calls Tryz.prog 69 [.pointer (some ⟨bo0, 0, none⟩)].toArray w (fun e w' => ∃ v, e = .returned v ∧ ∃ (p1 : Option Addr) (c1 : Nat), v = .slice p1 (r.1).length c1 ∧ St w0 w' (HP.ow rByte 5 p1 c1 r.1 :: O_pack_Pen_1 bo0 r.2 :: l)) := by
 unfold penData at hm
 refine x_enter Tryz.func69 rfl rfl rfl ?_
 intro a F
 refine sb [0] F H rfl fun a F => ?_
 refine nl (sr (bk [0,0,0] F H rfl ⟨fld132_0, trivial⟩ fun a F => ?_))
 obtain ⟨p2, c3, H⟩ := O_pack_Pen_o (H.pk 0 rfl)
 refine bk [0] F H rfl ⟨rfl, plain26, trivial⟩ fun a F => ?_
 replace H := H.frz 1 rfl
 obtain ⟨x4, ex4, hm⟩ := ob hm
 refine sd F rfl ent95 (w_cloneB ex4 (H.pm 2 [0,0,1] rfl:):) ?_; rintro _ w a ⟨p5, c5, rfl, H⟩ F
 refine bb [0] F H rfl fun a F => ?_
 replace H := H.nf 3 rfl
 refine nl (wr ?_)
 replace H := O_pack_Pen_1_s (H.pm 3 [2,1,0,1] rfl:)
 cases hm
 refine x_ret1 F rfl rfl ?_
 exact ⟨_, rfl, p5, c5, rfl, (H.pm 3 [1,0] rfl:)⟩
theorem w_newEye {data : List UInt8} {p1 : Option Addr} {c1 : Nat} {w0 w : World} {l : List HP}  {r : T_pack_Eye_o} (hm : newEye data = some r) (H : St w0 w (HP.sl rByte p1 c1 data :: l)) :
  Calls Tryz.prog 73 [.slice p1 (data).length c1].toArray w (fun e w' => ∃ v, e = .returned v ∧ ∃ (b2 : Nat), v = .pointer (some ⟨b2, 0, none⟩) ∧ St w0 w' (O_pack_Eye b2 r :: l)) := by
 unfold newEye at hm
 refine x_enter Tryz.func73 rfl rfl rfl ?_
 intro a F
 refine sb [0] F H rfl fun a F => ?_
 refine nb [0] F H rfl fun a F => ?_
 obtain ⟨x3, ex3, hm⟩ := ob hm
 refine sd F rfl ent95 (w_cloneB ex3 (H.pm 1 [0,0] rfl:):) ?_; rintro _ w a ⟨p4, c4, rfl, H⟩ F
 refine sv F rfl (y_build F rfl rfl (cs := [.slice p4 (x3).length c4]) (by kernel_rfl)) fun a F => ?_
 refine s_boxA wkP F rfl rfl rfl rfl rfl H fun b5 w a H F => ?_
 refine bb [0] F H rfl fun a F => ?_
 replace H := H.nf 3 rfl
 refine nl (wr ?_)
 replace H := H.frz 1 rfl
 replace H := O_pack_Eye_s (H.pm 3 [1,0,0,2] rfl:)
 cases hm
 refine x_ret1 F rfl rfl ?_
 exact ⟨_, rfl, b5, rfl, (H.pm 3 [0] rfl:)⟩
theorem fld167_0 : FieldT Tryz.prog 167 0 0 := by unfold FieldT; rw [Tryz.underlying167]; kernel_rfl
theorem w_eyeRaw {e : T_pack_Eye_o} {n : Int} {bo0 : Nat} {w0 w : World} {l : List HP}  {r : (List UInt8) × Int × T_pack_Eye_o} (hm : eyeRaw e n = some r) (H : St w0 w (O_pack_Eye bo0 e :: l)) :
  Calls Tryz.prog 76 [.pointer (some ⟨bo0, 0, none⟩), .int .i64 (n)].toArray w (fun e w' => ∃ v, e = .returned v ∧ ∃ (p1 : Option Addr) (c1 : Nat), v = .tuple [.slice p1 (r.1).length c1, .int .i64 (r.2.1)].toArray ∧ St w0 w' (HP.ow rByte 5 p1 c1 r.1 :: O_pack_Eye bo0 r.2.2 :: l)) := by
 unfold eyeRaw at hm
 refine x_enter Tryz.func76 rfl rfl rfl ?_
 intro a F
 refine sb [0,0] F H rfl fun a F => ?_
 refine nl (sq (bl (sb [0,0,0] F H rfl fun a F => ?_)))
 refine nl (cPm F rfl hm (fun hg2 hm => ?_) (fun hg2 hm => ?_))
 refine sb [0,0] F H rfl fun a F => ?_
 refine nl (wr (br (tr ?_)))
 replace H := H.owNil rByte 5
 cases hm
 refine x_ret2 F rfl rfl rfl ?_
 exact ⟨_, rfl, none, 0, rfl, H⟩
 refine sr (bk [0,0,0,0] F H rfl ⟨fld167_0, trivial⟩ fun a F => ?_)
 obtain ⟨p3, c4, H⟩ := O_pack_Eye_o (H.pk 0 rfl)
 refine bk [0,0,0,0] F H rfl ⟨rfl, plain26, ⟨_, Tryz.underlying26⟩, trivial⟩ fun a F => ?_
 refine nl (cPm F rfl hm (fun hg5 hm => ?_) (fun hg5 hm => ?_))
 refine sb [0,0] F H rfl fun a F => ?_
 refine nl (wr (br (tr ?_)))
 replace H := H.owNil rByte 5
 replace H := O_pack_Eye_s (H.pm 3 [1,2,0,2] rfl:)
 cases hm
 refine x_ret2 F rfl rfl rfl ?_
 exact ⟨_, rfl, none,0, rfl, (H.pm 3 [1,0] rfl:)⟩
 refine sk (bn (ct (sr (bk (List.replicate 5 0) F H rfl ⟨fld167_0, rfl, plain26, trivial⟩ fun a F => ?_))))
 obtain ⟨x7, ex7, hm⟩ := ob hm
 have hc6 := H.slCap 1 rfl
 replace H := H.slSubN 1 rfl 1 rfl ex7
 refine sv F rfl (y_slH F elem26 rfl rfl rfl ex7 hc6) fun a F => ?_
 obtain ⟨x8, ex8, hm⟩ := ob hm
 refine sd F rfl ent95 (w_cloneB ex8 (H.pm 3 [0,0,1,2] rfl:):) ?_; rintro _ w a ⟨p9, c9, rfl, H⟩ F
 refine bb [0] F H rfl fun a F => ?_
 replace H := H.nf 4 rfl
 refine nl (sr (bk [0,0,0,0,2000,0] F H rfl ⟨fld167_0, rfl, plain26, trivial⟩ fun a F => ?_))
 obtain ⟨x11, ex11, hm⟩ := ob hm
 have hc10 := H.slCap 3 rfl
 replace H := H.slSubN 1 rfl 3 rfl ex11
 refine sv F rfl (y_slL F elem26 rfl rfl rfl ex11 hc10) fun a F => ?_
 refine bk [0,0] F H rfl ⟨fld167_0, trivial⟩ fun a F => ?_
 refine s_st1 wkP F rfl rfl zero26 rfl rfl rfl rfl rfl H 3 rfl rfl fun w H => ?_
 replace H := H.nf 5 rfl
 refine nb [0,0,0] F H rfl fun a F => ?_
 refine nl (wr ?_)
 replace H := O_pack_Eye_s (H.pm 5 [3,0,0,1,2,4] rfl:)
 cases hm
 refine x_ret2 F rfl rfl rfl ?_
 exact ⟨_, rfl, p9, c9, rfl, (H.pm 5 [2,0] rfl:)⟩
theorem ent76 : En Tryz.prog 76 := enters Tryz.func76 (by kernel_rfl) rfl
theorem w_eyeUint {e : T_pack_Eye_o} {size : Int} {bo0 : Nat} {w0 w : World} {l : List HP}  {r : Int × Int × T_pack_Eye_o} (hm : eyeUint e size = some r) (H : St w0 w (O_pack_Eye bo0 e :: l)) :
  Calls Tryz.prog 74 [.pointer (some ⟨bo0, 0, none⟩), .int .i64 (size)].toArray w (fun e w' => ∃ v, e = .returned v ∧ v = .tuple [.int .u64 (r.1), .int .i64 (r.2.1)].toArray ∧ St w0 w' (O_pack_Eye bo0 r.2.2 :: l)) := by
 unfold eyeUint at hm
 refine x_enter Tryz.func74 rfl rfl rfl ?_
 intro a F
 refine sb [0,0] F H rfl fun a F => ?_
 refine nl (sq (sb [0,0,0] F H rfl fun a F => ?_))
 rcases spP 11 F rfl hm with ⟨hg1, hm, F⟩ | ⟨hg1, hm, F⟩
 refine bb [0,0,0] F H rfl fun a F => ?_
 refine nl (cT F rfl ?_)
 refine sb [0,0] F H rfl fun a F => ?_
 refine nl (wr (tr ?_))
 cases hm
 refine x_ret2 F rfl rfl rfl ?_
 exact ⟨_, rfl, rfl, H⟩
 refine bb [0,0,0] F H rfl fun a F => ?_
 refine nl (cPm F rfl hm (fun hg2 hm => ?_) (fun hg2 hm => ?_))
 refine sb [0,0] F H rfl fun a F => ?_
 refine nl (wr (tr ?_))
 cases hm
 refine x_ret2 F rfl rfl rfl ?_
 exact ⟨_, rfl, rfl, H⟩
 refine sk (ct (sb [0,0] F H rfl fun a F => ?_))
 obtain ⟨x3, ex3, hm⟩ := ob hm
 refine sd F rfl ent76 (w_eyeRaw ex3 H:) ?_; rintro _ w a ⟨p4, c4, rfl, H⟩ F
 refine bb (List.replicate 5 0) F H rfl fun a F => ?_
 replace H := H.nf 2 rfl
 refine nl (sq (sr (bk [0,0,0] F H rfl ⟨⟨_, Tryz.underlying26⟩, trivial⟩ fun a F => ?_)))
 refine nl (xm0 2 [5] [0,1] F H hm rfl rfl (fun r18 z => (4, .int .u64 (r18)) :: z) (fun r18 z => z) (fun r18 hm => ?_) (fun r18 a w hm F H => ?_))
 refine bl (xl0 2 [5,21,22] [0,1] F H hm rfl rfl (fun (s27 : Int × Int) z => (4, .int .u64 (s27.1)) :: (23, .int .i64 (s27.2)) :: z) (fun s27 z => z) ⟨F.sl rfl, H⟩ (fun s27 a w o F H hm => ?_))
 refine sb [0] F H rfl fun a F => ?_
 refine nl (sq (cPm F rfl hm (fun hg28 hm => ?_) (fun hg28 hm => ?_)))
 refine sk (ct (sq (bl (sr ?_))))
 obtain ⟨x29, ex29, hm⟩ := ob hm
 obtain ⟨b30, hp30⟩ := H.owP 0 rfl (idxO_some ex29).2
 refine sv F rfl (y_idxS F elem26 rfl rfl rfl hp30 ex29) fun a F => ?_
 refine sv F rfl (y_load1 F plain5 rfl rfl (H.owB 0 rfl hp30 ex29)) fun a F => ?_
 refine bb [0] F H rfl fun a F => ?_
 refine nl (rl (bb [0] F H rfl fun a F => ?_))
 refine sv F rfl (i_shl F rfl rfl rfl (by decide)) fun a F => ?_
 refine bk [0,2,0,0] F H rfl ⟨Tryz.underlying5, Tryz.underlying116, trivial⟩ fun a F => ?_
 refine lz (bn (ct (rl (bb [0,0] F H rfl fun a F => ?_))))
 refine lz (ct ?_); cases hm
 exact ⟨_, rfl, ⟨F.sl rfl, H⟩⟩
 refine ex (cx (cx ?_)); cases hm; refine ⟨_, rfl, ?_⟩; rintro rfl
 refine ch (ct ?_)
 exact ⟨F.sl rfl, H⟩
 refine ct (sb [0,0,0,0] F H rfl fun a F => ?_)
 refine nl (wr ?_)
 cases hm
 refine x_ret2 F rfl rfl rfl ?_
 exact ⟨_, rfl, rfl, (H.pm 2 [1] rfl:)⟩
theorem ent74 : En Tryz.prog 74 := enters Tryz.func74 (by kernel_rfl) rfl
theorem w_eyeText {e : T_pack_Eye_o} {bo0 : Nat} {w0 w : World} {l : List HP}  {r : (List UInt8) × Int × T_pack_Eye_o} (hm : eyeText e = some r) (H : St w0 w (O_pack_Eye bo0 e :: l)) :
  Calls Tryz.prog 75 [.pointer (some ⟨bo0, 0, none⟩)].toArray w (fun e w' => ∃ v, e = .returned v ∧ ∃ (p1 : Option Addr) (c1 : Nat), v = .tuple [.slice p1 (r.1).length c1, .int .i64 (r.2.1)].toArray ∧ St w0 w' (HP.ow rByte 5 p1 c1 r.1 :: O_pack_Eye bo0 r.2.2 :: l)) := by
 unfold eyeText at hm
 refine x_enter Tryz.func75 rfl rfl rfl ?_
 intro a F
 refine sb [0,0] F H rfl fun a F => ?_
 refine nl (sr (bk [0,0,0] F H rfl ⟨fld167_0, trivial⟩ fun a F => ?_))
 obtain ⟨p2, c3, H⟩ := O_pack_Eye_o (H.pk 0 rfl)
 refine bk [0,0] F H rfl ⟨rfl, plain26, trivial⟩ fun a F => ?_
 refine nb [0] F H rfl fun a F => ?_
 replace H := O_pack_Eye_s (H.pm 2 [0,1,1] rfl:)
 obtain ⟨x4, ex4, hm⟩ := ob hm
 refine sd F rfl ent74 (w_eyeUint ex4 H:) ?_; rintro _ w a ⟨rfl, H⟩ F
 refine bb (List.replicate 5 0) F H rfl fun a F => ?_
 replace H := H.nf 2 rfl
 refine nl (sq (sb [0,0] F H rfl fun a F => ?_))
 refine nl (cNm F rfl hm (fun hg5 hm => ?_) (fun hg5 hm => ?_))
 refine sb [0,0,0] F H rfl fun a F => ?_
 refine nl (wr (tr ?_))
 replace H := H.owNil rByte 5
 cases hm
 refine x_ret2 F rfl rfl rfl ?_
 exact ⟨_, rfl, none,0, rfl, (H.pm 3 [0,1] rfl:)⟩
 refine sk (ct (sr (bk [0,0,0] F H rfl ⟨Tryz.underlying116, Tryz.underlying3, trivial⟩ fun a F => ?_)))
 obtain ⟨x6, ex6, hm⟩ := ob hm
 refine sd F rfl ent76 (w_eyeRaw ex6 H:) ?_; rintro _ w a ⟨p7, c7, rfl, H⟩ F
 refine bb (List.replicate 5 0) F H rfl fun a F => ?_
 replace H := H.nf 3 rfl
 refine nl (sq (sb [0,0] F H rfl fun a F => ?_))
 refine nl (xm0 3 [6,7] [0] F H hm rfl rfl (fun r11 z => z) (fun r11 z => O_pack_Eye bo0 r11 :: z) (fun r11 hm => ?_) (fun r11 a w hm F H => ?_))
 refine cNm F rfl hm (fun hg12 hm => ?_) (fun hg12 hm => ?_)
 refine rl (bk [0,0,0,0] F H rfl ⟨fld167_0, trivial⟩ fun a F => ?_)
 obtain ⟨p13, c14, H⟩ := O_pack_Eye_o (H.pk 1 rfl)
 refine s_st1 wkP F rfl rfl zero26 rfl rfl rfl rfl rfl H 0 rfl rfl fun w H => ?_
 replace H := H.nf 4 rfl
 refine lz ?_
 replace H := O_pack_Eye_s (H.pm 4 [0,3,1,2,3] rfl:)
 cases hm
 refine ct ?_
 exact ⟨F.sl rfl, (H.pm 4 [0,2] rfl:)⟩
 refine sk ?_
 cases hm
 refine ct ?_
 exact ⟨F.sl rfl, (H.pm 3 [1,0] rfl:)⟩
 refine ct (sb [0,0,0,0] F H rfl fun a F => ?_)
 refine nl (wr ?_)
 cases hm
 refine x_ret2 F rfl rfl rfl ?_
 exact ⟨_, rfl, p7, c7, rfl, (H.pm 2 [1,0] rfl:)⟩
theorem w_rUint {n : Int} {size : Int}  {w0 w : World} {l : List HP}  {r : (List UInt8) × Int} (hm : rUint n size = some r) (H : St w0 w (l)) :
  Calls Tryz.prog 89 [.int .u64 (n), .int .i64 (size)].toArray w (fun e w' => ∃ v, e = .returned v ∧ ∃ (p1 : Option Addr) (c1 : Nat), v = .tuple [.slice p1 (r.1).length c1, .int .i64 (r.2)].toArray ∧ St w0 w' (HP.ow rByte 5 p1 c1 r.1 :: l)) := by
 unfold rUint at hm
 refine x_enter Tryz.func89 rfl rfl rfl ?_
 intro a F
 refine sb [0,0] F H rfl fun a F => ?_
 refine nl (sq (sb [0,0,0] F H rfl fun a F => ?_))
 rcases spP 11 F rfl hm with ⟨hg2, hm, F⟩ | ⟨hg2, hm, F⟩
 refine bb [0,0,0] F H rfl fun a F => ?_
 refine nl (cT F rfl ?_)
 refine sr (s_build0O (R := rByte) wkP F rfl rfl rfl elem26 rfl H fun b3 w a H F => ?_)
 refine bb [0,0] F H rfl fun a F => ?_
 replace H := H.nf 1 rfl
 refine nl (wr (tr ?_))
 cases hm
 refine x_ret2 F rfl rfl rfl ?_
 exact ⟨_, rfl, (some ⟨b3, 0, none⟩), 0, rfl, H⟩
 refine bb [0,0,0] F H rfl fun a F => ?_
 refine nl (cPm F rfl hm (fun hg4 hm => ?_) (fun hg4 hm => ?_))
 refine sr (s_build0O (R := rByte) wkP F rfl rfl rfl elem26 rfl H fun b5 w a H F => ?_)
 refine bb [0,0] F H rfl fun a F => ?_
 replace H := H.nf 1 rfl
 refine nl (wr (tr ?_))
 cases hm
 refine x_ret2 F rfl rfl rfl ?_
 exact ⟨_, rfl, (some ⟨b5, 0, none⟩), 0, rfl, H⟩
 refine sk (ct (sb [0] F H rfl fun a F => ?_))
 obtain ⟨x7, ex7, hm⟩ := ob hm
 refine s_mkO (R := rByte) wkP F rfl rfl rfl elem26 rfl rfl rfl rfl rfl rfl (z := (0 : UInt8)) (fun _ => rfl) ex7 H fun b6 w a H F => ?_
 refine bb [0] F H rfl fun a F => ?_
 replace H := H.nf 1 rfl
 refine nb [0,0] F H rfl fun a F => ?_
 refine nl (sq (sb [0] F H rfl fun a F => ?_))
 refine nl (xm2 1 [] [] F H hm rfl rfl (fun r33 (p34 : Option Addr) (c34 : Nat) z => (6, .slice p34 (r33.1).length c34) :: (7, .int .u64 (r33.2)) :: z) (fun r33 p34 c34 z => HP.ow rByte 5 p34 c34 r33.1 :: z) (fun r33 hm => ?_) (fun r33 a w hm p34 c34 F H => ?_))
 refine bl (xl2 1 [1] [] F H hm rfl rfl (fun (s51 : (List UInt8) × Int × Int) (p52 : Option Addr) (c52 : Nat) z => (6, .slice p52 (s51.1).length c52) :: (7, .int .u64 (s51.2.1)) :: (8, .int .i64 (s51.2.2)) :: z) (fun s51 p52 c52 z => HP.ow rByte 5 p52 c52 s51.1 :: z) ⟨(some ⟨b6, 0, none⟩), (x7).length, F.sl rfl, H⟩ (fun s51 a w o p52 c52 F H hm => ?_))
 refine sq (sb [0,0,0] F H rfl fun a F => ?_)
 refine nl (cPm F rfl hm (fun hg53 hm => ?_) (fun hg53 hm => ?_))
 refine sk (ct (sq (bl (sb (List.replicate 6 0) F H rfl fun a F => ?_))))
 obtain ⟨x54, ex54, hm⟩ := ob hm
 refine sv F rfl (i_rem F rfl rfl rfl ex54) fun a F => ?_
 refine bk [1] F H rfl ⟨Tryz.underlying116, Tryz.underlying5, trivial⟩ fun a F => ?_
 obtain ⟨x55, ex55, hm⟩ := ob hm
 obtain ⟨b56, hp56⟩ := H.owP 0 rfl (idxO_some ex55).2
 refine sv F rfl (y_idxS F elem26 rfl rfl rfl hp56 ex55) fun a F => ?_
 obtain ⟨x58, ex58, hm⟩ := ob hm
 refine s_owSet1 wkP F rfl rfl zero5 rfl rfl rfl rfl rfl rfl H 0 rfl hp56 ex55 (zz := x58) (fun gg => (congrArg (fun z => [Value.int .u8 z]) (u8O_some ex58).symm)) fun w H => ?_
 replace H : St w0 w (HP.ow rByte 5 p52 c52 ((s51.1).set (IntKind.i64.wrap ((IntKind.i64.wrap (size - 1)) - s51.2.2) : Int).toNat x58) :: l) := (by have h := H; first | exact h | (simp only [List.length_set] at h ⊢; exact h))
 replace F := F.bool (k := 6) (u := .slice p52 ((s51.1).set (IntKind.i64.wrap ((IntKind.i64.wrap (size - 1)) - s51.2.2) : Int).toNat x58).length c52) rfl (by simp only [List.length_set])
 replace F := F.bool (k := 24) (u := .slice p52 ((s51.1).set (IntKind.i64.wrap ((IntKind.i64.wrap (size - 1)) - s51.2.2) : Int).toNat x58).length c52) rfl (by simp only [List.length_set])
 refine nl (rl (bb [0] F H rfl fun a F => ?_))
 obtain ⟨x59, ex59, hm⟩ := ob hm
 refine sv F rfl (i_quo F rfl rfl rfl ex59) fun a F => ?_
 refine bb [0] F H rfl fun a F => ?_
 refine lz (bn (ct (rl (bb [0,0,0] F H rfl fun a F => ?_))))
 refine lz (ct ?_); cases hm
 exact ⟨_, rfl, ⟨p52, c52, F.sl rfl, H⟩⟩
 refine ex (cx (cx ?_)); cases hm; refine ⟨_, rfl, ?_⟩; rintro rfl
 refine ch (ct ?_)
 exact ⟨p52, c52, F.sl rfl, H⟩
 refine ct (sq (sb [0,0] F H rfl fun a F => ?_))
 refine nl (cPm F rfl hm (fun hg60 hm => ?_) (fun hg60 hm => ?_))
 refine sr (s_build0O (R := rByte) wkP F rfl rfl rfl elem26 rfl H fun b61 w a H F => ?_)
 refine bb [0,0] F H rfl fun a F => ?_
 replace H := H.nf 2 rfl
 refine nl (wr (tr ?_))
 cases hm
 refine x_ret2 F rfl rfl rfl ?_
 exact ⟨_, rfl, (some ⟨b61, 0, none⟩), 0, rfl, (H.pm 2 [0] rfl:)⟩
 refine sk (ct (sb [0,0,0] F H rfl fun a F => ?_))
 refine nl (wr ?_)
 cases hm
 refine x_ret2 F rfl rfl rfl ?_
 exact ⟨_, rfl, p34, c34, rfl, H⟩
theorem ent89 : En Tryz.prog 89 := enters Tryz.func89 (by kernel_rfl) rfl
theorem w_rText {b : List UInt8} {p1 : Option Addr} {c1 : Nat} {w0 w : World} {l : List HP}  {r : (List UInt8) × Int} (hm : rText b = some r) (H : St w0 w (HP.sl rByte p1 c1 b :: l)) :
  Calls Tryz.prog 65 [.slice p1 (b).length c1].toArray w (fun e w' => ∃ v, e = .returned v ∧ ∃ (p2 : Option Addr) (c2 : Nat), v = .tuple [.slice p2 (r.1).length c2, .int .i64 (r.2)].toArray ∧ St w0 w' (HP.ow rByte 5 p2 c2 r.1 :: l)) := by
 unfold rText at hm
 refine x_enter Tryz.func65 rfl rfl rfl ?_
 intro a F
 refine sb [0,0] F H rfl fun a F => ?_
 refine nl (sr (bk [0,0,2] F H rfl ⟨⟨_, Tryz.underlying26⟩, Tryz.underlying3, Tryz.underlying116, trivial⟩ fun a F => ?_))
 obtain ⟨x3, ex3, hm⟩ := ob hm
 refine sd F rfl ent89 (w_rUint ex3 H:) ?_; rintro _ w a ⟨p4, c4, rfl, H⟩ F
 refine bb (List.replicate 5 0) F H rfl fun a F => ?_
 replace H := H.nf 2 rfl
 refine nl (sq (sb [0,0] F H rfl fun a F => ?_))
 refine nl (cNm F rfl hm (fun hg5 hm => ?_) (fun hg5 hm => ?_))
 refine sr (s_build0O (R := rByte) wkP F rfl rfl rfl elem26 rfl H fun b6 w a H F => ?_)
 refine bb [0,0] F H rfl fun a F => ?_
 replace H := H.nf 3 rfl
 refine nl (wr (tr ?_))
 cases hm
 refine x_ret2 F rfl rfl rfl ?_
 exact ⟨_, rfl, (some ⟨b6, 0, none⟩), 0, rfl, (H.pm 3 [0] rfl:)⟩
 refine sk (ct (sb [0,0] F H rfl fun a F => ?_))
 obtain ⟨x8, ex8, hm⟩ := ob hm
 refine s_app wkP F rfl rfl rfl rfl rfl rfl elem26 rfl ex8 H 0 1 rfl rfl fun p7 c7 w a H F => ?_
 refine bb [0,0] F H rfl fun a F => ?_
 replace H := H.nf 2 rfl
 refine nl (wr ?_)
 cases hm
 refine x_ret2 F rfl rfl rfl ?_
 exact ⟨_, rfl, p7, c7, rfl, (H.pm 2 [0] rfl:)⟩
theorem w_r2Number {b : List UInt8} {p1 : Option Addr} {c1 : Nat} {w0 w : World} {l : List HP}  {r : Int} (hm : r2Number b = some r) (H : St w0 w (HP.sl rByte p1 c1 b :: l)) :
  Calls Tryz.prog 78 [.slice p1 (b).length c1].toArray w (fun e w' => ∃ v, e = .returned v ∧ v = .int .u64 (r) ∧ St w0 w' (l)) := by
 unfold r2Number at hm
 refine x_enter Tryz.func78 rfl rfl rfl ?_
 intro a F
 refine sb [0] F H rfl fun a F => ?_
 refine nb [0] F H rfl fun a F => ?_
 refine nl (sq (sb [0] F H rfl fun a F => ?_))
 refine nl (xm0 1 [] [] F H hm rfl rfl (fun r15 z => (3, .int .u64 (r15)) :: z) (fun r15 z => z) (fun r15 hm => ?_) (fun r15 a w hm F H => ?_))
 refine bl (xl0 1 [0] [0] F H hm rfl rfl (fun (s24 : Int × Int) z => (3, .int .u64 (s24.1)) :: (4, .int .i64 (s24.2)) :: z) (fun s24 z => z) ⟨F.sl rfl, H⟩ (fun s24 a w o F H hm => ?_))
 refine sq (sr (bk [0,0,0,0] F H rfl ⟨⟨_, Tryz.underlying26⟩, trivial⟩ fun a F => ?_))
 refine nl (cPm F rfl hm (fun hg25 hm => ?_) (fun hg25 hm => ?_))
 refine sk (ct (sq (bl (rl (bb [0,0,0,0] F H rfl fun a F => ?_)))))
 obtain ⟨x26, ex26, hm⟩ := ob hm
 obtain ⟨b27, o27, hp27, cs28, H⟩ := H.slE 0 rfl ex26
 obtain rfl := H.rcB 1 rfl
 replace H := H.dp 1 rfl
 refine sv F rfl (y_idxS F elem26 rfl rfl rfl hp27 ex26) fun a F => ?_
 refine bk [0,2,0,0] F H rfl ⟨rfl, plain5, Tryz.underlying5, Tryz.underlying116, trivial⟩ fun a F => ?_
 refine lz (bn (ct (rl (bb [0,0,0] F H rfl fun a F => ?_))))
 refine lz (ct ?_); cases hm
 exact ⟨_, rfl, ⟨F.sl rfl, (H.pm 2 [1] rfl:)⟩⟩
 refine ex (cx (cx ?_)); cases hm; refine ⟨_, rfl, ?_⟩; rintro rfl
 refine ch (ct ?_)
 exact ⟨F.sl rfl, (H.pm 1 [] rfl:)⟩
 refine ct (sb [0,0] F H rfl fun a F => ?_)
 refine nl (wr ?_)
 cases hm
 refine x_ret1 F rfl rfl ?_
 exact ⟨_, rfl, rfl, H⟩
theorem fld122_0 : FieldT Tryz.prog 122 0 0 := by unfold FieldT; rw [Tryz.underlying122]; kernel_rfl
theorem fld122_1 : FieldT Tryz.prog 122 1 1 := by unfold FieldT; rw [Tryz.underlying122]; kernel_rfl
theorem plain3 : Plain Tryz.prog 3 := by unfold Plain; rw [Tryz.underlying3]; rfl
theorem zero3 : Zero1 Tryz.prog 3 (.int .i64 0) := ⟨by kernel_rfl, rfl⟩
theorem w_r2Raw {e : T_triremeref02_Eye_o} {n : Int} {bo0 : Nat} {w0 w : World} {l : List HP}  {r : (List UInt8) × Int × T_triremeref02_Eye_o} (hm : r2Raw e n = some r) (H : St w0 w (O_triremeref02_Eye bo0 e :: l)) :
  Calls Tryz.prog 60 [.pointer (some ⟨bo0, 0, none⟩), .int .i64 (n)].toArray w (fun e w' => ∃ v, e = .returned v ∧ ∃ (p1 : Option Addr) (c1 : Nat), v = .tuple [.slice p1 (r.1).length c1, .int .i64 (r.2.1)].toArray ∧ St w0 w' (HP.sl rByte p1 c1 r.1 :: O_triremeref02_Eye bo0 r.2.2 :: l)) := by
 unfold r2Raw at hm
 refine x_enter Tryz.func60 rfl rfl rfl ?_
 intro a F
 refine sb [0,0] F H rfl fun a F => ?_
 refine nl (sq (sb [0,0] F H rfl fun a F => ?_))
 refine nl (cPm F rfl hm (fun hg2 hm => ?_) (fun hg2 hm => ?_))
 refine sr (s_build0O (R := rByte) wkP F rfl rfl rfl elem26 rfl H fun b3 w a H F => ?_)
 refine bb [0,0] F H rfl fun a F => ?_
 replace H := H.nf 2 rfl
 refine nl (wr (tr ?_))
 replace H := H.frz 0 rfl
 cases hm
 refine x_ret2 F rfl rfl rfl ?_
 exact ⟨_, rfl, (some ⟨b3, 0, none⟩), 0, rfl, H⟩
 refine sk (ct (sq (sq ?_)))
 obtain ⟨p4, c5, H⟩ := O_triremeref02_Eye_o (H.pk 0 rfl)
 refine qr H (by kernel_rfl) (by kernel_rfl) ?_
 refine qbk [0,0,0,0,0,0,0,0,1,1,0,0] F rfl ⟨fld122_0, rfl, plain26, ⟨_, Tryz.underlying26⟩, fld122_1, rfl, plain3, trivial⟩ fun a F => ?_
 refine q_nil fun w H => ?_
 refine ct (cPm F rfl hm (fun hg6 hm => ?_) (fun hg6 hm => ?_))
 refine sr (s_build0O (R := rByte) wkP F rfl rfl rfl elem26 rfl H fun b7 w a H F => ?_)
 refine bb [0,0] F H rfl fun a F => ?_
 replace H := H.nf 3 rfl
 refine nl (wr (tr ?_))
 replace H := H.frz 0 rfl
 replace H := O_triremeref02_Eye_s (H.pm 3 [1,2,0,2] rfl:)
 cases hm
 refine x_ret2 F rfl rfl rfl ?_
 exact ⟨_, rfl, (some ⟨b7,0, none⟩),0, rfl, (H.pm 3 [1,0] rfl:)⟩
 refine sk (ct (sr (bk [0,0,1,1,0,0,0,1] F H rfl ⟨fld122_1, rfl, plain3, fld122_1, trivial⟩ fun a F => ?_)))
 refine s_st1 wkP F rfl rfl zero3 rfl rfl rfl rfl rfl H 0 rfl rfl fun w H => ?_
 replace H := H.nf 2 rfl
 refine nl (sq ?_)
 obtain ⟨x9, ex9, hm⟩ := ob hm
 have hc8 := H.slCap 1 rfl
 replace H := H.slSubN 1 rfl 1 rfl ex9
 refine mix_regionK [0,16] [] (scL [1,2,3,4,5,6,7,8,9,10,11,12,13,14,15,2000,2016,17,18]) [1] H rfl rfl (by kernel_rfl) (by kernel_rfl) fun w H => ?_
 refine mbk [0,0,0] F H rfl ⟨fld122_0, trivial⟩ fun a F => ?_
 refine m_pure F rfl rfl rfl rfl (fun u hu => y_load1 F plain26 rfl rfl (row_at (v := .slice p4 (e.1).length c5) ((hu.choose_spec.blk 0 rfl).row) rfl)) fun a F => ?_
 refine mbk [0,0,1] F H rfl ⟨fld122_1, trivial⟩ fun a F => ?_
 refine m_pure F rfl rfl rfl rfl (fun u hu => y_load1 F plain3 rfl rfl (row_at (v := .int .i64 (IntKind.i64.wrap (e.2 + n))) ((hu.choose_spec.blk 0 rfl).row) rfl)) fun a F => ?_
 refine mbk [0,0,0,0,1] F H rfl ⟨fld122_1, trivial⟩ fun a F => ?_
 refine m_pure F rfl rfl rfl rfl (fun u hu => y_load1 F plain3 rfl rfl (row_at (v := .int .i64 (IntKind.i64.wrap (e.2 + n))) ((hu.choose_spec.blk 0 rfl).row) rfl)) fun a F => ?_
 refine m_pure F rfl rfl rfl rfl (fun u hu => y_slLH F elem26 rfl rfl rfl rfl ex9 hc8) fun a F => ?_
 refine m_heavy rfl rfl ?_
 refine s_build0O (R := rByte) wkP F rfl rfl rfl elem26 rfl H fun b10 w a H F => ?_
 refine lz ?_; refine ct ⟨⟨_, (H.pm 4 [2,0,1,3] rfl:)⟩, ?_⟩
 refine m_heavy rfl rfl ?_
 obtain ⟨x12, ex12, hm⟩ := ob hm
 refine s_app wkP F rfl rfl rfl rfl rfl rfl elem26 rfl ex12 H 0 1 rfl rfl fun p11 c11 w a H F => ?_
 refine lz ?_; refine ct ⟨⟨_, (H.pm 4 [2,0,1,3] rfl:)⟩, ?_⟩
 refine mb [0,0] F H rfl fun a F => ?_
 refine m_nil ?_
 refine ct (wr ?_)
 replace H := H.frz 0 rfl
 replace H := O_triremeref02_Eye_s (H.pm 4 [2,3,0,1,3] rfl:)
 cases hm
 refine x_ret2 F rfl rfl rfl ?_
 exact ⟨_, rfl, p11, c11, rfl, (H.pm 4 [1,0] rfl:)⟩
theorem ent78 : En Tryz.prog 78 := enters Tryz.func78 (by kernel_rfl) rfl
theorem ent60 : En Tryz.prog 60 := enters Tryz.func60 (by kernel_rfl) rfl
theorem w_r2Text {e : T_triremeref02_Eye_o} {bo0 : Nat} {w0 w : World} {l : List HP}  {r : (List UInt8) × Int × T_triremeref02_Eye_o} (hm : r2Text e = some r) (H : St w0 w (O_triremeref02_Eye bo0 e :: l)) :
  Calls Tryz.prog 59 [.pointer (some ⟨bo0, 0, none⟩)].toArray w (fun e w' => ∃ v, e = .returned v ∧ ∃ (p1 : Option Addr) (c1 : Nat), v = .tuple [.slice p1 (r.1).length c1, .int .i64 (r.2.1)].toArray ∧ St w0 w' (HP.sl rByte p1 c1 r.1 :: O_triremeref02_Eye bo0 r.2.2 :: l)) := by
 unfold r2Text at hm
 refine x_enter Tryz.func59 rfl rfl rfl ?_
 intro a F
 refine sb [0,0] F H rfl fun a F => ?_
 refine nl (sq (sq ?_))
 obtain ⟨p2, c3, H⟩ := O_triremeref02_Eye_o (H.pk 0 rfl)
 refine qr H (by kernel_rfl) (by kernel_rfl) ?_
 refine qbk [0,0,0,0,0,0,0,1,1,0,0] F rfl ⟨fld122_0, rfl, plain26, ⟨_, Tryz.underlying26⟩, fld122_1, rfl, plain3, trivial⟩ fun a F => ?_
 refine q_nil fun w H => ?_
 refine ct (cPm F rfl hm (fun hg4 hm => ?_) (fun hg4 hm => ?_))
 refine sr (s_build0O (R := rByte) wkP F rfl rfl rfl elem26 rfl H fun b5 w a H F => ?_)
 refine bb [0,0] F H rfl fun a F => ?_
 replace H := H.nf 3 rfl
 refine nl (wr (tr ?_))
 replace H := H.frz 0 rfl
 replace H := O_triremeref02_Eye_s (H.pm 3 [1,2,0,2] rfl:)
 cases hm
 refine x_ret2 F rfl rfl rfl ?_
 exact ⟨_, rfl, (some ⟨b5,0, none⟩),0, rfl, (H.pm 3 [1,0] rfl:)⟩
 refine sk (ct (sq ?_))
 obtain ⟨x7, ex7, hm⟩ := ob hm
 have hc6 := H.slCap 1 rfl
 replace H := H.slSubN 1 rfl 1 rfl ex7
 obtain ⟨x8, ex8, hm⟩ := ob hm
 refine qr H (by kernel_rfl) (by kernel_rfl) ?_
 refine qbk [0,0,0,1000,0,0,1,1001,0,0,1,1001,0] F rfl ⟨fld122_0, rfl, plain26, fld122_1, rfl, plain3, fld122_1, rfl, plain3, trivial⟩ fun a F => ?_
 refine qv F rfl (fun u hu => y_slLH F elem26 rfl rfl rfl rfl ex7 hc6) fun a F => ?_
 refine q_call F rfl rfl rfl (fun u hu => y_call F rfl rfl ent78) (fun u hu => (w_r2Number ex8 (hu.pm 3 [0,0,1,2] rfl:)).mono fun e u2 he => by obtain ⟨v, rfl, rfl, H⟩ := he; exact ⟨rfl, H⟩) fun a F => ?_
 refine qbk [0,0] F rfl ⟨Tryz.underlying116, Tryz.underlying3, trivial⟩ fun a F => ?_
 refine q_nil fun w H => ?_
 refine ct (sq (sq (qr H (by kernel_rfl) (by kernel_rfl) ?_)))
 refine qbk [0,0,0,0,1000,0,0,0,1,1001,0,0,0] F rfl ⟨fld122_0, rfl, plain26, ⟨_, Tryz.underlying26⟩, fld122_1, rfl, plain3, trivial⟩ fun a F => ?_
 refine q_nil fun w H => ?_
 refine ct (cPm F rfl hm (fun hg9 hm => ?_) (fun hg9 hm => ?_))
 refine sr (s_build0O (R := rByte) wkP F rfl rfl rfl elem26 rfl H fun b10 w a H F => ?_)
 refine bb [0,0] F H rfl fun a F => ?_
 replace H := H.nf 4 rfl
 refine nl (wr (tr ?_))
 replace H := H.frz 0 rfl
 replace H := O_triremeref02_Eye_s (H.pm 4 [2,3,0,1,3] rfl:)
 cases hm
 refine x_ret2 F rfl rfl rfl ?_
 exact ⟨_, rfl, (some ⟨b10,0, none⟩),0, rfl, (H.pm 4 [1,0] rfl:)⟩
 refine sk (ct (sr (bk [0,0,1,1001,0,0,1] F H rfl ⟨fld122_1, rfl, plain3, fld122_1, trivial⟩ fun a F => ?_)))
 refine s_st1 wkP F rfl rfl zero3 rfl rfl rfl rfl rfl H 1 rfl rfl fun w H => ?_
 replace H := H.nf 3 rfl
 refine nb [0,0] F H rfl fun a F => ?_
 replace H := O_triremeref02_Eye_s (H.pm 3 [1,2,0,2] rfl:)
 obtain ⟨x11, ex11, hm⟩ := ob hm
 refine sd F rfl ent60 (w_r2Raw ex11 H:) ?_; rintro _ w a ⟨p12, c12, rfl, H⟩ F
 refine bb [0,0,0,0] F H rfl fun a F => ?_
 replace H := H.nf 4 rfl
 refine nl (wr ?_)
 cases hm
 refine x_ret2 F rfl rfl rfl ?_
 exact ⟨_, rfl, p12, c12, rfl, (H.pm 4 [0,1] rfl:)⟩
end Go.Proofs.YtnjemlkcamdbfaaGreatDoor
