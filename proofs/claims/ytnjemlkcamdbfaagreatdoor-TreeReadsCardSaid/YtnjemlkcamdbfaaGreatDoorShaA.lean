/- sha -/
import Derived.Test.YtnjemlkcamdbfaaGreatDoorMod
import Derived.Test.YtnjemlkcamdbfaaGreatDoorProg
import Derived.Test.YtnjemlkcamdbfaaGreatDoorSeal
set_option linter.unusedSimpArgs false
set_option linter.unusedVariables false
namespace Go.Proofs.YtnjemlkcamdbfaaGreatDoor
open Go.RowKit Go.Tri
set_option maxRecDepth 100000
set_option maxHeartbeats 4000000
theorem w_rotL32 {x : Int} {k : Int}  {w0 w : World} {l : List HP}  {r : Int} (hm : rotL32 x k = some r) (H : St w0 w (l)) :
  Calls Tryz.prog 104 [.int .u32 (x), .int .i64 (k)].toArray w (fun e w' => ∃ v, e = .returned v ∧ v = .int .u32 (r) ∧ St w0 w' (l)) := by
 unfold rotL32 at hm
 refine x_enter Tryz.func104 rfl rfl rfl ?_
 intro a F
 refine sb [0] F H rfl fun a F => ?_
 refine nl (sr (bk [0,2,0,0] F H rfl ⟨Tryz.underlying3, Tryz.underlying98, trivial⟩ fun a F => ?_))
 refine nb [0,0] F H rfl fun a F => ?_
 obtain ⟨x1, ex1, hm⟩ := ob hm
 refine sv F rfl (i_shlO F rfl rfl rfl ex1) fun a F => ?_
 refine bb [0,0,0] F H rfl fun a F => ?_
 obtain ⟨x2, ex2, hm⟩ := ob hm
 refine sv F rfl (i_shrO F rfl rfl rfl ex2) fun a F => ?_
 refine bb [0,0] F H rfl fun a F => ?_
 refine nl (wr ?_)
 cases hm
 refine x_ret1 F rfl rfl ?_
 exact ⟨_, rfl, rfl, H⟩
theorem ent104 : En Tryz.prog 104 := enters Tryz.func104 (by kernel_rfl) rfl
theorem w_turn {x : Int} {a_ : Int} {b_ : Int} {c_ : Int} {sh : Bool}  {w0 w : World} {l : List HP}  {r : Int} (hm : turn x a_ b_ c_ sh = some r) (H : St w0 w (l)) :
  Calls Tryz.prog 102 [.int .u32 (x), .int .i64 (a_), .int .i64 (b_), .int .i64 (c_), .bool (sh)].toArray w (fun e w' => ∃ v, e = .returned v ∧ v = .int .u32 (r) ∧ St w0 w' (l)) := by
 unfold turn at hm
 refine x_enter Tryz.func102 rfl rfl rfl ?_
 intro a F
 refine sb [0] F H rfl fun a F => ?_
 refine nb [0,0,0] F H rfl fun a F => ?_
 obtain ⟨x1, ex1, hm⟩ := ob hm
 refine sd F rfl ent104 (w_rotL32 ex1 H:) ?_; rintro _ w a ⟨rfl, H⟩ F
 refine bb [0] F H rfl fun a F => ?_
 refine nl (sq (sb [0] F H rfl fun a F => ?_))
 refine nl (xm0 0 [0,1,2] [] F H hm rfl rfl (fun r4 z => (11, .int .u32 (r4)) :: z) (fun r4 z => z) (fun r4 hm => ?_) (fun r4 a w hm F H => ?_))
 refine cB F rfl (fun hg5 => ?_) (fun hg5 => ?_)
 replace hm := ifT hg5 hm
 refine rl (bb [0,0] F H rfl fun a F => ?_)
 obtain ⟨x6, ex6, hm⟩ := ob hm
 refine sv F rfl (i_shrO F rfl rfl rfl ex6) fun a F => ?_
 refine bb [0] F H rfl fun a F => ?_
 refine lz ?_
 cases hm
 refine ct ?_
 exact ⟨F.sl rfl, H⟩
 replace hm := ifF (nT hg5) hm
 refine sk ?_
 cases hm
 refine ct ?_
 exact ⟨F.sl rfl, H⟩
 refine ct (sb [0,0,0] F H rfl fun a F => ?_)
 obtain ⟨x7, ex7, hm⟩ := ob hm
 refine sd F rfl ent104 (w_rotL32 ex7 H:) ?_; rintro _ w a ⟨rfl, H⟩ F
 refine bb [0,0,0] F H rfl fun a F => ?_
 obtain ⟨x8, ex8, hm⟩ := ob hm
 refine sd F rfl ent104 (w_rotL32 ex8 H:) ?_; rintro _ w a ⟨rfl, H⟩ F
 refine bb [0,0,0,0] F H rfl fun a F => ?_
 refine nl (wr ?_)
 cases hm
 refine x_ret1 F rfl rfl ?_
 exact ⟨_, rfl, rfl, H⟩
theorem agg96 : AggT Tryz.prog 96 8 (List.replicate 8 (.int .u32 0)) := ⟨by rw [Tryz.underlying96]; rfl, by kernel_rfl, by kernel_rfl⟩
theorem build_163_0 : ∀ (s0 : List Int) (h0 : s0.length = 8), Tryz.prog.built 163 [(0, .agg (icells .u32 s0).toArray)] = some ((icells .u32 s0 ++ ([Value.slice none (([] : List UInt8)).length 0, Value.int .u64 (0)]) : List Value)).toArray := fun s0 h0 => match s0, h0 with | [a0_0, a0_1, a0_2, a0_3, a0_4, a0_5, a0_6, a0_7], _ => by kernel_rfl
theorem w_shaNew   {w0 w : World} {l : List HP}  {r : T_sha_Hasher_o} (hm : shaNew  = some r) (H : St w0 w (HP.row 1 (0) (icells .u32 shaStart) :: l)) :
  Calls Tryz.prog 70 [].toArray w (fun e w' => ∃ v, e = .returned v ∧ ∃ (b1 : Nat), v = .pointer (some ⟨b1, 0, none⟩) ∧ St w0 w' (O_sha_Hasher b1 r :: l)) := by
 unfold shaNew at hm
 refine x_enter Tryz.func70 rfl rfl rfl ?_
 intro a F
 refine sb [0] F H rfl fun a F => ?_
 refine nl (sr (bk [999] F H rfl ⟨rfl, (aggn agg96 ((icells_length _ _).trans shaStart_len)), trivial⟩ fun a F => ?_))
 replace H := H.owNil rByte 5
 refine sv F rfl (y_build F rfl rfl (cs := icells .u32 shaStart ++ ([Value.slice none (([] : List UInt8)).length 0, Value.int .u64 (0)])) (build_163_0 shaStart shaStart_len)) fun a F => ?_
 refine s_boxA wkP F rfl rfl rfl rfl rfl H fun b2 w a H F => ?_
 refine bb [0] F H rfl fun a F => ?_
 replace H := H.nf 3 rfl
 refine nl (wr ?_)
 replace H := O_sha_Hasher_s (x1 := ([] : List UInt8)) shaStart_len H
 cases hm
 refine x_ret1 F rfl rfl ?_
 exact ⟨_, rfl, b2, rfl, (H.pm 2 [0] rfl:)⟩
theorem w_rotr {x : Int} {n : Int}  {w0 w : World} {l : List HP}  {r : Int} (hm : rotr x n = some r) (H : St w0 w (l)) :
  Calls Tryz.prog 43 [.int .u32 (x), .int .i64 (n)].toArray w (fun e w' => ∃ v, e = .returned v ∧ v = .int .u32 (r) ∧ St w0 w' (l)) := by
 unfold rotr at hm
 refine x_enter Tryz.func43 rfl rfl rfl ?_
 intro a F
 refine sb [0] F H rfl fun a F => ?_
 refine nl (sr (bk [0,0,2] F H rfl ⟨Tryz.underlying3, Tryz.underlying98, trivial⟩ fun a F => ?_))
 obtain ⟨x1, ex1, hm⟩ := ob hm
 refine sv F rfl (i_shrO F rfl rfl rfl ex1) fun a F => ?_
 refine bk [0,0,0,2] F H rfl ⟨Tryz.underlying3, Tryz.underlying98, trivial⟩ fun a F => ?_
 obtain ⟨x2, ex2, hm⟩ := ob hm
 refine sv F rfl (i_shlO F rfl rfl rfl ex2) fun a F => ?_
 refine bb [0,0] F H rfl fun a F => ?_
 refine nl (wr ?_)
 cases hm
 refine x_ret1 F rfl rfl ?_
 exact ⟨_, rfl, rfl, H⟩
theorem elem26 : ElemT Tryz.prog 26 5 1 1 (.int .u8 0) := ⟨Tryz.underlying26, by kernel_rfl, by kernel_rfl, by decide⟩
theorem zero5 : Zero1 Tryz.prog 5 (.int .u8 0) := ⟨by kernel_rfl, rfl⟩
theorem w_rPad {b : List UInt8} {p1 : Option Addr} {c1 : Nat} {w0 w : World} {l : List HP}  {r : (List UInt8)} (hm : rPad b = some r) (H : St w0 w (HP.sl rByte p1 c1 b :: l)) :
  Calls Tryz.prog 42 [.slice p1 (b).length c1].toArray w (fun e w' => ∃ v, e = .returned v ∧ ∃ (p2 : Option Addr) (c2 : Nat), v = .slice p2 (r).length c2 ∧ St w0 w' (HP.ow rByte 5 p2 c2 r :: l)) := by
 unfold rPad at hm
 refine x_enter Tryz.func42 rfl rfl rfl ?_
 intro a F
 refine sb [0] F H rfl fun a F => ?_
 refine nl (sr (s_build0O (R := rByte) wkP F rfl rfl rfl elem26 rfl H fun b3 w a H F => ?_))
 refine bb [0] F H rfl fun a F => ?_
 obtain ⟨x5, ex5, hm⟩ := ob hm
 refine s_app wkP F rfl rfl rfl rfl rfl rfl elem26 rfl ex5 H 0 1 rfl rfl fun p4 c4 w a H F => ?_
 obtain ⟨x7, ex7, hm⟩ := ob hm
 refine s_buildC wkP F rfl rfl rfl elem26 zero5 rfl rfl rfl rfl (by simp [Value.cells]) (by decide) H fun b6 w a H F => ?_
 replace H := H.blkOw1 (R := rByte) (x := x7) (fun gg => (congrArg (fun z => [Value.int .u8 z]) (u8O_some ex7).symm))
 replace H := H.frz 0 rfl
 obtain ⟨x9, ex9, hm⟩ := ob hm
 refine s_app wkP F rfl rfl rfl rfl rfl rfl elem26 rfl ex9 H 1 0 rfl rfl fun p8 c8 w a H F => ?_
 refine bb [0] F H rfl fun a F => ?_
 replace H := H.nf 3 rfl
 refine nl (sq (xm2 3 [0] [2] F H hm rfl rfl (fun r32 (p33 : Option Addr) (c33 : Nat) z => (3, .slice p33 (r32).length c33) :: z) (fun r32 p33 c33 z => HP.ow rByte 5 p33 c33 r32 :: z) (fun r32 hm => ?_) (fun r32 a w hm p33 c33 F H => ?_)))
 refine bl (xl2 3 [0] [2] F H hm rfl rfl (fun (s48 : (List UInt8)) (p49 : Option Addr) (c49 : Nat) z => (3, .slice p49 (s48).length c49) :: z) (fun s48 p49 c49 z => HP.ow rByte 5 p49 c49 s48 :: z) ⟨p8, c8, F.sl rfl, (H.pm 3 [1,2] rfl:)⟩ (fun s48 a w o p49 c49 F H hm => ?_))
 refine sq (sr (bk [0,0] F H rfl ⟨⟨_, Tryz.underlying26⟩, trivial⟩ fun a F => ?_))
 obtain ⟨x50, ex50, hm⟩ := ob hm
 refine sv F rfl (i_rem F rfl rfl rfl ex50) fun a F => ?_
 refine bb [0] F H rfl fun a F => ?_
 refine nl (cNm F rfl hm (fun hg51 hm => ?_) (fun hg51 hm => ?_))
 refine sk (ct (bl (rl (bb [0] F H rfl fun a F => ?_))))
 obtain ⟨x53, ex53, hm⟩ := ob hm
 refine s_buildC wkP F rfl rfl rfl elem26 zero5 rfl rfl rfl rfl (by simp [Value.cells]) (by decide) H fun b52 w a H F => ?_
 replace H := H.blkOw1 (R := rByte) (x := x53) (fun gg => (congrArg (fun z => [Value.int .u8 z]) (u8O_some ex53).symm))
 replace H := H.frz 0 rfl
 obtain ⟨x55, ex55, hm⟩ := ob hm
 refine s_app wkP F rfl rfl rfl rfl rfl rfl elem26 rfl ex55 H 1 0 rfl rfl fun p54 c54 w a H F => ?_
 refine bb [0] F H rfl fun a F => ?_
 replace H := H.nf 3 rfl
 refine lz (bn (ct ?_)); cases hm
 exact ⟨_, rfl, ⟨p54, c54, F.sl rfl, (H.pm 3 [1,2] rfl:)⟩⟩
 refine ex (cx (cx ?_)); cases hm; refine ⟨_, rfl, ?_⟩; rintro rfl
 refine ch (ct ?_)
 exact ⟨p49, c49, F.sl rfl, H⟩
 refine ct (sr (bk [0,0,2,0,0] F H rfl ⟨⟨_, Tryz.underlying26⟩, Tryz.underlying3, Tryz.underlying116, trivial⟩ fun a F => ?_))
 refine nl (sq (sb [0] F H rfl fun a F => ?_))
 refine nl (xm2 2 [] [] F H hm rfl rfl (fun r78 (p79 : Option Addr) (c79 : Nat) z => (3, .slice p79 (r78).length c79) :: z) (fun r78 p79 c79 z => HP.ow rByte 5 p79 c79 r78 :: z) (fun r78 hm => ?_) (fun r78 a w hm p79 c79 F H => ?_))
 refine bl (xl2 2 [4] [] F H hm rfl rfl (fun (s94 : (List UInt8) × Int) (p95 : Option Addr) (c95 : Nat) z => (3, .slice p95 (s94.1).length c95) :: (5, .int .i64 (s94.2)) :: z) (fun s94 p95 c95 z => HP.ow rByte 5 p95 c95 s94.1 :: z) ⟨p33, c33, F.sl rfl, (H.pm 2 [0] rfl:)⟩ (fun s94 a w o p95 c95 F H hm => ?_))
 refine sq (sb [0,0] F H rfl fun a F => ?_)
 refine nl (cPm F rfl hm (fun hg96 hm => ?_) (fun hg96 hm => ?_))
 refine sk (ct (sq (bl (rl (bk [0,0,0,0,2] F H rfl ⟨Tryz.underlying3, Tryz.underlying98, trivial⟩ fun a F => ?_)))))
 obtain ⟨x97, ex97, hm⟩ := ob hm
 refine sv F rfl (i_shrO F rfl rfl rfl ex97) fun a F => ?_
 refine bk [1] F H rfl ⟨Tryz.underlying116, Tryz.underlying5, trivial⟩ fun a F => ?_
 obtain ⟨x99, ex99, hm⟩ := ob hm
 refine s_buildC wkP F rfl rfl rfl elem26 zero5 rfl rfl rfl rfl (by simp [Value.cells]) (by decide) H fun b98 w a H F => ?_
 replace H := H.blkOw1 (R := rByte) (x := x99) (fun gg => (congrArg (fun z => [Value.int .u8 z]) (u8O_some ex99).symm))
 replace H := H.frz 0 rfl
 obtain ⟨x101, ex101, hm⟩ := ob hm
 refine s_app wkP F rfl rfl rfl rfl rfl rfl elem26 rfl ex101 H 1 0 rfl rfl fun p100 c100 w a H F => ?_
 refine bb [0] F H rfl fun a F => ?_
 replace H := H.nf 2 rfl
 refine lz (bn (ct (rl (bb [0,0,0] F H rfl fun a F => ?_))))
 refine lz (ct ?_); cases hm
 exact ⟨_, rfl, ⟨p100, c100, F.sl rfl, (H.pm 2 [1] rfl:)⟩⟩
 refine ex (cx (cx ?_)); cases hm; refine ⟨_, rfl, ?_⟩; rintro rfl
 refine ch (ct ?_)
 exact ⟨p95, c95, F.sl rfl, H⟩
 refine ct (sb [0,0] F H rfl fun a F => ?_)
 refine nl (wr ?_)
 cases hm
 refine x_ret1 F rfl rfl ?_
 exact ⟨_, rfl, p79, c79, rfl, H⟩
theorem agz94 : AggT Tryz.prog 94 64 (icells .u32 (List.replicate 64 0)) := ⟨by rw [Tryz.underlying94]; rfl, by kernel_rfl, by kernel_rfl⟩
theorem agg94 : AggT Tryz.prog 94 64 (List.replicate 64 (.int .u32 0)) := ⟨by rw [Tryz.underlying94]; rfl, by kernel_rfl, by kernel_rfl⟩
theorem w_rConst   {w0 w : World} {l : List HP}  {r : (List Int)} (hm : rConst  = some r) (H : St w0 w (l)) :
  Calls Tryz.prog 41 [].toArray w (fun e w' => ∃ v, e = .returned v ∧ v = .agg (icells .u32 r).toArray ∧ ((r).length = 64) ∧ St w0 w' (l)) := by
 unfold rConst at hm
 refine x_enter Tryz.func41 rfl rfl rfl ?_
 intro a F
 refine sr (s_allocA wkP F rfl rfl rfl agz94 rfl H fun b2 w a H F => ?_)
 replace H := H.nf 1 rfl
 refine nl (sr ?_)
 refine sv F rfl (y_build F rfl rfl (cs := icells .u32 ([1116352408,1899447441,3049323471,3921009573,961987163,1508970993,2453635748,2870763221,3624381080,310598401,607225278,1426881987,1925078388,2162078206,2614888103,3248222580,3835390401,4022224774,264347078,604807628,770255983,1249150122,1555081692,1996064986,2554220882,2821834349,2952996808,3210313671,3336571891,3584528711,113926993,338241895,666307205,773529912,1294757372,1396182291,1695183700,1986661051,2177026350,2456956037,2730485921,2820302411,3259730800,3345764771,3516065817,3600352804,4094571909,275423344,430227734,506948616,659060556,883997877,958139571,1322822218,1537002063,1747873779,1955562222,2024104815,2227730452,2361852424,2428436474,2756734187,3204031479,3329325298] : List Int)) (by kernel_rfl)) fun a F => ?_
 refine s_storeA wkP F rfl rfl agg94 rfl rfl rfl H 0 rfl ((icells_length _ _).trans rfl) ((icells_length _ _).trans (List.length_replicate (n := 64))) (icells_flat _ _) fun w H => ?_
 replace H := H.nf 1 rfl
 refine nl (wr ?_)
 cases hm
 refine x_resC1 F rfl (⟨_, rfl, agg94.run_load (H.blk 0 rfl).row ((icells_length _ _).trans rfl)⟩) ?_
 exact ⟨_, rfl, rfl, rfl, (H.pm 1 [] rfl:)⟩
theorem agz25 : AggT Tryz.prog 25 32 (bcells (List.replicate 32 0)) := ⟨by rw [Tryz.underlying25]; rfl, by kernel_rfl, by kernel_rfl⟩
theorem ent41 : En Tryz.prog 41 := enters Tryz.func41 (by kernel_rfl) rfl
theorem agz96 : AggT Tryz.prog 96 8 (icells .u32 (List.replicate 8 0)) := ⟨by rw [Tryz.underlying96]; rfl, by kernel_rfl, by kernel_rfl⟩
theorem ent42 : En Tryz.prog 42 := enters Tryz.func42 (by kernel_rfl) rfl
theorem plain5 : Plain Tryz.prog 5 := by unfold Plain; rw [Tryz.underlying5]; rfl
theorem arr94 : ArrT Tryz.prog 94 93 64 1 := ⟨Tryz.underlying94, by kernel_rfl⟩
theorem zero93 : Zero1 Tryz.prog 93 (.int .u32 0) := ⟨by kernel_rfl, rfl⟩
theorem plain93 : Plain Tryz.prog 93 := by unfold Plain; rw [Tryz.underlying93]; rfl
theorem ent43 : En Tryz.prog 43 := enters Tryz.func43 (by kernel_rfl) rfl
theorem arr96 : ArrT Tryz.prog 96 93 8 1 := ⟨Tryz.underlying96, by kernel_rfl⟩
theorem agg25 : AggT Tryz.prog 25 32 (List.replicate 32 (.int .u8 0)) := ⟨by rw [Tryz.underlying25]; rfl, by kernel_rfl, by kernel_rfl⟩
theorem arr25 : ArrT Tryz.prog 25 5 32 1 := ⟨Tryz.underlying25, by kernel_rfl⟩
theorem w_rSum {b : List UInt8} {p1 : Option Addr} {c1 : Nat} {w0 w : World} {l : List HP}  {r : (List UInt8)} (hm : rSum b = some r) (H : St w0 w (HP.sl rByte p1 c1 b :: l)) :
  Calls Tryz.prog 20 [.slice p1 (b).length c1].toArray w (fun e w' => ∃ v, e = .returned v ∧ v = .agg (bcells r).toArray ∧ ((r).length = 32) ∧ St w0 w' (l)) := by
 unfold rSum at hm
 refine x_enter Tryz.func20 rfl rfl rfl ?_
 intro a F
 refine sr (s_allocA wkP F rfl rfl rfl agz25 rfl H fun b3 w a H F => ?_)
 replace H := H.nf 2 rfl
 refine nl (sr ?_)
 obtain ⟨x4, ex4, hm⟩ := ob hm
 refine sd F rfl ent41 (w_rConst ex4 H:) ?_; rintro _ w a ⟨rfl, hl5, H⟩ F
 refine s_allocA wkP F rfl rfl rfl agz94 rfl H fun b6 w a H F => ?_
 refine s_storeA wkP F rfl rfl agg94 rfl rfl rfl H 0 rfl ((icells_length _ _).trans hl5) ((icells_length _ _).trans (List.length_replicate (n := 64))) (icells_flat _ _) fun w H => ?_
 replace H := H.nf 3 rfl
 refine nl (sr (sv F rfl (y_build F rfl rfl (cs := icells .u32 ([1779033703,3144134277,1013904242,2773480762,1359893119,2600822924,528734635,1541459225] : List Int)) (by kernel_rfl)) fun a F => ?_))
 refine s_allocA wkP F rfl rfl rfl agz96 rfl H fun b7 w a H F => ?_
 refine s_storeA wkP F rfl rfl agg96 rfl rfl rfl H 0 rfl ((icells_length _ _).trans rfl) ((icells_length _ _).trans (List.length_replicate (n := 8))) (icells_flat _ _) fun w H => ?_
 replace H := H.nf 4 rfl
 refine nb [0] F H rfl fun a F => ?_
 obtain ⟨x8, ex8, hm⟩ := ob hm
 refine sd F rfl ent42 (w_rPad ex8 (H.pm 4 [3,0,1,2,3] rfl:):) ?_; rintro _ w a ⟨p9, c9, rfl, H⟩ F
 refine bb [0] F H rfl fun a F => ?_
 replace H := H.nf 5 rfl
 refine nl (sq (sb [0] F H rfl fun a F => ?_))
 refine nl ?_
 obtain ⟨r1355, er1355, hm1355⟩ := ob hm; clear hm; revert er1355; intro hm
 refine x_mid (fun aa ww => Fr ⟨234, []⟩ aa [(2, .pointer (some ⟨b3, 0, none⟩)), (4, .pointer (some ⟨b7, 0, none⟩))] ∧ ((r1355).length = 8) ∧ St w0 ww (HP.ow rByte 5 p9 c9 x8 :: HP.blk b7 (icells .u32 r1355) 96 :: HP.blk b6 (icells .u32 x4) 94 :: HP.blk b3 (bcells (List.replicate 32 0)) 25 :: l)) ?_ ?_
 refine bl ?_
 refine x_loopO _ (fun (s2253 : (List Int) × Int) aa ww => Fr ⟨234, []⟩ aa [(2, .pointer (some ⟨b3,0, none⟩)), (3, .pointer (some ⟨b6,0, none⟩)), (4, .pointer (some ⟨b7,0, none⟩)), (5, .slice p9 (x8).length c9), (6, .int .i64 (s2253.2))] ∧ ((s2253.1).length = 8) ∧ St w0 ww (HP.ow rByte 5 p9 c9 x8 :: HP.blk b7 (icells .u32 s2253.1) 96 :: HP.blk b6 (icells .u32 x4) 94 :: HP.blk b3 (bcells (List.replicate 32 0)) 25 :: l)) hm ⟨F.sl rfl, rfl, (H.pm 5 [0,1,2,3] rfl:)⟩ ?_
 clear F H hm
 rintro s2253 a w o ⟨F, hl2254, H⟩ hm
 refine sq (sr (bk [0,0,0,0] F H rfl ⟨⟨_, Tryz.underlying26⟩, trivial⟩ fun a F => ?_))
 refine nl (cPm F rfl hm (fun hg2255 hm => ?_) (fun hg2255 hm => ?_))
 refine sk (ct (sq (bl (sr (sv F rfl (y_build F rfl rfl (cs := icells .u32 ([0,0,0,0,0,0,0,0,0,0,0,0,0,0,0,0,0,0,0,0,0,0,0,0,0,0,0,0,0,0,0,0,0,0,0,0,0,0,0,0,0,0,0,0,0,0,0,0,0,0,0,0,0,0,0,0,0,0,0,0,0,0,0,0] : List Int)) (by kernel_rfl)) fun a F => ?_)))))
 refine s_allocA wkP F rfl rfl rfl agz94 rfl H fun b2256 w a H F => ?_
 refine s_storeA wkP F rfl rfl agg94 rfl rfl rfl H 0 rfl ((icells_length _ _).trans rfl) ((icells_length _ _).trans (List.length_replicate (n := 64))) (icells_flat _ _) fun w H => ?_
 replace H := H.nf 5 rfl
 refine nl (sq (sb [0] F H rfl fun a F => ?_))
 refine nl ?_
 obtain ⟨r2402, er2402, hm2402⟩ := ob hm; clear hm; revert er2402; intro hm
 refine x_mid (fun aa ww => Fr ⟨234, []⟩ aa [(2, .pointer (some ⟨b3, 0, none⟩)), (3, .pointer (some ⟨b6, 0, none⟩)), (4, .pointer (some ⟨b7, 0, none⟩)), (5, .slice p9 (x8).length c9), (6, .int .i64 (s2253.2)), (7, .pointer (some ⟨b2256, 0, none⟩))] ∧ ((r2402).length = 64) ∧ St w0 ww (HP.blk b2256 (icells .u32 r2402) 94 :: HP.ow rByte 5 p9 c9 x8 :: HP.blk b7 (icells .u32 s2253.1) 96 :: HP.blk b6 (icells .u32 x4) 94 :: HP.blk b3 (bcells (List.replicate 32 0)) 25 :: l)) ?_ ?_
 refine bl ?_
 refine x_loopO _ (fun (s2500 : (List Int) × Int) aa ww => Fr ⟨234, []⟩ aa [(2, .pointer (some ⟨b3, 0, none⟩)), (3, .pointer (some ⟨b6, 0, none⟩)), (4, .pointer (some ⟨b7, 0, none⟩)), (5, .slice p9 (x8).length c9), (6, .int .i64 (s2253.2)), (7, .pointer (some ⟨b2256, 0, none⟩)), (8, .int .i64 (s2500.2))] ∧ ((s2500.1).length = 64) ∧ St w0 ww (HP.blk b2256 (icells .u32 s2500.1) 94 :: HP.ow rByte 5 p9 c9 x8 :: HP.blk b7 (icells .u32 s2253.1) 96 :: HP.blk b6 (icells .u32 x4) 94 :: HP.blk b3 (bcells (List.replicate 32 0)) 25 :: l)) hm ⟨F.sl rfl, rfl, H⟩ ?_
 clear F H hm
 rintro s2500 a w o ⟨F, hl2501, H⟩ hm
 refine sq (sb [0,0] F H rfl fun a F => ?_)
 refine nl (cPm F rfl hm (fun hg2502 hm => ?_) (fun hg2502 hm => ?_))
 refine sk (ct (sq ?_))
 obtain ⟨r2525, er2525, hm2525⟩ := ob hm; clear hm; revert er2525; intro hm
 refine x_mid (fun aa ww => Fr ⟨234, []⟩ aa [(2, .pointer (some ⟨b3, 0, none⟩)), (3, .pointer (some ⟨b6, 0, none⟩)), (4, .pointer (some ⟨b7, 0, none⟩)), (5, .slice p9 (x8).length c9), (6, .int .i64 (s2253.2)), (7, .pointer (some ⟨b2256, 0, none⟩)), (8, .int .i64 (s2500.2))] ∧ ((r2525).length = 64) ∧ St w0 ww (HP.blk b2256 (icells .u32 r2525) 94 :: HP.ow rByte 5 p9 c9 x8 :: HP.blk b7 (icells .u32 s2253.1) 96 :: HP.blk b6 (icells .u32 x4) 94 :: HP.blk b3 (bcells (List.replicate 32 0)) 25 :: l)) ?_ ?_
 refine bl (sq (sb [0,0] F H rfl fun a F => ?_))
 refine nl (cPm F rfl hm (fun hg2527 hm => ?_) (fun hg2527 hm => ?_))
 refine sb (List.replicate 5 0) F H rfl fun a F => ?_
 refine nl (sq ?_)
 obtain ⟨x2528, ex2528, hm⟩ := ob hm
 obtain ⟨b2529, hp2529⟩ := H.owP 1 rfl (idxO_some ex2528).2
 obtain ⟨x2531, ex2531, hm⟩ := ob hm
 obtain ⟨x2533, ex2533, hm⟩ := ob hm
 obtain ⟨x2535, ex2535, hm⟩ := ob hm
 obtain ⟨x2537, ex2537, hm⟩ := ob hm
 refine mix_regionK [31] [31] (scL [0,1,2,3,1004,5,6,7,8,9,10,1011,12,13,14,15,16,17,18,1019,20,21,22,23,24,25,26,1027,28,29,30,3031]) [] H rfl rfl (by kernel_rfl) (by kernel_rfl) fun w H => ?_
 refine mb [0,0,0] F H rfl fun a F => ?_
 refine m_pure F rfl rfl rfl rfl (fun u hu => y_idxS F elem26 rfl rfl rfl hp2529 ex2528) fun a F => ?_
 refine m_read F rfl rfl rfl rfl (y_load1 F plain5 rfl rfl (H.owB 1 rfl hp2529 ex2528)) fun a F => ?_
 refine mbk [3] F H rfl ⟨Tryz.underlying5, Tryz.underlying93, trivial⟩ fun a F => ?_
 refine m_pure F rfl rfl rfl rfl (fun u hu => i_shl F rfl rfl rfl (by decide)) fun a F => ?_
 refine mb [0,0,0] F H rfl fun a F => ?_
 refine m_pure F rfl rfl rfl rfl (fun u hu => y_idxS F elem26 rfl rfl rfl hp2529 ex2531) fun a F => ?_
 refine m_read F rfl rfl rfl rfl (y_load1 F plain5 rfl rfl (H.owB 1 rfl hp2529 ex2531)) fun a F => ?_
 refine mbk [3] F H rfl ⟨Tryz.underlying5, Tryz.underlying93, trivial⟩ fun a F => ?_
 refine m_pure F rfl rfl rfl rfl (fun u hu => i_shl F rfl rfl rfl (by decide)) fun a F => ?_
 refine mb [0,0,0,0] F H rfl fun a F => ?_
 refine m_pure F rfl rfl rfl rfl (fun u hu => y_idxS F elem26 rfl rfl rfl hp2529 ex2533) fun a F => ?_
 refine m_read F rfl rfl rfl rfl (y_load1 F plain5 rfl rfl (H.owB 1 rfl hp2529 ex2533)) fun a F => ?_
 refine mbk [3] F H rfl ⟨Tryz.underlying5, Tryz.underlying93, trivial⟩ fun a F => ?_
 refine m_pure F rfl rfl rfl rfl (fun u hu => i_shl F rfl rfl rfl (by decide)) fun a F => ?_
 refine mb [0,0,0,0] F H rfl fun a F => ?_
 refine m_pure F rfl rfl rfl rfl (fun u hu => y_idxS F elem26 rfl rfl rfl hp2529 ex2535) fun a F => ?_
 refine m_read F rfl rfl rfl rfl (y_load1 F plain5 rfl rfl (H.owB 1 rfl hp2529 ex2535)) fun a F => ?_
 refine mbk [3,0] F H rfl ⟨Tryz.underlying5, Tryz.underlying93, trivial⟩ fun a F => ?_
 refine m_pure F rfl rfl rfl rfl (fun u hu => y_idxA F arr94 rfl rfl rfl ex2537 hl2501) fun a F => ?_
 refine m_last rfl rfl ?_
 refine s_stI wkP F rfl rfl zero93 rfl rfl rfl H 0 rfl ex2537 fun w H => ?_
 refine lz ?_; refine ct ?_
 refine m_nil ?_
 refine ct (ex (cx (ch ?_)))
 cases hm
 refine ct ?_
 exact ⟨F.sl rfl, ((List.length_set ..).trans hl2501), H⟩
 refine sk (ct (sq ?_))
 obtain ⟨x2539, ex2539, hm⟩ := ob hm
 obtain ⟨x2540, ex2540, hm⟩ := ob hm
 refine qr H (by kernel_rfl) (by kernel_rfl) ?_
 refine qb [0,0] F rfl fun a F => ?_
 refine qv F rfl (fun u hu => y_idxA F arr94 rfl rfl rfl ex2539 hl2501) fun a F => ?_
 refine qv F rfl (fun u hu => y_load1 F plain93 rfl rfl (row_ix ((hu.blk 0 rfl).row) (icells_idx ex2539))) fun a F => ?_
 refine qb [0,0] F rfl fun a F => ?_
 refine qv F rfl (fun u hu => y_idxA F arr94 rfl rfl rfl ex2540 hl2501) fun a F => ?_
 refine qv F rfl (fun u hu => y_load1 F plain93 rfl rfl (row_ix ((hu.blk 0 rfl).row) (icells_idx ex2540))) fun a F => ?_
 refine qb [0,0] F rfl fun a F => ?_
 refine q_nil fun w H => ?_
 refine ct (sb [0] F H rfl fun a F => ?_)
 obtain ⟨x2541, ex2541, hm⟩ := ob hm
 refine sd F rfl ent43 (w_rotr ex2541 H:) ?_; rintro _ w a ⟨rfl, H⟩ F
 refine bb [0] F H rfl fun a F => ?_
 obtain ⟨x2542, ex2542, hm⟩ := ob hm
 refine sd F rfl ent43 (w_rotr ex2542 H:) ?_; rintro _ w a ⟨rfl, H⟩ F
 refine bb [0,0] F H rfl fun a F => ?_
 refine sv F rfl (i_shr F rfl rfl rfl (by decide)) fun a F => ?_
 refine bb [0,0] F H rfl fun a F => ?_
 replace H := H.nf 5 rfl
 refine nb [0] F H rfl fun a F => ?_
 obtain ⟨x2543, ex2543, hm⟩ := ob hm
 refine sd F rfl ent43 (w_rotr ex2543 H:) ?_; rintro _ w a ⟨rfl, H⟩ F
 refine bb [0] F H rfl fun a F => ?_
 obtain ⟨x2544, ex2544, hm⟩ := ob hm
 refine sd F rfl ent43 (w_rotr ex2544 H:) ?_; rintro _ w a ⟨rfl, H⟩ F
 refine bb [0,0] F H rfl fun a F => ?_
 refine sv F rfl (i_shr F rfl rfl rfl (by decide)) fun a F => ?_
 refine bb [0,0] F H rfl fun a F => ?_
 replace H := H.nf 5 rfl
 refine nl ?_
 obtain ⟨x2545, ex2545, hm⟩ := ob hm
 obtain ⟨x2546, ex2546, hm⟩ := ob hm
 obtain ⟨x2547, ex2547, hm⟩ := ob hm
 refine mix_regionK [15] [15] (scL [0,1,2,3,1004,5,6,7,8,9,1010,11,12,13,14,3015]) [] H rfl rfl (by kernel_rfl) (by kernel_rfl) fun w H => ?_
 refine mb [0,0,0] F H rfl fun a F => ?_
 refine m_pure F rfl rfl rfl rfl (fun u hu => y_idxA F arr94 rfl rfl rfl ex2545 hl2501) fun a F => ?_
 refine m_read F rfl rfl rfl rfl (y_load1 F plain93 rfl rfl (row_ix ((H.blk 0 rfl).row) (icells_idx ex2545))) fun a F => ?_
 refine mb [0,0,0,0] F H rfl fun a F => ?_
 refine m_pure F rfl rfl rfl rfl (fun u hu => y_idxA F arr94 rfl rfl rfl ex2546 hl2501) fun a F => ?_
 refine m_read F rfl rfl rfl rfl (y_load1 F plain93 rfl rfl (row_ix ((H.blk 0 rfl).row) (icells_idx ex2546))) fun a F => ?_
 refine mb [0,0,0] F H rfl fun a F => ?_
 refine m_pure F rfl rfl rfl rfl (fun u hu => y_idxA F arr94 rfl rfl rfl ex2547 hl2501) fun a F => ?_
 refine m_last rfl rfl ?_
 refine s_stI wkP F rfl rfl zero93 rfl rfl rfl H 0 rfl ex2547 fun w H => ?_
 refine lz ?_; refine ct ?_
 refine m_nil ?_
 refine bn ?_
 cases hm
 refine ct ?_
 exact ⟨F.sl rfl, ((List.length_set ..).trans hl2501), H⟩
 clear F H hm
 rintro a w ⟨F, hl2526, H⟩; have hm := hm2525; clear hm2525
 refine ct (rl (bb [0,0,0] F H rfl fun a F => ?_))
 refine lz (ct ?_); cases hm
 exact ⟨_, rfl, ⟨F.sl rfl, hl2526, H⟩⟩
 refine ex (cx (cx ?_)); cases hm; refine ⟨_, rfl, ?_⟩; rintro rfl
 refine ch (ct ?_)
 exact ⟨F.sl rfl, hl2501, H⟩
 clear F H hm
 rintro a w ⟨F, hl2403, H⟩; have hm := hm2402; clear hm2402
 refine ct (sr (bk [2999] F H rfl ⟨rfl, (aggn agg96 ((icells_length _ _).trans hl2254)), trivial⟩ fun a F => ?_))
 refine s_allocA wkP F rfl rfl rfl agz96 rfl H fun b2549 w a H F => ?_
 refine s_storeA wkP F rfl rfl agg96 rfl rfl rfl H 0 rfl ((icells_length _ _).trans hl2254) ((icells_length _ _).trans (List.length_replicate (n := 8))) (icells_flat _ _) fun w H => ?_
 replace H := H.nf 6 rfl
 refine nl (sq (sb [0] F H rfl fun a F => ?_))
 refine nl ?_
 obtain ⟨r2605, er2605, hm2605⟩ := ob hm; clear hm; revert er2605; intro hm
 refine x_mid (fun aa ww => Fr ⟨234, []⟩ aa [(2, .pointer (some ⟨b3, 0, none⟩)), (3, .pointer (some ⟨b6, 0, none⟩)), (4, .pointer (some ⟨b7, 0, none⟩)), (5, .slice p9 (x8).length c9), (6, .int .i64 (s2253.2)), (14, .pointer (some ⟨b2549, 0, none⟩))] ∧ ((r2605).length = 8) ∧ St w0 ww (HP.blk b2549 (icells .u32 r2605) 96 :: HP.blk b2256 (icells .u32 r2402) 94 :: HP.ow rByte 5 p9 c9 x8 :: HP.blk b7 (icells .u32 s2253.1) 96 :: HP.blk b6 (icells .u32 x4) 94 :: HP.blk b3 (bcells (List.replicate 32 0)) 25 :: l)) ?_ ?_
 refine bl ?_
 refine x_loopO _ (fun (s2643 : (List Int) × Int) aa ww => Fr ⟨234, []⟩ aa [(2, .pointer (some ⟨b3, 0, none⟩)), (3, .pointer (some ⟨b6, 0, none⟩)), (4, .pointer (some ⟨b7, 0, none⟩)), (5, .slice p9 (x8).length c9), (6, .int .i64 (s2253.2)), (7, .pointer (some ⟨b2256, 0, none⟩)), (14, .pointer (some ⟨b2549, 0, none⟩)), (15, .int .i64 (s2643.2))] ∧ ((s2643.1).length = 8) ∧ St w0 ww (HP.blk b2549 (icells .u32 s2643.1) 96 :: HP.blk b2256 (icells .u32 r2402) 94 :: HP.ow rByte 5 p9 c9 x8 :: HP.blk b7 (icells .u32 s2253.1) 96 :: HP.blk b6 (icells .u32 x4) 94 :: HP.blk b3 (bcells (List.replicate 32 0)) 25 :: l)) hm ⟨F.sl rfl, hl2254, H⟩ ?_
 clear F H hm
 rintro s2643 a w o ⟨F, hl2644, H⟩ hm
 refine sq (sb [0,0] F H rfl fun a F => ?_)
 refine nl (cPm F rfl hm (fun hg2645 hm => ?_) (fun hg2645 hm => ?_))
 refine sk (ct (sq (bl (sq ?_))))
 obtain ⟨x2646, ex2646, hm⟩ := ob hm
 obtain ⟨x2647, ex2647, hm⟩ := ob hm
 obtain ⟨x2648, ex2648, hm⟩ := ob hm
 obtain ⟨x2649, ex2649, hm⟩ := ob hm
 obtain ⟨x2650, ex2650, hm⟩ := ob hm
 obtain ⟨x2651, ex2651, hm⟩ := ob hm
 refine qr H (by kernel_rfl) (by kernel_rfl) ?_
 refine qv F rfl (fun u hu => y_idxA F arr96 rfl rfl rfl ex2646 hl2644) fun a F => ?_
 refine qv F rfl (fun u hu => y_load1 F plain93 rfl rfl (row_ix ((hu.blk 0 rfl).row) (icells_idx ex2646))) fun a F => ?_
 refine qv F rfl (fun u hu => y_idxA F arr96 rfl rfl rfl ex2647 hl2644) fun a F => ?_
 refine qv F rfl (fun u hu => y_load1 F plain93 rfl rfl (row_ix ((hu.blk 0 rfl).row) (icells_idx ex2647))) fun a F => ?_
 refine qv F rfl (fun u hu => y_idxA F arr96 rfl rfl rfl ex2648 hl2644) fun a F => ?_
 refine qv F rfl (fun u hu => y_load1 F plain93 rfl rfl (row_ix ((hu.blk 0 rfl).row) (icells_idx ex2648))) fun a F => ?_
 refine qv F rfl (fun u hu => y_idxA F arr96 rfl rfl rfl ex2649 hl2644) fun a F => ?_
 refine qv F rfl (fun u hu => y_load1 F plain93 rfl rfl (row_ix ((hu.blk 0 rfl).row) (icells_idx ex2649))) fun a F => ?_
 refine qv F rfl (fun u hu => y_idxA F arr96 rfl rfl rfl ex2650 hl2644) fun a F => ?_
 refine qv F rfl (fun u hu => y_load1 F plain93 rfl rfl (row_ix ((hu.blk 0 rfl).row) (icells_idx ex2650))) fun a F => ?_
 refine qv F rfl (fun u hu => y_idxA F arr96 rfl rfl rfl ex2651 hl2644) fun a F => ?_
 refine qv F rfl (fun u hu => y_load1 F plain93 rfl rfl (row_ix ((hu.blk 0 rfl).row) (icells_idx ex2651))) fun a F => ?_
 refine qb (List.replicate 6 0) F rfl fun a F => ?_
 refine q_nil fun w H => ?_
 refine ct (sb [0] F H rfl fun a F => ?_)
 obtain ⟨x2652, ex2652, hm⟩ := ob hm
 refine sd F rfl ent43 (w_rotr ex2652 H:) ?_; rintro _ w a ⟨rfl, H⟩ F
 refine bb [0] F H rfl fun a F => ?_
 obtain ⟨x2653, ex2653, hm⟩ := ob hm
 refine sd F rfl ent43 (w_rotr ex2653 H:) ?_; rintro _ w a ⟨rfl, H⟩ F
 refine bb [0,0] F H rfl fun a F => ?_
 obtain ⟨x2654, ex2654, hm⟩ := ob hm
 refine sd F rfl ent43 (w_rotr ex2654 H:) ?_; rintro _ w a ⟨rfl, H⟩ F
 refine bb [0,0] F H rfl fun a F => ?_
 replace H := H.nf 6 rfl
 refine nb (List.replicate 9 0) F H rfl fun a F => ?_
 refine nl (sq ?_)
 obtain ⟨x2655, ex2655, hm⟩ := ob hm
 obtain ⟨x2656, ex2656, hm⟩ := ob hm
 obtain ⟨x2657, ex2657, hm⟩ := ob hm
 refine qr H (by kernel_rfl) (by kernel_rfl) ?_
 refine qv F rfl (fun u hu => y_idxA F arr96 rfl rfl rfl ex2655 hl2644) fun a F => ?_
 refine qv F rfl (fun u hu => y_load1 F plain93 rfl rfl (row_ix ((hu.blk 0 rfl).row) (icells_idx ex2655))) fun a F => ?_
 refine qb (List.replicate 5 0) F rfl fun a F => ?_
 refine qv F rfl (fun u hu => y_idxA F arr94 rfl rfl rfl ex2656 hl5) fun a F => ?_
 refine qv F rfl (fun u hu => y_load1 F plain93 rfl rfl (row_ix ((hu.blk 4 rfl).row) (icells_idx ex2656))) fun a F => ?_
 refine qb [0,0] F rfl fun a F => ?_
 refine qv F rfl (fun u hu => y_idxA F arr94 rfl rfl rfl ex2657 hl2403) fun a F => ?_
 refine qv F rfl (fun u hu => y_load1 F plain93 rfl rfl (row_ix ((hu.blk 1 rfl).row) (icells_idx ex2657))) fun a F => ?_
 refine qb [0,0] F rfl fun a F => ?_
 refine q_nil fun w H => ?_
 refine ct (sb [0] F H rfl fun a F => ?_)
 obtain ⟨x2658, ex2658, hm⟩ := ob hm
 refine sd F rfl ent43 (w_rotr ex2658 H:) ?_; rintro _ w a ⟨rfl, H⟩ F
 refine bb [0] F H rfl fun a F => ?_
 obtain ⟨x2659, ex2659, hm⟩ := ob hm
 refine sd F rfl ent43 (w_rotr ex2659 H:) ?_; rintro _ w a ⟨rfl, H⟩ F
 refine bb [0,0] F H rfl fun a F => ?_
 obtain ⟨x2660, ex2660, hm⟩ := ob hm
 refine sd F rfl ent43 (w_rotr ex2660 H:) ?_; rintro _ w a ⟨rfl, H⟩ F
 refine bb [0,0] F H rfl fun a F => ?_
 replace H := H.nf 6 rfl
 refine nb (List.replicate 12 0) F H rfl fun a F => ?_
 refine nl (rl (bb (List.replicate 8 0) F H rfl fun a F => ?_))
 obtain ⟨x2661, ex2661, hm⟩ := ob hm
 refine sv F rfl (y_idxA F arr96 rfl rfl rfl ex2661 hl2644) fun a F => ?_
 refine sv F rfl (y_load1 F plain93 rfl rfl (row_ix ((H.blk 0 rfl).row) (icells_idx ex2661))) fun a F => ?_
 refine bb (List.replicate 5 0) F H rfl fun a F => ?_
 refine sv F rfl (y_build F rfl rfl (cs := icells .u32 ([IntKind.u32.wrap ((IntKind.u32.wrap ((IntKind.u32.wrap ((IntKind.u32.wrap ((IntKind.u32.wrap ((IntKind.u32.wrap (x2655 + (xorI .u32 (xorI .u32 x2652 x2653) x2654))) + (xorI .u32 (andI .u32 x2649 x2650) (andI .u32 (xorI .u32 4294967295 x2649) x2651)))) + x2656)) + x2657)) + (xorI .u32 (xorI .u32 x2658 x2659) x2660))) + (xorI .u32 (xorI .u32 (andI .u32 x2646 x2647) (andI .u32 x2646 x2648)) (andI .u32 x2647 x2648))), x2646, x2647, x2648, IntKind.u32.wrap (x2661 + (IntKind.u32.wrap ((IntKind.u32.wrap ((IntKind.u32.wrap ((IntKind.u32.wrap (x2655 + (xorI .u32 (xorI .u32 x2652 x2653) x2654))) + (xorI .u32 (andI .u32 x2649 x2650) (andI .u32 (xorI .u32 4294967295 x2649) x2651)))) + x2656)) + x2657))), x2649, x2650, x2651] : List Int)) (by kernel_rfl)) fun a F => ?_
 refine s_storeA wkP F rfl rfl agg96 rfl rfl rfl H 0 rfl ((icells_length _ _).trans rfl) ((icells_length _ _).trans hl2644) (icells_flat _ _) fun w H => ?_
 replace H := H.nf 6 rfl
 refine lz (bn (ct (rl (bb [0,0,0] F H rfl fun a F => ?_))))
 refine lz (ct ?_); cases hm
 exact ⟨_, rfl, ⟨F.sl rfl, rfl, H⟩⟩
 refine ex (cx (cx ?_)); cases hm; refine ⟨_, rfl, ?_⟩; rintro rfl
 refine ch (ct ?_)
 exact ⟨F.sl rfl, hl2644, H⟩
 clear F H hm
 rintro a w ⟨F, hl2606, H⟩; have hm := hm2605; clear hm2605
 refine ct (sb [0] F H rfl fun a F => ?_)
 refine nl ?_
 obtain ⟨r2681, er2681, hm2681⟩ := ob hm; clear hm; revert er2681; intro hm
 refine x_mid (fun aa ww => Fr ⟨234, []⟩ aa [(2, .pointer (some ⟨b3, 0, none⟩)), (3, .pointer (some ⟨b6, 0, none⟩)), (4, .pointer (some ⟨b7, 0, none⟩)), (5, .slice p9 (x8).length c9), (6, .int .i64 (s2253.2))] ∧ ((r2681).length = 8) ∧ St w0 ww (HP.blk b2549 (icells .u32 r2605) 96 :: HP.blk b2256 (icells .u32 r2402) 94 :: HP.ow rByte 5 p9 c9 x8 :: HP.blk b7 (icells .u32 r2681) 96 :: HP.blk b6 (icells .u32 x4) 94 :: HP.blk b3 (bcells (List.replicate 32 0)) 25 :: l)) ?_ ?_
 refine bl ?_
 refine x_loopO _ (fun (s2695 : (List Int) × Int) aa ww => Fr ⟨234, []⟩ aa [(2, .pointer (some ⟨b3, 0, none⟩)), (3, .pointer (some ⟨b6, 0, none⟩)), (4, .pointer (some ⟨b7, 0, none⟩)), (5, .slice p9 (x8).length c9), (6, .int .i64 (s2253.2)), (14, .pointer (some ⟨b2549, 0, none⟩)), (27, .int .i64 (s2695.2))] ∧ ((s2695.1).length = 8) ∧ St w0 ww (HP.blk b2549 (icells .u32 r2605) 96 :: HP.blk b2256 (icells .u32 r2402) 94 :: HP.ow rByte 5 p9 c9 x8 :: HP.blk b7 (icells .u32 s2695.1) 96 :: HP.blk b6 (icells .u32 x4) 94 :: HP.blk b3 (bcells (List.replicate 32 0)) 25 :: l)) hm ⟨F.sl rfl, hl2254, H⟩ ?_
 clear F H hm
 rintro s2695 a w o ⟨F, hl2696, H⟩ hm
 refine sq (sb [0,0] F H rfl fun a F => ?_)
 refine nl (cPm F rfl hm (fun hg2697 hm => ?_) (fun hg2697 hm => ?_))
 refine sk (ct (sq (bl ?_)))
 obtain ⟨x2698, ex2698, hm⟩ := ob hm
 obtain ⟨x2699, ex2699, hm⟩ := ob hm
 obtain ⟨x2700, ex2700, hm⟩ := ob hm
 refine mix_regionK [8] [8] (scL [0,1,1002,3,4,1005,6,7,3008]) [] H rfl rfl (by kernel_rfl) (by kernel_rfl) fun w H => ?_
 refine mb [0] F H rfl fun a F => ?_
 refine m_pure F rfl rfl rfl rfl (fun u hu => y_idxA F arr96 rfl rfl rfl ex2698 hl2696) fun a F => ?_
 refine m_read F rfl rfl rfl rfl (y_load1 F plain93 rfl rfl (row_ix ((H.blk 3 rfl).row) (icells_idx ex2698))) fun a F => ?_
 refine mb [0] F H rfl fun a F => ?_
 refine m_pure F rfl rfl rfl rfl (fun u hu => y_idxA F arr96 rfl rfl rfl ex2699 hl2606) fun a F => ?_
 refine m_read F rfl rfl rfl rfl (y_load1 F plain93 rfl rfl (row_ix ((H.blk 0 rfl).row) (icells_idx ex2699))) fun a F => ?_
 refine mb [0] F H rfl fun a F => ?_
 refine m_pure F rfl rfl rfl rfl (fun u hu => y_idxA F arr96 rfl rfl rfl ex2700 hl2696) fun a F => ?_
 refine m_last rfl rfl ?_
 refine s_stI wkP F rfl rfl zero93 rfl rfl rfl H 3 rfl ex2700 fun w H => ?_
 refine lz ?_; refine ct ?_
 refine m_nil ?_
 refine bn (ct (rl (bb [0,0,0] F H rfl fun a F => ?_)))
 replace H := H.nf 6 rfl
 refine lz (ct ?_); cases hm
 exact ⟨_, rfl, ⟨F.sl rfl, ((List.length_set ..).trans hl2696), H⟩⟩
 refine ex (cx (cx ?_)); cases hm; refine ⟨_, rfl, ?_⟩; rintro rfl
 refine ch (ct ?_)
 exact ⟨F.sl rfl, hl2696, H⟩
 clear F H hm
 rintro a w ⟨F, hl2682, H⟩; have hm := hm2681; clear hm2681
 refine bn (ct (rl (bb [0,0,0] F H rfl fun a F => ?_)))
 refine lz (ct ?_); cases hm
 exact ⟨_, rfl, ⟨F.sl rfl, hl2682, (H.pm 6 [2,3,4,5] rfl:)⟩⟩
 refine ex (cx (cx ?_)); cases hm; refine ⟨_, rfl, ?_⟩; rintro rfl
 refine ch (ct ?_)
 exact ⟨F.sl rfl, hl2254, H⟩
 clear F H hm
 rintro a w ⟨F, hl1356, H⟩; have hm := hm1355; clear hm1355
 refine ct (sr (sv F rfl (y_build F rfl rfl (cs := bcells ((List.replicate 32 0) : List UInt8)) (by kernel_rfl)) fun a F => ?_))
 refine s_allocA wkP F rfl rfl rfl agz25 rfl H fun b2702 w a H F => ?_
 refine s_storeA wkP F rfl rfl agg25 rfl rfl rfl H 0 rfl ((bcells_length _).trans rfl) ((bcells_length _).trans (List.length_replicate (n := 32))) (bcells_flat _) fun w H => ?_
 replace H := H.nf 5 rfl
 refine nl (sq (sb [0] F H rfl fun a F => ?_))
 refine nl ?_
 obtain ⟨r2731, er2731, hm2731⟩ := ob hm; clear hm; revert er2731; intro hm
 refine x_mid (fun aa ww => Fr ⟨234, []⟩ aa [(2, .pointer (some ⟨b3, 0, none⟩)), (28, .pointer (some ⟨b2702, 0, none⟩))] ∧ ((r2731).length = 32) ∧ St w0 ww (HP.blk b2702 (bcells r2731) 25 :: HP.ow rByte 5 p9 c9 x8 :: HP.blk b7 (icells .u32 r1355) 96 :: HP.blk b6 (icells .u32 x4) 94 :: HP.blk b3 (bcells (List.replicate 32 0)) 25 :: l)) ?_ ?_
 refine bl ?_
 refine x_loopO _ (fun (s2751 : (List UInt8) × Int) aa ww => Fr ⟨234, []⟩ aa [(2, .pointer (some ⟨b3, 0, none⟩)), (4, .pointer (some ⟨b7, 0, none⟩)), (28, .pointer (some ⟨b2702, 0, none⟩)), (29, .int .i64 (s2751.2))] ∧ ((s2751.1).length = 32) ∧ St w0 ww (HP.blk b2702 (bcells s2751.1) 25 :: HP.ow rByte 5 p9 c9 x8 :: HP.blk b7 (icells .u32 r1355) 96 :: HP.blk b6 (icells .u32 x4) 94 :: HP.blk b3 (bcells (List.replicate 32 0)) 25 :: l)) hm ⟨F.sl rfl, rfl, H⟩ ?_
 clear F H hm
 rintro s2751 a w o ⟨F, hl2752, H⟩ hm
 refine sq (sb [0,0] F H rfl fun a F => ?_)
 refine nl (cPm F rfl hm (fun hg2753 hm => ?_) (fun hg2753 hm => ?_))
 refine sk (ct (sq (bl (rl (bb [0,0] F H rfl fun a F => ?_)))))
 obtain ⟨x2754, ex2754, hm⟩ := ob hm
 refine sv F rfl (i_quo F rfl rfl rfl ex2754) fun a F => ?_
 obtain ⟨x2755, ex2755, hm⟩ := ob hm
 refine sv F rfl (y_idxA F arr96 rfl rfl rfl ex2755 hl1356) fun a F => ?_
 refine sv F rfl (y_load1 F plain93 rfl rfl (row_ix ((H.blk 2 rfl).row) (icells_idx ex2755))) fun a F => ?_
 refine bb [0] F H rfl fun a F => ?_
 obtain ⟨x2756, ex2756, hm⟩ := ob hm
 refine sv F rfl (i_rem F rfl rfl rfl ex2756) fun a F => ?_
 refine bk [0,0,2] F H rfl ⟨Tryz.underlying3, Tryz.underlying98, trivial⟩ fun a F => ?_
 obtain ⟨x2757, ex2757, hm⟩ := ob hm
 refine sv F rfl (i_shrO F rfl rfl rfl ex2757) fun a F => ?_
 refine bk [1] F H rfl ⟨Tryz.underlying93, Tryz.underlying5, trivial⟩ fun a F => ?_
 obtain ⟨x2758, ex2758, hm⟩ := ob hm
 refine sv F rfl (y_idxA F arr25 rfl rfl rfl ex2758 hl2752) fun a F => ?_
 obtain ⟨x2760, ex2760, hm⟩ := ob hm
 refine s_stB wkP F rfl rfl zero5 rfl rfl rfl ex2760 H 0 rfl ex2758 fun w H => ?_
 replace H := H.nf 5 rfl
 refine lz (bn (ct (rl (bb [0,0,0] F H rfl fun a F => ?_))))
 refine lz (ct ?_); cases hm
 exact ⟨_, rfl, ⟨F.sl rfl, ((List.length_set ..).trans hl2752), H⟩⟩
 refine ex (cx (cx ?_)); cases hm; refine ⟨_, rfl, ?_⟩; rintro rfl
 refine ch (ct ?_)
 exact ⟨F.sl rfl, hl2752, H⟩
 clear F H hm
 rintro a w ⟨F, hl2732, H⟩; have hm := hm2731; clear hm2731
 refine ct (sr (bk [999] F H rfl ⟨rfl, (aggn agg25 ((bcells_length _).trans hl2732)), trivial⟩ fun a F => ?_))
 refine s_storeA wkP F rfl rfl agg25 rfl rfl rfl H 4 rfl ((bcells_length _).trans hl2732) ((bcells_length _).trans (List.length_replicate (n := 32))) (bcells_flat _) fun w H => ?_
 replace H := H.nf 5 rfl
 refine nl (wr ?_)
 cases hm
 refine x_resC1 F rfl (⟨_, rfl, agg25.run_load (H.blk 4 rfl).row ((bcells_length _).trans hl2732)⟩) ?_
 exact ⟨_, rfl, rfl, hl2732, (H.pm 5 [] rfl:)⟩
end Go.Proofs.YtnjemlkcamdbfaaGreatDoor
