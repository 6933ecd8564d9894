/- snaps -/
import Derived.Test.YtnagibpmfabkjaaGreatDoorFilesC
set_option linter.unusedSimpArgs false
set_option linter.unusedVariables false
namespace Go.Proofs.YtnagibpmfabkjaaGreatDoor
open Go.RowKit Go.Tri
set_option maxRecDepth 100000
set_option maxHeartbeats 4000000
theorem w_cloneBy {s : List UInt8} {p1 : Option Addr} {c1 : Nat} {w0 w : World} {l : List HP}  {r : (List UInt8)} (hm : cloneBy s = some r) (H : St w0 w (HP.sl rByte p1 c1 s :: l)) :
  Calls Tryz.prog 102 [.slice p1 (s).length c1].toArray w (fun e w' => ∃ v, e = .returned v ∧ ∃ (p2 : Option Addr) (c2 : Nat), v = .slice p2 (r).length c2 ∧ St w0 w' (HP.ow rByte 5 p2 c2 r :: l)) := by
 unfold cloneBy at hm
 refine x_enter Tryz.func102 rfl rfl rfl ?_
 intro a F
 refine sb [0] F H rfl fun a F => ?_
 refine nl (sq (sb [0] F H rfl fun a F => ?_))
 obtain _ | ad := p1
 obtain ⟨hx0, hc0⟩ := H.slNone 0 rfl; subst hc0; try subst hx0
 replace H := H.dp 0 rfl
 refine sv F rfl (y_eqNil F rfl Tryz.underlying29 rfl rfl (by simp)) fun a F => ?_
 refine nl (cT F rfl ?_)
 refine sb [0] F H rfl fun a F => ?_
 refine nl (wr (tr ?_))
 replace H := H.owNil rByte 5
 cases hm
 refine x_ret1 F rfl rfl ?_
 exact ⟨_, rfl, none, 0, rfl, H⟩
 refine sv F rfl (y_eqSome F rfl Tryz.underlying29 rfl rfl (by simp)) fun a F => ?_
 refine nl (cF F rfl ?_)
 refine sk (ct (sr (s_build0O (R := rByte) wkP F rfl rfl rfl elem29 rfl H fun b3 w a H F => ?_)))
 refine bb [0] F H rfl fun a F => ?_
 obtain ⟨x5, ex5, hm⟩ := ob hm
 refine s_app wkP F rfl rfl rfl rfl rfl rfl elem29 rfl ex5 H 0 1 rfl rfl fun p4 c4 w a H F => ?_
 refine bb [0] F H rfl fun a F => ?_
 replace H := H.nf 2 rfl
 refine nl (wr ?_)
 cases hm
 refine x_ret1 F rfl rfl ?_
 exact ⟨_, rfl, p4, c4, rfl, (H.pm 2 [0] rfl:)⟩
theorem ent126 : En Tryz.prog 126 := enters Tryz.func126 (by kernel_rfl) rfl
theorem run_cmpT {P : Program} {w : World} {x y : List UInt8} : (Extern.BytealgCompare.compare #[.string (txb x), .string (txb y)]).run P w = .ok (.int .i64 (Lib.compareBytes x y)) w := by
 show Sem.run P (do pure (goInt (Extern.BytealgCompare.cmp (← Extern.Bytes.bytesOf (.string (txb x))) (← Extern.Bytes.bytesOf (.string (txb y)))))) w = _
 show Result.ok (Value.int .i64 (Extern.BytealgCompare.cmp (txb x) (txb y))) w = _
 rw [show txb x = ⟨x.toArray⟩ from rfl, show txb y = ⟨y.toArray⟩ from rfl, Lib.cmp_eq]
theorem w_cmps126 {w : World} {x y : List UInt8} : Calls Tryz.prog 126 [.string (txb x), .string (txb y)].toArray w (fun e w' => e = .returned (.int .i64 (Lib.compareBytes x y)) ∧ w' = w) := by
 refine x_enter Tryz.func126 rfl rfl rfl ?_
 intro a F
 replace F : Fr ⟨8, []⟩ a [(0, .string (txb x)), (1, .string (txb y))] := F
 refine wp_seq (r_lit ?_)
 refine sv F rfl (y_assign F rfl rfl) fun a F => ?_
 refine wpList_nil (c_then ?_)
 refine wp_seq (r_lit ?_)
 refine sv F rfl (y_move F rfl rfl) fun a F => ?_
 refine sv F rfl (y_move F rfl rfl) fun a F => ?_
 refine sv F rfl (y_ext F rfl rfl (v := .int .i64 (Lib.compareBytes x y)) (w := w) (by rw [run_callFunc_extern Tryz.func149 (by kernel_rfl) (by kernel_rfl) (by kernel_rfl) (e := Extern.BytealgCompare.compare) (by kernel_rfl), run_cmpT]; rfl)) fun a F => ?_
 refine sv F rfl (y_assign F rfl rfl) fun a F => ?_
 refine wpList_nil (c_then ?_)
 refine wp_ret ?_
 refine x_ret1 F rfl rfl ?_
 exact ⟨rfl, rfl⟩
theorem w_strCmp0 {a : List UInt8} {b : List UInt8}  {w0 w : World} {l : List HP}  {r : Int} (hm : strCmp0 a b = some r) (H : St w0 w (l)) :
  Calls Tryz.prog 126 [.string (txb (a)), .string (txb (b))].toArray w (fun e w' => ∃ v, e = .returned v ∧ v = .int .i64 (r) ∧ St w0 w' (l)) := by
 unfold strCmp0 at hm
 cases hm
 exact (w_cmps126).mono fun e w' h => ⟨_, h.1, rfl, by rw [h.2]; exact H⟩
theorem w_strCmp {a : List UInt8} {b : List UInt8}  {w0 w : World} {l : List HP}  {r : Int} (hm : strCmp a b = some r) (H : St w0 w (l)) :
  Calls Tryz.prog 83 [.string (txb (a)), .string (txb (b))].toArray w (fun e w' => ∃ v, e = .returned v ∧ v = .int .i64 (r) ∧ St w0 w' (l)) := by
 unfold strCmp at hm
 refine x_enter Tryz.func83 rfl rfl rfl ?_
 intro a F
 refine sb [0] F H rfl fun a F => ?_
 refine nb [0,0] F H rfl fun a F => ?_
 obtain ⟨x1, ex1, hm⟩ := ob hm
 refine sd F rfl ent126 (w_strCmp0 ex1 H:) ?_; rintro _ w a ⟨rfl, H⟩ F
 refine bb [0] F H rfl fun a F => ?_
 refine nl (wr ?_)
 cases hm
 refine x_ret1 F rfl rfl ?_
 exact ⟨_, rfl, rfl, H⟩
theorem fld41_0 : FieldT Tryz.prog 41 0 0 := by unfold FieldT; rw [Tryz.underlying41]; kernel_rfl
theorem ent83 : En Tryz.prog 83 := enters Tryz.func83 (by kernel_rfl) rfl
theorem w_nCompare {a_ : T_api_Snap} {b_ : T_api_Snap} {cs1 : List Value} {cs2 : List Value} {w0 w : World} {l : List HP}  {r : Int} (hm : nCompare a_ b_ = some r) (H : St w0 w (HP.rc R_api_Snap cs1 a_ :: HP.rc R_api_Snap cs2 b_ :: l)) :
  Calls Tryz.prog 53 [.agg cs1.toArray, .agg cs2.toArray].toArray w (fun e w' => ∃ v, e = .returned v ∧ v = .int .i64 (r) ∧ St w0 w' (l)) := by
 unfold nCompare at hm
 refine x_enter Tryz.func53 rfl rfl rfl ?_
 intro a F
 refine sr (s_boxA wkP F rfl rfl rfl rfl rfl H fun b3 w a H F => ?_)
 refine s_boxA wkP F rfl rfl rfl rfl rfl H fun b4 w a H F => ?_
 refine bb [0] F H rfl fun a F => ?_
 replace H := H.nf 4 rfl
 refine nl (sr (bk [0] F H rfl ⟨fld41_0, trivial⟩ fun a F => ?_))
 have G := F; replace H := rc_api_Snap (H.pk 2 rfl); obtain ⟨p5, c6, rfl, H⟩ := H; have F := G; clear G
 refine bk [2000,0] F H rfl ⟨rfl, plain9, fld41_0, trivial⟩ fun a F => ?_
 have G := F; replace H := rc_api_Snap (H.pk 3 rfl); obtain ⟨p7, c8, rfl, H⟩ := H; have F := G; clear G
 refine bk [2000] F H rfl ⟨rfl, plain9, trivial⟩ fun a F => ?_
 obtain ⟨x9, ex9, hm⟩ := ob hm
 refine sd F rfl ent83 (w_strCmp ex9 H:) ?_; rintro _ w a ⟨rfl, H⟩ F
 refine bb [0] F H rfl fun a F => ?_
 replace H := H.nf 4 rfl
 refine nl (wr ?_)
 cases hm
 refine x_ret1 F rfl rfl ?_
 exact ⟨_, rfl, rfl, (H.pm 4 [] rfl:)⟩
theorem ent102 : En Tryz.prog 102 := enters Tryz.func102 (by kernel_rfl) rfl
theorem w_nPairs {list : List T_api_Pair} {p1 : Option Addr} {c1 : Nat} {w0 w : World} {l : List HP}  {r : (List T_api_Pair)} (hm : nPairs list = some r) (H : St w0 w (HP.sl R_api_Pair p1 c1 list :: l)) :
  Calls Tryz.prog 69 [.slice p1 (list).length c1].toArray w (fun e w' => ∃ v, e = .returned v ∧ ∃ (p2 : Option Addr) (c2 : Nat), v = .slice p2 (r).length c2 ∧ St w0 w' (HP.ow R_api_Pair 103 p2 c2 r :: l)) := by
 unfold nPairs at hm
 refine x_enter Tryz.func69 rfl rfl rfl ?_
 intro a F
 refine sb [0] F H rfl fun a F => ?_
 refine nl (sq (sr (bk [0,0,0] F H rfl ⟨⟨_, Tryz.underlying24⟩, trivial⟩ fun a F => ?_)))
 refine nl (xm2 1 [] [] F H hm rfl rfl (fun r55 (p56 : Option Addr) (c56 : Nat) z => (2, .slice p56 (r55).length c56) :: z) (fun r55 p56 c56 z => HP.ow R_api_Pair 103 p56 c56 r55 :: z) (fun r55 hm => ?_) (fun r55 a w hm p56 c56 F H => ?_))
 refine bl ?_
 replace H := H.owNil R_api_Pair 103
 refine xl2 2 [5,6] [1] F H hm rfl rfl (fun (s91 : (List T_api_Pair) × Int) (p92 : Option Addr) (c92 : Nat) z => (2, .slice p92 (s91.1).length c92) :: (7, .int .i64 (s91.2)) :: z) (fun s91 p92 c92 z => HP.ow R_api_Pair 103 p92 c92 s91.1 :: z) ⟨none, 0, F.sl rfl, H⟩ (fun s91 a w o p92 c92 F H hm => ?_)
 refine sb [0] F H rfl fun a F => ?_
 refine nl (sq (cPm F rfl hm (fun hg93 hm => ?_) (fun hg93 hm => ?_)))
 refine sk (ct (sq (bl (sr ?_))))
 obtain ⟨x94, ex94, hm⟩ := ob hm
 obtain ⟨b95, o95, hp95⟩ := H.slP 1 rfl (idxO_some ex94).2
 obtain ⟨cs96, hcl96, H⟩ := H.slEl 1 rfl hp95 (idxO_some ex94).2
 clear hcl96
 refine sv F rfl (y_idxS F elem24 rfl rfl rfl hp95 ex94) fun a F => ?_
 refine bk [999] F H rfl ⟨rfl, (aggn agg103 (H.rcLen 1 rfl)), trivial⟩ fun a F => ?_
 replace H := H.owNil rByte 5
 replace H := H.owNil rByte 5
 refine s_allocA wkP F rfl rfl rfl agz103 rfl H fun b97 w a H F => ?_
 refine s_storeA wkP F rfl rfl agg103 rfl rfl rfl H 0 rfl (H.rcLen 4 rfl) rfl (H.rcFlat 4 rfl) fun w H => ?_
 replace H := H.nf 7 rfl
 refine nl ?_
 have G := F; replace H := rc_api_Pair (H.pk 4 rfl); obtain ⟨p98, c99, p100, c101, rfl, H⟩ := H; have F := G; clear G
 refine mix_region [3,6,8,9] [] (.step 0 0 (.step 0 1 (.step 1 2 (.step 0 4 (.step 0 5 (.step 2 3 (.step 2 6 (.step 0 7 (.step 2 8 (.step 2 9 (.step 0 10 .done))))))))))) (fun u => ∃ ls, St w0 u (HP.blk b97 ([.slice p98 (x94.1).length c99, .slice p100 (x94.2).length c101]) 103 :: ls)) (by kernel_rfl) (by kernel_rfl) ⟨_, (H.drew.pm 8 [2,0,1,3,4,5,6,7] rfl:)⟩ ?_
 replace H := H.drew
 generalize w.drew = w at H ⊢
 refine mbk [0,0,2000,1] F H rfl ⟨fld103_0, rfl, plain29, fld103_1, trivial⟩ fun a F => ?_
 refine m_pure F rfl rfl rfl rfl (fun u hu => y_load1 F plain29 rfl rfl (row_at (v := .slice p100 (x94.2).length c101) ((hu.choose_spec.blk 0 rfl).row) rfl)) fun a F => ?_
 refine m_heavy rfl rfl ?_
 obtain ⟨x102, ex102, hm⟩ := ob hm
 refine sd F rfl ent102 (w_cloneBy ex102 (H.pm 8 [0,0,1,2,3,4,5,6,7] rfl:):) ?_; rintro _ w a ⟨p103, c103, rfl, H⟩ F
 refine lz ?_; refine ct ⟨⟨_, (H.pm 9 [3,0,1,2,4,5,6,7,8] rfl:)⟩, ?_⟩
 refine m_heavy rfl rfl ?_
 obtain ⟨x104, ex104, hm⟩ := ob hm
 refine sd F rfl ent102 (w_cloneBy ex104 (H.pm 9 [2,0,1,2,3,4,5,6,7,8] rfl:):) ?_; rintro _ w a ⟨p105, c105, rfl, H⟩ F
 refine lz ?_; refine ct ⟨⟨_, (H.pm 10 [4,0,1,2,3,5,6,7,8,9] rfl:)⟩, ?_⟩
 refine m_pure F rfl rfl rfl rfl (fun u hu => y_build F rfl rfl (cs := [.slice p103 (x102).length c103, .slice p105 (x104).length c105]) (by kernel_rfl)) fun a F => ?_
 refine m_heavy rfl rfl ?_
 replace H := H.frz 1 rfl
 replace H := H.frz 1 rfl
 refine s_build1 wkP F rfl rfl rfl agg103 elem24 rfl rfl rfl (by decide) H fun b106 w a H F => ?_
 replace H := H.blkOw1 (R := R_api_Pair) (x := (x102, x104)) (fun gg => ⟨_, _, rfl, ⟨_, _, rfl, (gg 2 _ rfl).choose_spec⟩, ⟨_, _, rfl, (gg 1 _ rfl).choose_spec⟩⟩)
 refine lz ?_; refine ct ⟨⟨_, (H.pm 11 [5,0,1,2,3,4,6,7,8,9,10] rfl:)⟩, ?_⟩
 refine m_heavy rfl rfl ?_
 replace H := H.frz 0 rfl
 obtain ⟨x108, ex108, hm⟩ := ob hm
 refine s_app wkP F rfl rfl rfl rfl rfl rfl elem24 rfl ex108 H 9 0 rfl rfl fun p107 c107 w a H F => ?_
 refine lz ?_; refine ct ⟨⟨_, (H.pm 11 [5,0,1,2,3,4,6,7,8,9,10] rfl:)⟩, ?_⟩
 refine mb [0] F H rfl fun a F => ?_
 refine m_nil ?_
 refine bn (ct (rl (bb [0,0] F H rfl fun a F => ?_)))
 replace H := H.nf 11 rfl
 refine lz (ct ?_); cases hm
 exact ⟨_, rfl, ⟨p107, c107, F.sl rfl, (H.pm 11 [9,10] rfl:)⟩⟩
 refine ex (cx (cx ?_)); cases hm; refine ⟨_, rfl, ?_⟩; rintro rfl
 refine ch (ct ?_)
 exact ⟨p92, c92, F.sl rfl, (H.pm 2 [0] rfl:)⟩
 refine ct (sb [0,0] F H rfl fun a F => ?_)
 refine nl (wr ?_)
 cases hm
 refine x_ret1 F rfl rfl ?_
 exact ⟨_, rfl, p56, c56, rfl, H⟩
theorem agz27 : AggT Tryz.prog 27 2 ([.slice none (([] : List T_api_Pair)).length 0, .slice none (([] : List T_api_Snap)).length 0]) := ⟨by rw [Tryz.underlying27]; rfl, by kernel_rfl, by kernel_rfl⟩
theorem fld27_0 : FieldT Tryz.prog 27 0 0 := by unfold FieldT; rw [Tryz.underlying27]; kernel_rfl
theorem ent69 : En Tryz.prog 69 := enters Tryz.func69 (by kernel_rfl) rfl
theorem agg27 : AggT Tryz.prog 27 2 [.slice none 0 0, .slice none 0 0] := ⟨by rw [Tryz.underlying27]; rfl, by kernel_rfl, by kernel_rfl⟩
theorem fld27_1 : FieldT Tryz.prog 27 1 1 := by unfold FieldT; rw [Tryz.underlying27]; kernel_rfl
theorem plain25 : Plain Tryz.prog 25 := by unfold Plain; rw [Tryz.underlying25]; rfl
theorem elem25 : ElemT Tryz.prog 25 41 3 48 (.agg [.string ByteArray.empty, .int .u64 0, .slice none 0 0].toArray) := ⟨Tryz.underlying25, by kernel_rfl, by kernel_rfl, by decide⟩
theorem agg41 : AggT Tryz.prog 41 3 [.string ByteArray.empty, .int .u64 0, .slice none 0 0] := ⟨by rw [Tryz.underlying41]; rfl, by kernel_rfl, by kernel_rfl⟩
theorem agz41 : AggT Tryz.prog 41 3 ([.string (txb ([])), .int .u64 (0), .slice none (([] : List T_api_Pair)).length 0]) := ⟨by rw [Tryz.underlying41]; rfl, by kernel_rfl, by kernel_rfl⟩
theorem fld41_2 : FieldT Tryz.prog 41 2 2 := by unfold FieldT; rw [Tryz.underlying41]; kernel_rfl
theorem zero25 : Zero1 Tryz.prog 25 (.slice none 0 0) := ⟨by kernel_rfl, rfl⟩
theorem w_nCopied {s : T_api_State} {cs1 : List Value} {w0 w : World} {l : List HP}  {r : T_api_State} (hm : nCopied s = some r) (H : St w0 w (HP.rc R_api_State cs1 s :: l)) :
  Calls Tryz.prog 43 [.agg cs1.toArray].toArray w (fun e w' => ∃ v, e = .returned v ∧ ∃ (p2 : Option Addr) (c2 : Nat) (p3 : Option Addr) (c3 : Nat), v = .agg ([.slice p2 (r.1).length c2, .slice p3 (r.2).length c3]).toArray ∧ St w0 w' (HP.sl R_api_Pair p2 c2 r.1 :: HP.ow R_api_Snap 41 p3 c3 r.2 :: l)) := by
 unfold nCopied at hm
 refine x_enter Tryz.func43 rfl rfl rfl ?_
 intro a F
 refine sr (s_boxA wkP F rfl rfl rfl rfl rfl H fun b4 w a H F => ?_)
 replace H := H.owNil R_api_Pair 103
 replace H := H.owNil R_api_Snap 41
 refine s_allocA wkP F rfl rfl rfl agz27 rfl H fun b5 w a H F => ?_
 replace H := H.nf 5 rfl
 refine nl (sr (bk [0] F H rfl ⟨fld27_0, trivial⟩ fun a F => ?_))
 have G := F; replace H := rc_api_State (H.pk 4 rfl); obtain ⟨p6, c7, p8, c9, rfl, H⟩ := H; have F := G; clear G
 refine bk [5000] F H rfl ⟨rfl, plain24, trivial⟩ fun a F => ?_
 obtain ⟨x10, ex10, hm⟩ := ob hm
 refine sd F rfl ent69 (w_nPairs ex10 (H.pm 6 [0,0,1,2,3,4,5] rfl:):) ?_; rintro _ w a ⟨p11, c11, rfl, H⟩ F
 replace H := H.owNil R_api_Snap 41
 refine sv F rfl (y_build F rfl rfl (cs := [.slice p11 (x10).length c11, .slice none (([] : List T_api_Snap)).length 0]) (by kernel_rfl)) fun a F => ?_
 replace H := H.owNil R_api_Pair 103
 replace H := H.owNil R_api_Snap 41
 refine s_allocA wkP F rfl rfl rfl agz27 rfl H fun b12 w a H F => ?_
 refine s_storeA wkP F rfl rfl agg27 rfl rfl rfl H 0 rfl rfl rfl (fl rfl) fun w H => ?_
 replace H := H.nf 11 rfl
 refine nl (sq (sr (bk [1,10001,0,0] F H rfl ⟨fld27_1, rfl, plain25, ⟨_, Tryz.underlying25⟩, trivial⟩ fun a F => ?_)))
 refine nl ?_
 replace H := H.frz 4 rfl
 replace H := O_api_State_s (x1 := ([] : List T_api_Snap)) (H.pm 11 [1,0,4,0,2,3,5,6,7,8,9,10] rfl:)
 replace H := H.frz 8 rfl
 replace H := O_api_State_s (x0 := ([] : List T_api_Pair)) (x1 := ([] : List T_api_Snap)) (H.pm 10 [7,0,8,0,1,2,3,4,5,6,9] rfl:)
 refine xm0 9 [2,3] [0,4,5,6,7,8] F H hm rfl rfl (fun r62 z => z) (fun r62 z => O_api_State b12 r62 :: z) (fun r62 hm => ?_) (fun r62 a w hm F H => ?_)
 refine bl (xl0 9 [2,3,11,12] [0,4,5,6,7,8] F H hm rfl rfl (fun (s95 : T_api_State_o × Int) z => (13, .int .i64 (s95.2)) :: z) (fun s95 z => O_api_State b12 s95.1 :: z) ⟨F.sl rfl, (H.pm 9 [2,0,4,5,6,7,8] rfl:)⟩ (fun s95 a w o F H hm => ?_))
 refine sb [0] F H rfl fun a F => ?_
 replace H := H.nf 7 rfl
 refine nl (sq (cPm F rfl hm (fun hg96 hm => ?_) (fun hg96 hm => ?_)))
 refine sk (ct (sq (bl (sr ?_))))
 obtain ⟨x97, ex97, hm⟩ := ob hm
 obtain ⟨b98, o98, hp98⟩ := H.slP 5 rfl (idxO_some ex97).2
 obtain ⟨cs99, hcl99, H⟩ := H.slEl 5 rfl hp98 (idxO_some ex97).2
 clear hcl99
 refine sv F rfl (y_idxS F elem25 rfl rfl rfl hp98 ex97) fun a F => ?_
 refine bk [999] F H rfl ⟨rfl, (aggn agg41 (H.rcLen 1 rfl)), trivial⟩ fun a F => ?_
 replace H := H.owNil R_api_Pair 103
 refine s_allocA wkP F rfl rfl rfl agz41 rfl H fun b100 w a H F => ?_
 refine s_storeA wkP F rfl rfl agg41 rfl rfl rfl H 0 rfl (H.rcLen 3 rfl) rfl (H.rcFlat 3 rfl) fun w H => ?_
 replace H := H.nf 11 rfl
 refine nl (sr (bk [2] F H rfl ⟨fld41_2, trivial⟩ fun a F => ?_))
 have G := F; replace H := rc_api_Snap (H.pk 3 rfl); obtain ⟨p101, c102, rfl, H⟩ := H; have F := G; clear G
 refine bk [1002] F H rfl ⟨rfl, plain24, trivial⟩ fun a F => ?_
 obtain ⟨x103, ex103, hm⟩ := ob hm
 refine sd F rfl ent69 (w_nPairs ex103 (H.pm 11 [0,0,1,2,3,4,5,6,7,8,9,10] rfl:):) ?_; rintro _ w a ⟨p104, c104, rfl, H⟩ F
 refine bk [2] F H rfl ⟨fld41_2, trivial⟩ fun a F => ?_
 refine s_st1 wkP F rfl rfl zero24 rfl rfl rfl rfl rfl H 2 rfl rfl fun w H => ?_
 replace H := H.nf 12 rfl
 refine nl (rl (bk [1] F H rfl ⟨fld27_1, trivial⟩ fun a F => ?_))
 obtain ⟨p105, c106, p107, c108, H⟩ := O_api_State_o (H.pk 5 rfl)
 refine bk [1,5999] F H rfl ⟨rfl, plain25, rfl, (aggn agg41 rfl), trivial⟩ fun a F => ?_
 replace H := H.frz 3 rfl
 refine s_build1 wkP F rfl rfl rfl agg41 elem25 rfl rfl rfl (by decide) H fun b109 w a H F => ?_
 replace H := H.blkOw1 (R := R_api_Snap) (x := (x97.1, x97.2.1, x103)) (fun gg => ⟨_, _, rfl, rfl, ⟨_, _, rfl, rfl, ⟨_, _, rfl, (gg 1 _ rfl).choose_spec⟩⟩⟩)
 replace H := H.frz 0 rfl
 obtain ⟨x111, ex111, hm⟩ := ob hm
 refine s_app wkP F rfl rfl rfl rfl rfl rfl elem25 rfl ex111 H 4 0 rfl rfl fun p110 c110 w a H F => ?_
 refine bk [1] F H rfl ⟨fld27_1, trivial⟩ fun a F => ?_
 refine s_st1 wkP F rfl rfl zero25 rfl rfl rfl rfl rfl H 2 rfl rfl fun w H => ?_
 replace H := H.nf 15 rfl
 refine lz (bn (ct (rl (bb [0,0] F H rfl fun a F => ?_))))
 refine lz ?_
 replace H := O_api_State_s (H.pm 15 [2,3,4,0,1,3,5,6,7,8,9,10,11,12,13,14] rfl:)
 refine ct ?_; cases hm
 exact ⟨_, rfl, ⟨F.sl rfl, (H.pm 14 [0,8,9,10,11,12,13] rfl:)⟩⟩
 refine ex (cx (cx ?_)); cases hm; refine ⟨_, rfl, ?_⟩; rintro rfl
 refine ch (ct ?_)
 exact ⟨F.sl rfl, H⟩
 refine ct (sr ?_)
 obtain ⟨p112, c113, p114, c115, H⟩ := O_api_State_o (H.pk 0 rfl)
 refine bk [999] F H rfl ⟨rfl, (aggn agg27 rfl), trivial⟩ fun a F => ?_
 obtain ⟨p116, c117, p118, c119, H⟩ := O_api_State_o (H.pk 3 rfl)
 refine s_storeA wkP F rfl rfl agg27 rfl rfl rfl H 0 rfl rfl rfl (fl rfl) fun w H => ?_
 replace H := H.nf 11 rfl
 refine nl (wr ?_)
 cases hm
 refine x_resC1 F rfl (⟨_, rfl, agg27.run_load (H.blk 0 rfl).row rfl⟩) ?_
 exact ⟨_, rfl, p112, c113, p114, c115, rfl, (H.pm 11 [4,5] rfl:)⟩
theorem ent42 : En Tryz.prog 42 := enters Tryz.func42 (by kernel_rfl) rfl
theorem w_nNew   {w0 w : World} {l : List HP}  {r : T_api_State} (hm : nNew  = some r) (H : St w0 w (l)) :
  Calls Tryz.prog 14 [].toArray w (fun e w' => ∃ v, e = .returned v ∧ ∃ (cs1 : List Value), v = .agg cs1.toArray ∧ St w0 w' (HP.rc R_api_State cs1 r :: l)) := by
 unfold nNew at hm
 refine x_enter Tryz.func14 rfl rfl rfl ?_
 intro a F
 refine sr ?_
 replace H := H.owNil R_api_Pair 103
 replace H := H.owNil R_api_Snap 41
 refine s_allocA wkP F rfl rfl rfl agz27 rfl H fun b2 w a H F => ?_
 replace H := H.nf 3 rfl
 refine nl (sr ?_)
 obtain ⟨x3, ex3, hm⟩ := ob hm
 refine sd F rfl ent42 (w_fNew ex3 H:) ?_; rintro _ w a ⟨p4, c4, rfl, H⟩ F
 replace H := H.owNil R_api_Snap 41
 refine sv F rfl (y_build F rfl rfl (cs := [.slice p4 (x3).length c4, .slice none (([] : List T_api_Snap)).length 0]) (by kernel_rfl)) fun a F => ?_
 refine s_storeA wkP F rfl rfl agg27 rfl rfl rfl H 2 rfl rfl rfl (fl rfl) fun w H => ?_
 replace H := H.nf 5 rfl
 refine nl (wr ?_)
 replace H := H.frz 0 rfl
 replace H := H.mkRc (R := R_api_State) (cs := [.slice p4 (x3).length c4, .slice none (([] : List T_api_Snap)).length 0]) (x := (x3, ([] : List T_api_Snap))) (fun gg => ⟨_, _, rfl, ⟨_, _, rfl, (gg 1 _ rfl).choose_spec⟩, ⟨_, _, rfl, (gg 0 _ rfl).choose_spec⟩⟩)
 cases hm
 refine x_resC1 F rfl (⟨_, rfl, agg27.run_load (H.blk 3 rfl).row rfl⟩) ?_
 exact ⟨_, rfl, [.slice p4 (x3).length c4, .slice none (([] : List T_api_Snap)).length 0], rfl, (H.pm 6 [0] rfl:)⟩
theorem w_nUnits {s : T_api_State} {cs1 : List Value} {w0 w : World} {l : List HP}  {r : Int} (hm : nUnits s = some r) (H : St w0 w (HP.rc R_api_State cs1 s :: l)) :
  Calls Tryz.prog 24 [.agg cs1.toArray].toArray w (fun e w' => ∃ v, e = .returned v ∧ v = .int .i64 (r) ∧ St w0 w' (l)) := by
 unfold nUnits at hm
 refine x_enter Tryz.func24 rfl rfl rfl ?_
 intro a F
 refine sr (s_boxA wkP F rfl rfl rfl rfl rfl H fun b2 w a H F => ?_)
 refine bb [0] F H rfl fun a F => ?_
 replace H := H.nf 2 rfl
 refine nl (sr (bk [0] F H rfl ⟨fld27_0, trivial⟩ fun a F => ?_))
 have G := F; replace H := rc_api_State (H.pk 1 rfl); obtain ⟨p3, c4, p5, c6, rfl, H⟩ := H; have F := G; clear G
 refine bk [2000,0,0] F H rfl ⟨rfl, plain24, ⟨_, Tryz.underlying24⟩, trivial⟩ fun a F => ?_
 refine nl (sq (sr (bk [1,2001,0,0] F H rfl ⟨fld27_1, rfl, plain25, ⟨_, Tryz.underlying25⟩, trivial⟩ fun a F => ?_)))
 refine nl (xm0 3 [] [0,1,2] F H hm rfl rfl (fun r29 z => (3, .int .i64 (r29)) :: z) (fun r29 z => z) (fun r29 hm => ?_) (fun r29 a w hm F H => ?_))
 refine bl (xl0 3 [10,11] [0,1,2] F H hm rfl rfl (fun (s44 : Int × Int) z => (3, .int .i64 (s44.1)) :: (12, .int .i64 (s44.2)) :: z) (fun s44 z => z) ⟨F.sl rfl, H⟩ (fun s44 a w o F H hm => ?_))
 refine sb [0] F H rfl fun a F => ?_
 refine nl (sq (cPm F rfl hm (fun hg45 hm => ?_) (fun hg45 hm => ?_)))
 refine sk (ct (sq (bl (sr ?_))))
 obtain ⟨x46, ex46, hm⟩ := ob hm
 obtain ⟨b47, o47, hp47⟩ := H.slP 1 rfl (idxO_some ex46).2
 obtain ⟨cs48, hcl48, H⟩ := H.slEl 1 rfl hp47 (idxO_some ex46).2
 clear hcl48
 refine sv F rfl (y_idxS F elem25 rfl rfl rfl hp47 ex46) fun a F => ?_
 refine bk [999] F H rfl ⟨rfl, (aggn agg41 (H.rcLen 1 rfl)), trivial⟩ fun a F => ?_
 replace H := H.owNil R_api_Pair 103
 refine s_allocA wkP F rfl rfl rfl agz41 rfl H fun b49 w a H F => ?_
 refine s_storeA wkP F rfl rfl agg41 rfl rfl rfl H 0 rfl (H.rcLen 3 rfl) rfl (H.rcFlat 3 rfl) fun w H => ?_
 replace H := H.nf 7 rfl
 refine nl (rl (bk [0,2] F H rfl ⟨fld41_2, trivial⟩ fun a F => ?_))
 have G := F; replace H := rc_api_Snap (H.pk 3 rfl); obtain ⟨p50, c51, rfl, H⟩ := H; have F := G; clear G
 refine bk [1002,0,0,0,0] F H rfl ⟨rfl, plain24, ⟨_, Tryz.underlying24⟩, trivial⟩ fun a F => ?_
 refine lz (bn (ct (rl (bb [0,0] F H rfl fun a F => ?_))))
 refine lz (ct ?_); cases hm
 exact ⟨_, rfl, ⟨F.sl rfl, (H.pm 7 [4,5,6] rfl:)⟩⟩
 refine ex (cx (cx ?_)); cases hm; refine ⟨_, rfl, ?_⟩; rintro rfl
 refine ch (ct ?_)
 exact ⟨F.sl rfl, H⟩
 refine ct (sb [0,0] F H rfl fun a F => ?_)
 refine nl (wr ?_)
 cases hm
 refine x_ret1 F rfl rfl ?_
 exact ⟨_, rfl, rfl, (H.pm 3 [] rfl:)⟩
theorem ent51 : En Tryz.prog 51 := enters Tryz.func51 (by kernel_rfl) rfl
theorem ent24 : En Tryz.prog 24 := enters Tryz.func24 (by kernel_rfl) rfl
theorem ent53 : En Tryz.prog 53 := enters Tryz.func53 (by kernel_rfl) rfl
theorem w_nCheck {s : T_api_State} {cs1 : List Value} {w0 w : World} {l : List HP}  {r : Int} (hm : nCheck s = some r) (H : St w0 w (HP.rc R_api_State cs1 s :: l)) :
  Calls Tryz.prog 23 [.agg cs1.toArray].toArray w (fun e w' => ∃ v, e = .returned v ∧ v = .int .i64 (r) ∧ St w0 w' (l)) := by
 unfold nCheck at hm
 refine x_enter Tryz.func23 rfl rfl rfl ?_
 intro a F
 refine sr (s_boxA wkP F rfl rfl rfl rfl rfl H fun b2 w a H F => ?_)
 refine bb [0] F H rfl fun a F => ?_
 replace H := H.nf 2 rfl
 refine nl (sr (bk [0] F H rfl ⟨fld27_0, trivial⟩ fun a F => ?_))
 have G := F; replace H := rc_api_State (H.pk 1 rfl); obtain ⟨p3, c4, p5, c6, rfl, H⟩ := H; have F := G; clear G
 refine bk [2000] F H rfl ⟨rfl, plain24, trivial⟩ fun a F => ?_
 obtain ⟨x7, ex7, hm⟩ := ob hm
 refine sd F rfl ent51 (w_fCheck ex7 (H.pm 3 [0,0,1,2] rfl:):) ?_; rintro _ w a ⟨rfl, H⟩ F
 refine bb [0,0] F H rfl fun a F => ?_
 rcases spN 10 F rfl hm with ⟨hg8, hm, F⟩ | ⟨hg8, hm, F⟩
 refine bk [2999] F H rfl ⟨rfl, (aggn agg27 rfl), trivial⟩ fun a F => ?_
 refine g_onP F rfl rfl rfl rfl ?_
 replace H := H.mkRc (R := R_api_State) (cs := [.slice p3 (s.1).length c4, .slice p5 (s.2).length c6]) (x := (s.1, s.2)) (fun gg => ⟨_, _, rfl, ⟨_, _, rfl, (gg 0 _ rfl).choose_spec⟩, ⟨_, _, rfl, (gg 1 _ rfl).choose_spec⟩⟩)
 obtain ⟨x9, ex9, hm⟩ := ob hm
 refine sd F rfl ent24 (w_nUnits ex9 (H.pm 4 [0,0,1,2,3] rfl:):) ?_; rintro _ w a ⟨rfl, H⟩ F
 refine bb [0,0,0] F H rfl fun a F => ?_
 replace H := H.nf 4 rfl
 refine nl (sq (sr (bk [1,3001,0,0] F H rfl ⟨fld27_1, rfl, plain25, ⟨_, Tryz.underlying25⟩, trivial⟩ fun a F => ?_)))
 refine nl (xm0 4 [] [1,2,3] F H hm rfl rfl (fun r59 z => (3, .bool (r59)) :: z) (fun r59 z => z) (fun r59 hm => ?_) (fun r59 a w hm F H => ?_))
 refine bl (xl0 4 [1,16,17] [1,2,3] F H hm rfl rfl (fun (s92 : Bool × Int) z => (3, .bool (s92.1)) :: (18, .int .i64 (s92.2)) :: z) (fun s92 z => z) ⟨F.sl rfl, (H.pm 4 [1,2,3] rfl:)⟩ (fun s92 a w o F H hm => ?_))
 refine sb [0] F H rfl fun a F => ?_
 refine nl (sq (cPm F rfl hm (fun hg93 hm => ?_) (fun hg93 hm => ?_)))
 refine sk (ct (sq (bl (sb [0] F H rfl fun a F => ?_))))
 obtain ⟨x94, ex94, hm⟩ := ob hm
 obtain ⟨b95, o95, hp95⟩ := H.slP 1 rfl (idxO_some ex94).2
 obtain ⟨cs96, hcl96, H⟩ := H.slEl 1 rfl hp95 (idxO_some ex94).2
 clear hcl96
 refine sv F rfl (y_idxS F elem25 rfl rfl rfl hp95 ex94) fun a F => ?_
 refine bk [999] F H rfl ⟨rfl, (aggn agg41 (H.rcLen 1 rfl)), trivial⟩ fun a F => ?_
 replace H := H.owNil R_api_Pair 103
 refine s_allocA wkP F rfl rfl rfl agz41 rfl H fun b97 w a H F => ?_
 refine bb [0] F H rfl fun a F => ?_
 refine s_storeA wkP F rfl rfl agg41 rfl rfl rfl H 0 rfl (H.rcLen 3 rfl) rfl (H.rcFlat 3 rfl) fun w H => ?_
 replace H := H.nf 7 rfl
 refine nl ?_
 by_cases hg98 : s92.1 = true
 replace hm := ifT hg98 hm
 refine qr H (by kernel_rfl) (by kernel_rfl) ?_
 refine qb [0,0] F rfl fun a F => ?_
 replace F := F.vT 24 hg98 rfl
 refine qb (List.replicate 27 0) F rfl fun a F => ?_
 refine q_nil fun w H => ?_
 refine bn (ct (rl (bb [0,0] F H rfl fun a F => ?_)))
 refine lz (ct ?_); cases hm
 exact ⟨_, rfl, ⟨F.sl rfl, (H.pm 7 [4,5,6] rfl:)⟩⟩
 replace hm := ifF hg98 hm
 have G := F; replace H := rc_api_Snap (H.pk 3 rfl); obtain ⟨p99, c100, rfl, H⟩ := H; have F := G; clear G
 obtain ⟨x101, ex101, hm⟩ := ob hm
 by_cases hg102 : x101 = 0
 replace hm := ifT hg102 hm
 obtain ⟨x103, ex103, hm⟩ := ob hm
 by_cases hg104 : (!x103) = true
 replace hm := ifT hg104 hm
 refine qr H (by kernel_rfl) (by kernel_rfl) ?_
 refine qb [0,0] F rfl fun a F => ?_
 replace F := F.vF 24 hg98 rfl
 refine qbk [2,1002] F rfl ⟨fld41_2, rfl, plain24, trivial⟩ fun a F => ?_
 refine qg_on F rfl rfl rfl rfl ?_
 refine q_call F rfl rfl rfl (fun u hu => y_call F rfl rfl ent51) (fun u hu => (w_fCheck ex101 (hu.pm 7 [0,0,1,2,3,4,5,6] rfl:)).mono fun e u2 he => by obtain ⟨v, rfl, rfl, H⟩ := he; exact ⟨rfl, H⟩) fun a F => ?_
 refine qb [0,0,0] F rfl fun a F => ?_
 replace F := F.nT 30 hg102 rfl
 refine qbk [0,1000] F rfl ⟨fld41_0, rfl, plain9, trivial⟩ fun a F => ?_
 refine qg_on F rfl rfl rfl rfl ?_
 refine q_call F rfl rfl rfl (fun u hu => y_call F rfl rfl ent52) (fun u hu => (w_m_path_Name ex103 hu).mono fun e u2 he => by obtain ⟨v, rfl, rfl, H⟩ := he; exact ⟨rfl, H⟩) fun a F => ?_
 refine qb [0,0,0] F rfl fun a F => ?_
 replace F := F.vT 36 hg104 rfl
 refine qb (List.replicate 15 0) F rfl fun a F => ?_
 refine q_nil fun w H => ?_
 refine bn (ct (rl (bb [0,0] F H rfl fun a F => ?_)))
 refine lz (ct ?_); cases hm
 exact ⟨_, rfl, ⟨F.sl rfl, (H.pm 7 [4,5,6] rfl:)⟩⟩
 replace hm := ifF hg104 hm
 by_cases hg105 : 0 < s92.2
 replace hm := ifT hg105 hm
 obtain ⟨x106, ex106, hm⟩ := ob hm
 obtain ⟨cs107, hcl107, H⟩ := H.slEl 5 rfl hp95 (idxO_some ex106).2
 clear hcl107
 replace H := H.mkRc (R := R_api_Snap) (cs := [.string (txb (x94.1)), .int .u64 (x94.2.1), .slice p99 (x94.2.2).length c100]) (x := (x94.1, x94.2.1, x94.2.2)) (fun gg => ⟨_, _, rfl, rfl, ⟨_, _, rfl, rfl, ⟨_, _, rfl, (gg 2 _ rfl).choose_spec⟩⟩⟩)
 obtain ⟨x108, ex108, hm⟩ := ob hm
 refine qr H (by kernel_rfl) (by kernel_rfl) ?_
 refine qb [0,0] F rfl fun a F => ?_
 replace F := F.vF 24 hg98 rfl
 refine qbk [2,4002] F rfl ⟨fld41_2, rfl, plain24, trivial⟩ fun a F => ?_
 refine qg_on F rfl rfl rfl rfl ?_
 refine q_call F rfl rfl rfl (fun u hu => y_call F rfl rfl ent51) (fun u hu => (w_fCheck ex101 (hu.pm 10 [3,0,1,2,3,4,5,6,7,8,9] rfl:)).mono fun e u2 he => by obtain ⟨v, rfl, rfl, H⟩ := he; exact ⟨rfl, H⟩) fun a F => ?_
 refine qb [0,0,0] F rfl fun a F => ?_
 replace F := F.nT 30 hg102 rfl
 refine qbk [0,4000] F rfl ⟨fld41_0, rfl, plain9, trivial⟩ fun a F => ?_
 refine qg_on F rfl rfl rfl rfl ?_
 refine q_call F rfl rfl rfl (fun u hu => y_call F rfl rfl ent52) (fun u hu => (w_m_path_Name ex103 hu).mono fun e u2 he => by obtain ⟨v, rfl, rfl, H⟩ := he; exact ⟨rfl, H⟩) fun a F => ?_
 refine qb [0,0,0] F rfl fun a F => ?_
 replace F := F.vF 36 hg104 rfl
 refine qb [0,0,0] F rfl fun a F => ?_
 replace F := F.bT 39 hg105 rfl
 refine qbk [1,9001,0,0] F rfl ⟨fld27_1, rfl, plain25, trivial⟩ fun a F => ?_
 refine qg_on F rfl rfl rfl rfl ?_
 refine qv F rfl (fun u hu => y_idxS F elem25 rfl rfl rfl hp95 ex106) fun a F => ?_
 refine qbk [1999,4999] F rfl ⟨rfl, (aggn agg41 (H.rcLen 2 rfl)), rfl, (aggn agg41 rfl), trivial⟩ fun a F => ?_
 refine qg_on F rfl rfl rfl rfl ?_
 refine q_call F rfl rfl rfl (fun u hu => y_call F rfl rfl ent53) (fun u hu => (w_nCompare ex108 (hu.pm 10 [2,0,0,1,2,3,4,5,6,7,8,9] rfl:)).mono fun e u2 he => by obtain ⟨v, rfl, rfl, H⟩ := he; exact ⟨rfl, H⟩) fun a F => ?_
 refine qb [0,0,0,0] F rfl fun a F => ?_
 refine q_nil fun w H => ?_
 refine bn (ct (rl (bb [0,0] F H rfl fun a F => ?_)))
 refine lz (ct ?_); cases hm
 exact ⟨_, rfl, ⟨F.sl rfl, (H.pm 10 [7,8,9] rfl:)⟩⟩
 replace hm := ifF hg105 hm
 refine qr H (by kernel_rfl) (by kernel_rfl) ?_
 refine qb [0,0] F rfl fun a F => ?_
 replace F := F.vF 24 hg98 rfl
 refine qbk [2,1002] F rfl ⟨fld41_2, rfl, plain24, trivial⟩ fun a F => ?_
 refine qg_on F rfl rfl rfl rfl ?_
 refine q_call F rfl rfl rfl (fun u hu => y_call F rfl rfl ent51) (fun u hu => (w_fCheck ex101 (hu.pm 7 [0,0,1,2,3,4,5,6] rfl:)).mono fun e u2 he => by obtain ⟨v, rfl, rfl, H⟩ := he; exact ⟨rfl, H⟩) fun a F => ?_
 refine qb [0,0,0] F rfl fun a F => ?_
 replace F := F.nT 30 hg102 rfl
 refine qbk [0,1000] F rfl ⟨fld41_0, rfl, plain9, trivial⟩ fun a F => ?_
 refine qg_on F rfl rfl rfl rfl ?_
 refine q_call F rfl rfl rfl (fun u hu => y_call F rfl rfl ent52) (fun u hu => (w_m_path_Name ex103 hu).mono fun e u2 he => by obtain ⟨v, rfl, rfl, H⟩ := he; exact ⟨rfl, H⟩) fun a F => ?_
 refine qb [0,0,0] F rfl fun a F => ?_
 replace F := F.vF 36 hg104 rfl
 refine qb [0,0,0] F rfl fun a F => ?_
 replace F := F.bF 39 hg105 rfl
 refine qb (List.replicate 12 0) F rfl fun a F => ?_
 refine q_nil fun w H => ?_
 refine bn (ct (rl (bb [0,0] F H rfl fun a F => ?_)))
 refine lz (ct ?_); cases hm
 exact ⟨_, rfl, ⟨F.sl rfl, (H.pm 7 [4,5,6] rfl:)⟩⟩
 replace hm := ifF hg102 hm
 refine qr H (by kernel_rfl) (by kernel_rfl) ?_
 refine qb [0,0] F rfl fun a F => ?_
 replace F := F.vF 24 hg98 rfl
 refine qbk [2,1002] F rfl ⟨fld41_2, rfl, plain24, trivial⟩ fun a F => ?_
 refine qg_on F rfl rfl rfl rfl ?_
 refine q_call F rfl rfl rfl (fun u hu => y_call F rfl rfl ent51) (fun u hu => (w_fCheck ex101 (hu.pm 7 [0,0,1,2,3,4,5,6] rfl:)).mono fun e u2 he => by obtain ⟨v, rfl, rfl, H⟩ := he; exact ⟨rfl, H⟩) fun a F => ?_
 refine qb [0,0,0] F rfl fun a F => ?_
 replace F := F.nF 30 hg102 rfl
 refine qb (List.replicate 21 0) F rfl fun a F => ?_
 refine q_nil fun w H => ?_
 refine bn (ct (rl (bb [0,0] F H rfl fun a F => ?_)))
 refine lz (ct ?_); cases hm
 exact ⟨_, rfl, ⟨F.sl rfl, (H.pm 7 [4,5,6] rfl:)⟩⟩
 refine ex (cx (cx ?_)); cases hm; refine ⟨_, rfl, ?_⟩; rintro rfl
 refine ch (ct ?_)
 exact ⟨F.sl rfl, H⟩
 refine ct (sq (sb [0] F H rfl fun a F => ?_))
 refine nl (cB F rfl (fun hg109 => ?_) (fun hg109 => ?_))
 replace hm := ifT hg109 hm
 refine sb [0] F H rfl fun a F => ?_
 refine nl (wr (tr ?_))
 cases hm
 refine x_ret1 F rfl rfl ?_
 exact ⟨_, rfl, rfl, (H.pm 3 [] rfl:)⟩
 replace hm := ifF (nT hg109) hm
 refine sk (ct (sb [0] F H rfl fun a F => ?_))
 refine nl (wr ?_)
 cases hm
 refine x_ret1 F rfl rfl ?_
 exact ⟨_, rfl, rfl, (H.pm 3 [] rfl:)⟩
 refine bb (List.replicate 5 0) F H rfl fun a F => ?_
 replace H := H.nf 3 rfl
 refine nl (sq (sr (bk [1,2001,0,0] F H rfl ⟨fld27_1, rfl, plain25, ⟨_, Tryz.underlying25⟩, trivial⟩ fun a F => ?_)))
 refine nl (xm0 3 [3] [0,1,2] F H hm rfl rfl (fun r126 z => z) (fun r126 z => z) (fun r126 hm => ?_) (fun r126 a w hm F H => ?_))
 refine bl (xl0 3 [1,3,16,17] [0,1,2] F H hm rfl rfl (fun (s137 : Int) z => (18, .int .i64 (s137)) :: z) (fun s137 z => z) ⟨F.sl rfl, H⟩ (fun s137 a w o F H hm => ?_))
 refine sb [0] F H rfl fun a F => ?_
 refine nl (sq (cPm F rfl hm (fun hg138 hm => ?_) (fun hg138 hm => ?_)))
 refine sk (ct (sq (bl (sb [0] F H rfl fun a F => ?_))))
 obtain ⟨x139, ex139, hm⟩ := ob hm
 obtain ⟨b140, o140, hp140⟩ := H.slP 1 rfl (idxO_some ex139).2
 obtain ⟨cs141, hcl141, H⟩ := H.slEl 1 rfl hp140 (idxO_some ex139).2
 clear hcl141
 refine sv F rfl (y_idxS F elem25 rfl rfl rfl hp140 ex139) fun a F => ?_
 refine bk [999] F H rfl ⟨rfl, (aggn agg41 (H.rcLen 1 rfl)), trivial⟩ fun a F => ?_
 replace H := H.owNil R_api_Pair 103
 refine s_allocA wkP F rfl rfl rfl agz41 rfl H fun b142 w a H F => ?_
 refine bb [0] F H rfl fun a F => ?_
 refine s_storeA wkP F rfl rfl agg41 rfl rfl rfl H 0 rfl (H.rcLen 3 rfl) rfl (H.rcFlat 3 rfl) fun w H => ?_
 replace H := H.nf 7 rfl
 refine nl (qr H (by kernel_rfl) (by kernel_rfl) ?_)
 refine qb (List.replicate 29 0) F rfl fun a F => ?_
 refine q_nil fun w H => ?_
 refine bn (ct (rl (bb [0,0] F H rfl fun a F => ?_)))
 refine lz (ct ?_); cases hm
 exact ⟨_, rfl, ⟨F.sl rfl, (H.pm 7 [4,5,6] rfl:)⟩⟩
 refine ex (cx (cx ?_)); cases hm; refine ⟨_, rfl, ?_⟩; rintro rfl
 refine ch (ct ?_)
 exact ⟨F.sl rfl, H⟩
 refine ct (sq (sb [0] F H rfl fun a F => ?_))
 refine nl (cT F rfl ?_)
 refine sb [0] F H rfl fun a F => ?_
 refine nl (wr (tr ?_))
 cases hm
 refine x_ret1 F rfl rfl ?_
 exact ⟨_, rfl, rfl, (H.pm 3 [] rfl:)⟩
theorem plain33 : Plain Tryz.prog 33 := by unfold Plain; rw [Tryz.underlying33]; rfl
theorem w_nList {s : T_api_State} {behind : List UInt8} {cs1 : List Value} {w0 w : World} {l : List HP}  {r : T_api_Answer} (hm : nList s behind = some r) (H : St w0 w (HP.rc R_api_State cs1 s :: l)) :
  Calls Tryz.prog 45 [.agg cs1.toArray, .string (txb (behind))].toArray w (fun e w' => ∃ v, e = .returned v ∧ ∃ (cs2 : List Value), v = .agg cs2.toArray ∧ St w0 w' (HP.rc R_api_Answer cs2 r :: l)) := by
 unfold nList at hm
 refine x_enter Tryz.func45 rfl rfl rfl ?_
 intro a F
 refine sr (s_boxA wkP F rfl rfl rfl rfl rfl H fun b3 w a H F => ?_)
 replace H := H.owNil rByte 5
 replace H := H.owNil rStr 9
 refine s_allocA wkP F rfl rfl rfl agz35 rfl H fun b4 w a H F => ?_
 replace H := H.nf 5 rfl
 refine nl (sr (bk [1] F H rfl ⟨fld27_1, trivial⟩ fun a F => ?_))
 have G := F; replace H := rc_api_State (H.pk 4 rfl); obtain ⟨p5, c6, p7, c8, rfl, H⟩ := H; have F := G; clear G
 refine bk [5001,0] F H rfl ⟨rfl, plain25, ⟨_, Tryz.underlying25⟩, trivial⟩ fun a F => ?_
 replace H := H.owNil rByte 5
 replace H := H.owNil rStr 9
 refine sv F rfl (y_build F rfl rfl (cs := [.int .i64 (0), .int .i64 (((s.2).length : Int)), .slice none (([] : List UInt8)).length 0, .slice none (([] : List (List UInt8))).length 0]) (by kernel_rfl)) fun a F => ?_
 replace H := H.owNil rByte 5
 replace H := H.owNil rStr 9
 refine s_allocA wkP F rfl rfl rfl agz35 rfl H fun b9 w a H F => ?_
 refine s_storeA wkP F rfl rfl agg35 rfl rfl rfl H 0 rfl rfl rfl (fl rfl) fun w H => ?_
 replace H := H.nf 11 rfl
 refine nl (sq (sr (bk [1,10001,0,0] F H rfl ⟨fld27_1, rfl, plain25, ⟨_, Tryz.underlying25⟩, trivial⟩ fun a F => ?_)))
 refine nl (xm2 11 [4,5] [1,2,4,5,6,7,8,9,10] F H hm rfl rfl (fun r125 (p126 : Option Addr) (c126 : Nat) z => z) (fun r125 p126 c126 z => HP.blk b9 ([.int .i64 (0), .int .i64 (((s.2).length : Int)), .slice none (([] : List UInt8)).length 0, .slice p126 (r125).length c126]) 35 :: HP.ow rStr 9 p126 c126 r125 :: z) (fun r125 hm => ?_) (fun r125 a w hm p126 c126 F H => ?_))
 refine bl ?_
 refine xl2 11 [1,4,5,13,14] [1,2,4,5,6,7,8,9,10] F H hm rfl rfl (fun (s203 : (List (List UInt8)) × Int) (p204 : Option Addr) (c204 : Nat) z => (15, .int .i64 (s203.2)) :: z) (fun s203 p204 c204 z => HP.blk b9 ([.int .i64 (0), .int .i64 (((s.2).length : Int)), .slice none (([] : List UInt8)).length 0, .slice p204 (s203.1).length c204]) 35 :: HP.ow rStr 9 p204 c204 s203.1 :: z) ⟨none,0, F.sl rfl, (H.pm 11 [0,3,1,2,4,5,6,7,8,9,10] rfl:)⟩ (fun s203 a w o p204 c204 F H hm => ?_)
 refine sb [0] F H rfl fun a F => ?_
 refine nl (sq (cPm F rfl hm (fun hg205 hm => ?_) (fun hg205 hm => ?_)))
 refine sk (ct (sq (xm2 11 [1,4,5,13,14,15] [2,3,4,5,6,7,8,9,10] F H hm rfl rfl (fun r223 (p224 : Option Addr) (c224 : Nat) z => z) (fun r223 p224 c224 z => HP.blk b9 ([.int .i64 (0), .int .i64 (((s.2).length : Int)), .slice none (([] : List UInt8)).length 0, .slice p224 (r223).length c224]) 35 :: HP.ow rStr 9 p224 c224 r223 :: z) (fun r223 hm => ?_) (fun r223 a w hm p224 c224 F H => ?_))))
 refine bl (sr ?_)
 obtain ⟨x225, ex225, hm⟩ := ob hm
 obtain ⟨b226, o226, hp226⟩ := H.slP 6 rfl (idxO_some ex225).2
 obtain ⟨cs227, hcl227, H⟩ := H.slEl 6 rfl hp226 (idxO_some ex225).2
 clear hcl227
 refine sv F rfl (y_idxS F elem25 rfl rfl rfl hp226 ex225) fun a F => ?_
 refine bk [999] F H rfl ⟨rfl, (aggn agg41 (H.rcLen 1 rfl)), trivial⟩ fun a F => ?_
 replace H := H.owNil R_api_Pair 103
 refine s_allocA wkP F rfl rfl rfl agz41 rfl H fun b228 w a H F => ?_
 refine s_storeA wkP F rfl rfl agg41 rfl rfl rfl H 0 rfl (H.rcLen 3 rfl) rfl (H.rcFlat 3 rfl) fun w H => ?_
 replace H := H.nf 15 rfl
 refine nl (sr (bk [0] F H rfl ⟨fld41_0, trivial⟩ fun a F => ?_))
 have G := F; replace H := rc_api_Snap (H.pk 3 rfl); obtain ⟨p229, c230, rfl, H⟩ := H; have F := G; clear G
 refine bk [1000,0] F H rfl ⟨rfl, plain9, trivial⟩ fun a F => ?_
 refine sv F rfl (y_gtrT (l := x225.1) (m := behind) F rfl rfl rfl) fun a F => ?_
 refine bb [0] F H rfl fun a F => ?_
 by_cases hg231 : (gtrB x225.1 behind) = true
 replace hm := ifT hg231 hm
 replace F := F.vT 23 hg231 rfl
 refine bk [3,4003,0,0,0] F H rfl ⟨fld35_3, rfl, plain33, ⟨_, Tryz.underlying33⟩, trivial⟩ fun a F => ?_
 refine nl (xm2 15 [1,4,5,13,14,15] [0,1,2,3,6,7,8,9,10,11,12,13,14] F H hm rfl rfl (fun r236 (p237 : Option Addr) (c237 : Nat) z => z) (fun r236 p237 c237 z => HP.blk b9 ([.int .i64 (0), .int .i64 (((s.2).length : Int)), .slice none (([] : List UInt8)).length 0, .slice p237 (r236).length c237]) 35 :: HP.ow rStr 9 p237 c237 r236 :: z) (fun r236 hm => ?_) (fun r236 a w hm p237 c237 F H => ?_))
 refine cPm F rfl hm (fun hg238 hm => ?_) (fun hg238 hm => ?_)
 refine rl (bk [3,4003,0,1000] F H rfl ⟨fld35_3, rfl, plain33, fld41_0, rfl, plain9, trivial⟩ fun a F => ?_)
 refine s_buildC wkP F rfl rfl rfl elem33 zero9 rfl rfl rfl rfl (by simp [Value.cells]) (by decide) H fun b239 w a H F => ?_
 replace H := H.blkOw1 (R := rStr) (x := x225.1) (fun gg => rfl)
 replace H := H.frz 0 rfl
 obtain ⟨x241, ex241, hm⟩ := ob hm
 refine s_app wkP F rfl rfl rfl rfl rfl rfl elem33 rfl ex241 H 6 0 rfl rfl fun p240 c240 w a H F => ?_
 refine bk [3] F H rfl ⟨fld35_3, trivial⟩ fun a F => ?_
 refine s_st1 wkP F rfl rfl zero33 rfl rfl rfl rfl rfl H 5 rfl rfl fun w H => ?_
 replace H := H.nf 16 rfl
 refine lz ?_
 cases hm
 refine ct ?_
 exact ⟨p240, c240, F.sl rfl, (H.pm 16 [5,6,1,2,3,4,7,8,9,10,11,12,13,14,15] rfl:)⟩
 refine sk ?_
 cases hm
 refine ct ?_
 exact ⟨p204, c204, F.sl rfl, (H.pm 15 [4,5,0,1,2,3,6,7,8,9,10,11,12,13,14] rfl:)⟩
 refine bn ?_
 cases hm
 refine ct ?_
 exact ⟨p237, c237, F.sl rfl, (H.pm 15 [0,1,6,7,8,9,10,11,12,13,14] rfl:)⟩
 replace hm := ifF hg231 hm
 replace F := F.vF 23 hg231 rfl
 refine bb (List.replicate 5 0) F H rfl fun a F => ?_
 refine nl (cF F rfl ?_)
 refine sk (bn ?_)
 cases hm
 refine ct ?_
 exact ⟨p204, c204, F.sl rfl, (H.pm 15 [4,5,6,7,8,9,10,11,12,13,14] rfl:)⟩
 refine ct (rl (bb [0,0] F H rfl fun a F => ?_))
 refine lz (ct ?_); cases hm
 exact ⟨_, rfl, ⟨p224, c224, F.sl rfl, H⟩⟩
 refine ex (cx (cx ?_)); cases hm; refine ⟨_, rfl, ?_⟩; rintro rfl
 refine ch (ct ?_)
 exact ⟨p204, c204, F.sl rfl, H⟩
 refine ct (sr (bk [999] F H rfl ⟨rfl, (aggn agg35 rfl), trivial⟩ fun a F => ?_))
 refine s_storeA wkP F rfl rfl agg35 rfl rfl rfl H 7 rfl rfl rfl (fl rfl) fun w H => ?_
 replace H := H.nf 11 rfl
 refine nl (wr ?_)
 replace H := H.frz 4 rfl
 replace H := H.frz 2 rfl
 replace H := H.mkRc (R := R_api_Answer) (cs := [.int .i64 (0), .int .i64 (((s.2).length : Int)), .slice none (([] : List UInt8)).length 0, .slice p126 (r125).length c126]) (x := (0, ((s.2).length : Int), ([] : List UInt8), r125)) (fun gg => ⟨_, _, rfl, rfl, ⟨_, _, rfl, rfl, ⟨_, _, rfl, ⟨_, _, rfl, (gg 1 _ rfl).choose_spec⟩, ⟨_, _, rfl, (gg 0 _ rfl).choose_spec⟩⟩⟩⟩)
 cases hm
 refine x_resC1 F rfl (⟨_, rfl, agg35.run_load (H.blk 8 rfl).row rfl⟩) ?_
 exact ⟨_, rfl, [.int .i64 (0), .int .i64 (((s.2).length : Int)), .slice none (([] : List UInt8)).length 0, .slice p126 (r125).length c126], rfl, (H.pm 12 [0] rfl:)⟩
end Go.Proofs.YtnagibpmfabkjaaGreatDoor
