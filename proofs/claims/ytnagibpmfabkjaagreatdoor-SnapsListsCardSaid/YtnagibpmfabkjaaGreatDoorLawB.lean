/- laws -/
import Derived.Test.YtnagibpmfabkjaaGreatDoorLawA
set_option linter.unusedSimpArgs false
set_option linter.unusedVariables false
namespace Go.Proofs.YtnagibpmfabkjaaGreatDoor
open Go.RowKit Go.Tri
set_option maxRecDepth 100000
set_option maxHeartbeats 4000000
theorem ent13 : En Tryz.prog 13 := enters Tryz.func13 (by kernel_rfl) rfl
theorem ent18 : En Tryz.prog 18 := enters Tryz.func18 (by kernel_rfl) rfl
theorem ent19 : En Tryz.prog 19 := enters Tryz.func19 (by kernel_rfl) rfl
theorem ent23 : En Tryz.prog 23 := enters Tryz.func23 (by kernel_rfl) rfl
theorem ent27 : En Tryz.prog 27 := enters Tryz.func27 (by kernel_rfl) rfl
theorem w_lFull {s : T_api_State} {o : T_api_Op} {cs1 : List Value} {cs2 : List Value} {w0 w : World} {l : List HP}  {r : Bool} (hm : lFull s o = some r) (H : St w0 w (HP.rc R_api_State cs1 s :: HP.rc R_api_Op cs2 o :: l)) :
  Calls Tryz.prog 6 [.agg cs1.toArray, .agg cs2.toArray].toArray w (fun e w' => ∃ v, e = .returned v ∧ v = .bool (r) ∧ St w0 w' (l)) := by
 unfold lFull at hm
 refine x_enter Tryz.func6 rfl rfl rfl ?_
 intro a F
 refine sr (s_boxA wkP F rfl rfl rfl rfl rfl H fun b3 w a H F => ?_)
 refine s_boxA wkP F rfl rfl rfl rfl rfl H fun b4 w a H F => ?_
 refine bb [0] F H rfl fun a F => ?_
 replace H := H.nf 4 rfl
 refine nl (sq (sr ?_))
 obtain ⟨x5, ex5, hm⟩ := ob hm
 refine sd F rfl ent13 (w_lSpeaks ex5 H:) ?_; rintro _ w a ⟨rfl, H⟩ F
 refine bb [0] F H rfl fun a F => ?_
 replace H := H.nf 4 rfl
 refine nl (cB F rfl (fun hg6 => ?_) (fun hg6 => ?_))
 replace hm := ifT hg6 hm
 refine sb [0] F H rfl fun a F => ?_
 refine nl (wr (tr ?_))
 cases hm
 refine x_ret1 F rfl rfl ?_
 exact ⟨_, rfl, rfl, (H.pm 4 [] rfl:)⟩
 replace hm := ifF (nT hg6) hm
 refine sk (ct (sq (sr (bk [1999] F H rfl ⟨rfl, (aggn agg27 (H.rcLen 2 rfl)), trivial⟩ fun a F => ?_))))
 obtain ⟨x7, ex7, hm⟩ := ob hm
 refine sd F rfl ent18 (w_rGreatS ex7 (H.pm 4 [2,0,1,2,3] rfl:):) ?_; rintro _ w a ⟨rfl, H⟩ F
 refine bb [0] F H rfl fun a F => ?_
 by_cases hg8 : x7 = true
 replace hm := ifT hg8 hm
 replace F := F.vT 11 hg8 rfl
 refine bb (List.replicate 8 0) F H rfl fun a F => ?_
 replace H := H.nf 4 rfl
 refine nl (cT F rfl ?_)
 refine sb [0] F H rfl fun a F => ?_
 refine nl (wr (tr ?_))
 cases hm
 refine x_ret1 F rfl rfl ?_
 exact ⟨_, rfl, rfl, (H.pm 4 [] rfl:)⟩
 replace hm := ifF hg8 hm
 replace F := F.vF 11 hg8 rfl
 refine bk [999] F H rfl ⟨rfl, (aggn agg31 (H.rcLen 3 rfl)), trivial⟩ fun a F => ?_
 refine g_onP F rfl rfl rfl rfl ?_
 obtain ⟨x9, ex9, hm⟩ := ob hm
 refine sd F rfl ent19 (w_rGreatOp ex9 (H.pm 4 [3,0,1,2,3] rfl:):) ?_; rintro _ w a ⟨rfl, H⟩ F
 refine bb [0,0] F H rfl fun a F => ?_
 by_cases hg10 : x9 = true
 replace hm := ifT hg10 hm
 replace F := F.vT 15 hg10 rfl
 refine bb [0,0,0,0] F H rfl fun a F => ?_
 replace H := H.nf 4 rfl
 refine nl (cT F rfl ?_)
 refine sb [0] F H rfl fun a F => ?_
 refine nl (wr (tr ?_))
 cases hm
 refine x_ret1 F rfl rfl ?_
 exact ⟨_, rfl, rfl, (H.pm 4 [] rfl:)⟩
 replace hm := ifF hg10 hm
 replace F := F.vF 15 hg10 rfl
 refine bk [1999] F H rfl ⟨rfl, (aggn agg27 (H.rcLen 2 rfl)), trivial⟩ fun a F => ?_
 refine g_onP F rfl rfl rfl rfl ?_
 obtain ⟨x11, ex11, hm⟩ := ob hm
 refine sd F rfl ent23 (w_nCheck ex11 (H.pm 4 [2,0,1,2,3] rfl:):) ?_; rintro _ w a ⟨rfl, H⟩ F
 refine bb [0,0] F H rfl fun a F => ?_
 replace H := H.nf 4 rfl
 refine nl (cNm F rfl hm (fun hg12 hm => ?_) (fun hg12 hm => ?_))
 refine sb [0] F H rfl fun a F => ?_
 refine nl (wr (tr ?_))
 cases hm
 refine x_ret1 F rfl rfl ?_
 exact ⟨_, rfl, rfl, (H.pm 4 [] rfl:)⟩
 refine sk (ct (sr (bk [1999,999] F H rfl ⟨rfl, (aggn agg27 (H.rcLen 2 rfl)), rfl, (aggn agg31 (H.rcLen 3 rfl)), trivial⟩ fun a F => ?_)))
 obtain ⟨x13, ex13, hm⟩ := ob hm
 refine sd F rfl ent15 (w_nDo ex13 (H.pm 4 [2,3,0,1,2,3] rfl:):) ?_; rintro _ w a ⟨cs14, cs15, rfl, H⟩ F
 refine bb [0,0,0] F H rfl fun a F => ?_
 replace H := H.owNil R_api_Pair 103
 replace H := H.owNil R_api_Snap 41
 refine s_allocA wkP F rfl rfl rfl agz27 rfl H fun b16 w a H F => ?_
 replace H := H.owNil rByte 5
 replace H := H.owNil rStr 9
 refine s_allocA wkP F rfl rfl rfl agz35 rfl H fun b17 w a H F => ?_
 refine s_storeA wkP F rfl rfl agg27 rfl rfl rfl H 3 rfl (H.rcLen 6 rfl) rfl (H.rcFlat 6 rfl) fun w H => ?_
 refine s_storeA wkP F rfl rfl agg35 rfl rfl rfl H 0 rfl (H.rcLen 7 rfl) rfl (H.rcFlat 7 rfl) fun w H => ?_
 replace H := H.nf 12 rfl
 refine nl (sq (sr (bk [0] F H rfl ⟨fld35_0, trivial⟩ fun a F => ?_)))
 have G := F; replace H := rc_api_Answer (H.pk 7 rfl); obtain ⟨p18, c19, p20, c21, rfl, H⟩ := H; have F := G; clear G
 refine bk [2000,0,0] F H rfl ⟨rfl, plain32, trivial⟩ fun a F => ?_
 rcases spN 29 F rfl hm with ⟨hg22, hm, F⟩ | ⟨hg22, hm, F⟩
 refine bb (List.replicate 5 0) F H rfl fun a F => ?_
 refine nl (cF F rfl ?_)
 refine sk (ct (sr (bk [5999] F H rfl ⟨rfl, (aggn agg27 (H.rcLen 8 rfl)), trivial⟩ fun a F => ?_)))
 obtain ⟨x23, ex23, hm⟩ := ob hm
 refine sd F rfl ent24 (w_nUnits ex23 (H.pm 13 [8,0,1,2,3,4,5,6,7,8,9,10,11,12] rfl:):) ?_; rintro _ w a ⟨rfl, H⟩ F
 refine bb [0,0] F H rfl fun a F => ?_
 rcases spP 38 F rfl hm with ⟨hg24, hm, F⟩ | ⟨hg24, hm, F⟩
 refine bk [5999] F H rfl ⟨rfl, (aggn agg27 (H.rcLen 8 rfl)), trivial⟩ fun a F => ?_
 refine g_onP F rfl rfl rfl rfl ?_
 obtain ⟨x25, ex25, hm⟩ := ob hm
 refine sd F rfl ent23 (w_nCheck ex25 (H.pm 13 [8,0,1,2,3,4,5,6,7,8,9,10,11,12] rfl:):) ?_; rintro _ w a ⟨rfl, H⟩ F
 refine bb [0,0,0] F H rfl fun a F => ?_
 replace H := H.nf 13 rfl
 refine nl (wr ?_)
 cases hm
 refine x_ret1 F rfl rfl ?_
 exact ⟨_, rfl, rfl, (H.pm 13 [] rfl:)⟩
 refine bb (List.replicate 5 0) F H rfl fun a F => ?_
 replace H := H.nf 13 rfl
 refine nl (wr ?_)
 cases hm
 refine x_ret1 F rfl rfl ?_
 exact ⟨_, rfl, rfl, (H.pm 13 [] rfl:)⟩
 refine bk [5999,10999] F H rfl ⟨rfl, (aggn agg27 (H.rcLen 8 rfl)), rfl, (aggn agg27 (H.rcLen 11 rfl)), trivial⟩ fun a F => ?_
 refine g_onP F rfl rfl rfl rfl ?_
 obtain ⟨x26, ex26, hm⟩ := ob hm
 refine sd F rfl ent27 (w_rSameS ex26 (H.pm 13 [8,11,0,1,2,3,4,5,6,7,8,9,10,11,12] rfl:):) ?_; rintro _ w a ⟨rfl, H⟩ F
 refine bb [0,0] F H rfl fun a F => ?_
 replace H := H.nf 13 rfl
 refine nl (cB F rfl (fun hg27 => ?_) (fun hg27 => ?_))
 replace hm := ifT hg27 hm
 refine sb [0] F H rfl fun a F => ?_
 refine nl (wr (tr ?_))
 cases hm
 refine x_ret1 F rfl rfl ?_
 exact ⟨_, rfl, rfl, (H.pm 13 [] rfl:)⟩
 replace hm := ifF (nT hg27) hm
 refine sk (ct (sr (bk [5999] F H rfl ⟨rfl, (aggn agg27 (H.rcLen 8 rfl)), trivial⟩ fun a F => ?_)))
 obtain ⟨x28, ex28, hm⟩ := ob hm
 refine sd F rfl ent24 (w_nUnits ex28 (H.pm 13 [8,0,1,2,3,4,5,6,7,8,9,10,11,12] rfl:):) ?_; rintro _ w a ⟨rfl, H⟩ F
 refine bb [0,0] F H rfl fun a F => ?_
 rcases spP 38 F rfl hm with ⟨hg29, hm, F⟩ | ⟨hg29, hm, F⟩
 refine bk [5999] F H rfl ⟨rfl, (aggn agg27 (H.rcLen 8 rfl)), trivial⟩ fun a F => ?_
 refine g_onP F rfl rfl rfl rfl ?_
 obtain ⟨x30, ex30, hm⟩ := ob hm
 refine sd F rfl ent23 (w_nCheck ex30 (H.pm 13 [8,0,1,2,3,4,5,6,7,8,9,10,11,12] rfl:):) ?_; rintro _ w a ⟨rfl, H⟩ F
 refine bb [0,0,0] F H rfl fun a F => ?_
 replace H := H.nf 13 rfl
 refine nl (wr ?_)
 cases hm
 refine x_ret1 F rfl rfl ?_
 exact ⟨_, rfl, rfl, (H.pm 13 [] rfl:)⟩
 refine bb (List.replicate 5 0) F H rfl fun a F => ?_
 replace H := H.nf 13 rfl
 refine nl (wr ?_)
 cases hm
 refine x_ret1 F rfl rfl ?_
 exact ⟨_, rfl, rfl, (H.pm 13 [] rfl:)⟩
theorem w_lUnits {s : T_api_State} {name : List UInt8} {cs1 : List Value} {w0 w : World} {l : List HP}  {r : Bool} (hm : lUnits s name = some r) (H : St w0 w (HP.rc R_api_State cs1 s :: l)) :
  Calls Tryz.prog 7 [.agg cs1.toArray, .string (txb (name))].toArray w (fun e w' => ∃ v, e = .returned v ∧ v = .bool (r) ∧ St w0 w' (l)) := by
 unfold lUnits at hm
 refine x_enter Tryz.func7 rfl rfl rfl ?_
 intro a F
 refine sr (s_boxA wkP F rfl rfl rfl rfl rfl H fun b2 w a H F => ?_)
 refine bb [0] F H rfl fun a F => ?_
 replace H := H.nf 2 rfl
 refine nl (sq (sr ?_))
 obtain ⟨x3, ex3, hm⟩ := ob hm
 refine sd F rfl ent13 (w_lSpeaks ex3 H:) ?_; rintro _ w a ⟨rfl, H⟩ F
 refine bb [0] F H rfl fun a F => ?_
 replace H := H.nf 2 rfl
 refine nl (cB F rfl (fun hg4 => ?_) (fun hg4 => ?_))
 replace hm := ifT hg4 hm
 refine sb [0] F H rfl fun a F => ?_
 refine nl (wr (tr ?_))
 cases hm
 refine x_ret1 F rfl rfl ?_
 exact ⟨_, rfl, rfl, (H.pm 2 [] rfl:)⟩
 replace hm := ifF (nT hg4) hm
 refine sk (ct (sq (sr (bk [999] F H rfl ⟨rfl, (aggn agg27 (H.rcLen 1 rfl)), trivial⟩ fun a F => ?_))))
 obtain ⟨x5, ex5, hm⟩ := ob hm
 refine sd F rfl ent18 (w_rGreatS ex5 (H.pm 2 [1,0,1] rfl:):) ?_; rintro _ w a ⟨rfl, H⟩ F
 refine bb [0] F H rfl fun a F => ?_
 by_cases hg6 : x5 = true
 replace hm := ifT hg6 hm
 replace F := F.vT 14 hg6 rfl
 refine bb (List.replicate 9 0) F H rfl fun a F => ?_
 replace H := H.nf 2 rfl
 refine nl (cT F rfl ?_)
 refine sb [0] F H rfl fun a F => ?_
 refine nl (wr (tr ?_))
 cases hm
 refine x_ret1 F rfl rfl ?_
 exact ⟨_, rfl, rfl, (H.pm 2 [] rfl:)⟩
 replace hm := ifF hg6 hm
 replace F := F.vF 14 hg6 rfl
 refine bb [0] F H rfl fun a F => ?_
 refine g_onP F rfl rfl rfl rfl ?_
 refine sv F rfl (y_lenT (l := name) F rfl Tryz.underlying9 rfl) fun a F => ?_
 refine bb [0,0,0] F H rfl fun a F => ?_
 rcases spP 19 F rfl hm with ⟨hg7, hm, F⟩ | ⟨hg7, hm, F⟩
 refine bb [0,0,0,0] F H rfl fun a F => ?_
 replace H := H.nf 2 rfl
 refine nl (cT F rfl ?_)
 refine sb [0] F H rfl fun a F => ?_
 refine nl (wr (tr ?_))
 cases hm
 refine x_ret1 F rfl rfl ?_
 exact ⟨_, rfl, rfl, (H.pm 2 [] rfl:)⟩
 refine bk [999] F H rfl ⟨rfl, (aggn agg27 (H.rcLen 1 rfl)), trivial⟩ fun a F => ?_
 refine g_onP F rfl rfl rfl rfl ?_
 obtain ⟨x8, ex8, hm⟩ := ob hm
 refine sd F rfl ent23 (w_nCheck ex8 (H.pm 2 [1,0,1] rfl:):) ?_; rintro _ w a ⟨rfl, H⟩ F
 refine bb [0,0] F H rfl fun a F => ?_
 replace H := H.nf 2 rfl
 refine nl (cNm F rfl hm (fun hg9 hm => ?_) (fun hg9 hm => ?_))
 refine sb [0] F H rfl fun a F => ?_
 refine nl (wr (tr ?_))
 cases hm
 refine x_ret1 F rfl rfl ?_
 exact ⟨_, rfl, rfl, (H.pm 2 [] rfl:)⟩
 refine sk (ct (sr (bk [999] F H rfl ⟨rfl, (aggn agg27 (H.rcLen 1 rfl)), trivial⟩ fun a F => ?_)))
 obtain ⟨x10, ex10, hm⟩ := ob hm
 refine sd F rfl ent24 (w_nUnits ex10 (H.pm 2 [1,0,1] rfl:):) ?_; rintro _ w a ⟨rfl, H⟩ F
 refine bb [0] F H rfl fun a F => ?_
 replace H := H.nf 2 rfl
 refine nl (sr (bk [999,0] F H rfl ⟨rfl, (aggn agg27 (H.rcLen 1 rfl)), trivial⟩ fun a F => ?_))
 replace H := H.owNil rByte 5
 refine sv F rfl (y_build F rfl rfl (cs := [.int .i64 (10), .string (txb (name)), .string (txb ([])), .int .i64 (0), .int .i64 (0), .slice none (([] : List UInt8)).length 0]) (by kernel_rfl)) fun a F => ?_
 replace H := H.frz 0 rfl
 replace H := H.mkRc (R := R_api_Op) (cs := [.int .i64 (10), .string (txb (name)), .string (txb ([])), .int .i64 (0), .int .i64 (0), .slice none (([] : List UInt8)).length 0]) (x := (10, name, [], 0, 0, ([] : List UInt8))) (fun gg => ⟨_, _, rfl, rfl, ⟨_, _, rfl, rfl, ⟨_, _, rfl, rfl, ⟨_, _, rfl, rfl, ⟨_, _, rfl, rfl, ⟨_, _, rfl, (gg 0 _ rfl).choose_spec⟩⟩⟩⟩⟩⟩)
 obtain ⟨x11, ex11, hm⟩ := ob hm
 refine sd F rfl ent15 (w_nDo ex11 (H.pm 4 [3,0,0,1,2,3] rfl:):) ?_; rintro _ w a ⟨cs12, cs13, rfl, H⟩ F
 refine bb [0,0,0] F H rfl fun a F => ?_
 replace H := H.owNil R_api_Pair 103
 replace H := H.owNil R_api_Snap 41
 refine s_allocA wkP F rfl rfl rfl agz27 rfl H fun b14 w a H F => ?_
 replace H := H.owNil rByte 5
 replace H := H.owNil rStr 9
 refine s_allocA wkP F rfl rfl rfl agz35 rfl H fun b15 w a H F => ?_
 refine s_storeA wkP F rfl rfl agg27 rfl rfl rfl H 3 rfl (H.rcLen 6 rfl) rfl (H.rcFlat 6 rfl) fun w H => ?_
 refine s_storeA wkP F rfl rfl agg35 rfl rfl rfl H 0 rfl (H.rcLen 7 rfl) rfl (H.rcFlat 7 rfl) fun w H => ?_
 replace H := H.nf 12 rfl
 refine nl (sq (sr (bk [0] F H rfl ⟨fld35_0, trivial⟩ fun a F => ?_)))
 have G := F; replace H := rc_api_Answer (H.pk 7 rfl); obtain ⟨p16, c17, p18, c19, rfl, H⟩ := H; have F := G; clear G
 refine bk [2000,0] F H rfl ⟨rfl, plain32, trivial⟩ fun a F => ?_
 refine nl (cNm F rfl hm (fun hg20 hm => ?_) (fun hg20 hm => ?_))
 refine sr (bk [5999,11999] F H rfl ⟨rfl, (aggn agg27 (H.rcLen 8 rfl)), rfl, (aggn agg27 (H.rcLen 12 rfl)), trivial⟩ fun a F => ?_)
 obtain ⟨x21, ex21, hm⟩ := ob hm
 refine sd F rfl ent27 (w_rSameS ex21 (H.pm 13 [8,12,0,1,2,3,4,5,6,7,8,9,10,11,12] rfl:):) ?_; rintro _ w a ⟨rfl, H⟩ F
 refine bb [0] F H rfl fun a F => ?_
 replace H := H.nf 13 rfl
 refine nl (wr (tr ?_))
 cases hm
 refine x_ret1 F rfl rfl ?_
 exact ⟨_, rfl, rfl, (H.pm 13 [] rfl:)⟩
 refine sk (ct (sr (bk [5999,0] F H rfl ⟨rfl, (aggn agg27 (H.rcLen 8 rfl)), trivial⟩ fun a F => ?_)))
 replace H := H.owNil rByte 5
 refine sv F rfl (y_build F rfl rfl (cs := [.int .i64 (11), .string (txb (name)), .string (txb ([])), .int .i64 (0), .int .i64 (0), .slice none (([] : List UInt8)).length 0]) (by kernel_rfl)) fun a F => ?_
 replace H := H.frz 0 rfl
 replace H := H.mkRc (R := R_api_Op) (cs := [.int .i64 (11), .string (txb (name)), .string (txb ([])), .int .i64 (0), .int .i64 (0), .slice none (([] : List UInt8)).length 0]) (x := (11, name, [], 0, 0, ([] : List UInt8))) (fun gg => ⟨_, _, rfl, rfl, ⟨_, _, rfl, rfl, ⟨_, _, rfl, rfl, ⟨_, _, rfl, rfl, ⟨_, _, rfl, rfl, ⟨_, _, rfl, (gg 0 _ rfl).choose_spec⟩⟩⟩⟩⟩⟩)
 obtain ⟨x22, ex22, hm⟩ := ob hm
 refine sd F rfl ent15 (w_nDo ex22 (H.pm 15 [10,0,0,1,2,3,4,5,6,7,8,9,10,11,12,13,14] rfl:):) ?_; rintro _ w a ⟨cs23, cs24, rfl, H⟩ F
 refine bb [0,0,0] F H rfl fun a F => ?_
 replace H := H.owNil R_api_Pair 103
 replace H := H.owNil R_api_Snap 41
 refine s_allocA wkP F rfl rfl rfl agz27 rfl H fun b25 w a H F => ?_
 replace H := H.owNil rByte 5
 replace H := H.owNil rStr 9
 refine s_allocA wkP F rfl rfl rfl agz35 rfl H fun b26 w a H F => ?_
 refine s_storeA wkP F rfl rfl agg27 rfl rfl rfl H 3 rfl (H.rcLen 6 rfl) rfl (H.rcFlat 6 rfl) fun w H => ?_
 refine s_storeA wkP F rfl rfl agg35 rfl rfl rfl H 0 rfl (H.rcLen 7 rfl) rfl (H.rcFlat 7 rfl) fun w H => ?_
 replace H := H.nf 23 rfl
 refine nl (sq ?_)
 obtain ⟨x27, ex27, hm⟩ := ob hm
 have G := F; replace H := rc_api_State (H.pk 22 rfl); obtain ⟨p28, c29, p30, c31, rfl, H⟩ := H; have F := G; clear G
 by_cases hg32 : x27 = (IntKind.i64.wrap ((IntKind.i64.wrap (x10 + 1)) + ((s.1).length : Int)))
 replace hm := ifT hg32 hm
 have G := F; replace H := rc_api_Answer (H.pk 9 rfl); obtain ⟨p33, c34, p35, c36, rfl, H⟩ := H; have F := G; clear G
 by_cases hg37 : x22.2.1 = 0
 replace hm := ifT hg37 hm
 replace H := H.mkRc (R := R_api_State) (cs := [.slice p28 (s.1).length c29, .slice p30 (s.2).length c31]) (x := (s.1, s.2)) (fun gg => ⟨_, _, rfl, ⟨_, _, rfl, (gg 2 _ rfl).choose_spec⟩, ⟨_, _, rfl, (gg 3 _ rfl).choose_spec⟩⟩)
 obtain ⟨x38, ex38, hm⟩ := ob hm
 refine qr H (by kernel_rfl) (by kernel_rfl) ?_
 refine qbk [19999] F rfl ⟨rfl, (aggn agg27 (H.rcLen 22 rfl)), trivial⟩ fun a F => ?_
 refine q_call F rfl rfl rfl (fun u hu => y_call F rfl rfl ent24) (fun u hu => (w_nUnits ex27 (hu.pm 26 [22,0,1,2,3,4,5,6,7,8,9,10,11,12,13,14,15,16,17,18,19,20,21,22,23,24,25] rfl:)).mono fun e u2 he => by obtain ⟨v, rfl, rfl, H⟩ := he; exact ⟨rfl, H⟩) fun a F => ?_
 refine qbk [0,0,0,25000,0,0,0,0] F rfl ⟨fld27_0, rfl, plain24, ⟨_, Tryz.underlying24⟩, trivial⟩ fun a F => ?_
 replace F := F.bT 55 hg32 rfl
 refine qbk [0,5000,0,0,0] F rfl ⟨fld35_0, rfl, plain32, trivial⟩ fun a F => ?_
 replace F := F.bT 60 hg37 rfl
 refine qbk [8999,25999] F rfl ⟨rfl, (aggn agg27 (H.rcLen 11 rfl)), rfl, (aggn agg27 rfl), trivial⟩ fun a F => ?_
 refine qg_on F rfl rfl rfl rfl ?_
 refine q_call F rfl rfl rfl (fun u hu => y_call F rfl rfl ent27) (fun u hu => (w_rSameS ex38 (hu.pm 26 [11,0,0,1,2,3,4,5,6,7,8,9,10,11,12,13,14,15,16,17,18,19,20,21,22,23,24,25] rfl:)).mono fun e u2 he => by obtain ⟨v, rfl, rfl, H⟩ := he; exact ⟨rfl, H⟩) fun a F => ?_
 refine qb [0,0] F rfl fun a F => ?_
 refine q_nil fun w H => ?_
 refine ct (wr ?_)
 cases hm
 refine x_ret1 F rfl rfl ?_
 exact ⟨_, rfl, rfl, (H.pm 26 [] rfl:)⟩
 replace hm := ifF hg37 hm
 refine qr H (by kernel_rfl) (by kernel_rfl) ?_
 refine qbk [18999] F rfl ⟨rfl, (aggn agg27 (H.rcLen 21 rfl)), trivial⟩ fun a F => ?_
 refine q_call F rfl rfl rfl (fun u hu => y_call F rfl rfl ent24) (fun u hu => (w_nUnits ex27 (hu.pm 25 [21,0,1,2,3,4,5,6,7,8,9,10,11,12,13,14,15,16,17,18,19,20,21,22,23,24] rfl:)).mono fun e u2 he => by obtain ⟨v, rfl, rfl, H⟩ := he; exact ⟨rfl, H⟩) fun a F => ?_
 refine qbk [0,0,0,24000,0,0,0,0] F rfl ⟨fld27_0, rfl, plain24, ⟨_, Tryz.underlying24⟩, trivial⟩ fun a F => ?_
 replace F := F.bT 55 hg32 rfl
 refine qbk [0,4000,0,0,0] F rfl ⟨fld35_0, rfl, plain32, trivial⟩ fun a F => ?_
 replace F := F.bF 60 hg37 rfl
 refine qb (List.replicate 5 0) F rfl fun a F => ?_
 refine q_nil fun w H => ?_
 refine ct (wr ?_)
 cases hm
 refine x_ret1 F rfl rfl ?_
 exact ⟨_, rfl, rfl, (H.pm 25 [] rfl:)⟩
 replace hm := ifF hg32 hm
 refine qr H (by kernel_rfl) (by kernel_rfl) ?_
 refine qbk [17999] F rfl ⟨rfl, (aggn agg27 (H.rcLen 20 rfl)), trivial⟩ fun a F => ?_
 refine q_call F rfl rfl rfl (fun u hu => y_call F rfl rfl ent24) (fun u hu => (w_nUnits ex27 (hu.pm 24 [20,0,1,2,3,4,5,6,7,8,9,10,11,12,13,14,15,16,17,18,19,20,21,22,23] rfl:)).mono fun e u2 he => by obtain ⟨v, rfl, rfl, H⟩ := he; exact ⟨rfl, H⟩) fun a F => ?_
 refine qbk [0,0,0,23000,0,0,0,0] F rfl ⟨fld27_0, rfl, plain24, ⟨_, Tryz.underlying24⟩, trivial⟩ fun a F => ?_
 replace F := F.bF 55 hg32 rfl
 refine qb (List.replicate 10 0) F rfl fun a F => ?_
 refine q_nil fun w H => ?_
 refine ct (wr ?_)
 cases hm
 refine x_ret1 F rfl rfl ?_
 exact ⟨_, rfl, rfl, (H.pm 24 [] rfl:)⟩
theorem agz31 : AggT Tryz.prog 31 6 ([.int .i64 (0), .string (txb ([])), .string (txb ([])), .int .i64 (0), .int .i64 (0), .slice none (([] : List UInt8)).length 0]) := ⟨by rw [Tryz.underlying31]; rfl, by kernel_rfl, by kernel_rfl⟩
theorem w_lTwice {s : T_api_State} {name : List UInt8} {cs1 : List Value} {w0 w : World} {l : List HP}  {r : Bool} (hm : lTwice s name = some r) (H : St w0 w (HP.rc R_api_State cs1 s :: l)) :
  Calls Tryz.prog 8 [.agg cs1.toArray, .string (txb (name))].toArray w (fun e w' => ∃ v, e = .returned v ∧ v = .bool (r) ∧ St w0 w' (l)) := by
 unfold lTwice at hm
 refine x_enter Tryz.func8 rfl rfl rfl ?_
 intro a F
 refine sr (s_boxA wkP F rfl rfl rfl rfl rfl H fun b2 w a H F => ?_)
 refine bb [0] F H rfl fun a F => ?_
 replace H := H.nf 2 rfl
 refine nl (sq (sr ?_))
 obtain ⟨x3, ex3, hm⟩ := ob hm
 refine sd F rfl ent13 (w_lSpeaks ex3 H:) ?_; rintro _ w a ⟨rfl, H⟩ F
 refine bb [0] F H rfl fun a F => ?_
 replace H := H.nf 2 rfl
 refine nl (cB F rfl (fun hg4 => ?_) (fun hg4 => ?_))
 replace hm := ifT hg4 hm
 refine sb [0] F H rfl fun a F => ?_
 refine nl (wr (tr ?_))
 cases hm
 refine x_ret1 F rfl rfl ?_
 exact ⟨_, rfl, rfl, (H.pm 2 [] rfl:)⟩
 replace hm := ifF (nT hg4) hm
 refine sk (ct (sq (sr (bk [999] F H rfl ⟨rfl, (aggn agg27 (H.rcLen 1 rfl)), trivial⟩ fun a F => ?_))))
 obtain ⟨x5, ex5, hm⟩ := ob hm
 refine sd F rfl ent18 (w_rGreatS ex5 (H.pm 2 [1,0,1] rfl:):) ?_; rintro _ w a ⟨rfl, H⟩ F
 refine bb [0] F H rfl fun a F => ?_
 by_cases hg6 : x5 = true
 replace hm := ifT hg6 hm
 replace F := F.vT 14 hg6 rfl
 refine bb (List.replicate 9 0) F H rfl fun a F => ?_
 replace H := H.nf 2 rfl
 refine nl (cT F rfl ?_)
 refine sb [0] F H rfl fun a F => ?_
 refine nl (wr (tr ?_))
 cases hm
 refine x_ret1 F rfl rfl ?_
 exact ⟨_, rfl, rfl, (H.pm 2 [] rfl:)⟩
 replace hm := ifF hg6 hm
 replace F := F.vF 14 hg6 rfl
 refine bb [0] F H rfl fun a F => ?_
 refine g_onP F rfl rfl rfl rfl ?_
 refine sv F rfl (y_lenT (l := name) F rfl Tryz.underlying9 rfl) fun a F => ?_
 refine bb [0,0,0] F H rfl fun a F => ?_
 rcases spP 19 F rfl hm with ⟨hg7, hm, F⟩ | ⟨hg7, hm, F⟩
 refine bb [0,0,0,0] F H rfl fun a F => ?_
 replace H := H.nf 2 rfl
 refine nl (cT F rfl ?_)
 refine sb [0] F H rfl fun a F => ?_
 refine nl (wr (tr ?_))
 cases hm
 refine x_ret1 F rfl rfl ?_
 exact ⟨_, rfl, rfl, (H.pm 2 [] rfl:)⟩
 refine bk [999] F H rfl ⟨rfl, (aggn agg27 (H.rcLen 1 rfl)), trivial⟩ fun a F => ?_
 refine g_onP F rfl rfl rfl rfl ?_
 obtain ⟨x8, ex8, hm⟩ := ob hm
 refine sd F rfl ent23 (w_nCheck ex8 (H.pm 2 [1,0,1] rfl:):) ?_; rintro _ w a ⟨rfl, H⟩ F
 refine bb [0,0] F H rfl fun a F => ?_
 replace H := H.nf 2 rfl
 refine nl (cNm F rfl hm (fun hg9 hm => ?_) (fun hg9 hm => ?_))
 refine sb [0] F H rfl fun a F => ?_
 refine nl (wr (tr ?_))
 cases hm
 refine x_ret1 F rfl rfl ?_
 exact ⟨_, rfl, rfl, (H.pm 2 [] rfl:)⟩
 refine sk (ct (sb [0] F H rfl fun a F => ?_))
 replace H := H.owNil rByte 5
 refine sv F rfl (y_build F rfl rfl (cs := [.int .i64 (12), .string (txb (name)), .string (txb ([])), .int .i64 (0), .int .i64 (0), .slice none (([] : List UInt8)).length 0]) (by kernel_rfl)) fun a F => ?_
 replace H := H.owNil rByte 5
 refine s_allocA wkP F rfl rfl rfl agz31 rfl H fun b10 w a H F => ?_
 refine s_storeA wkP F rfl rfl agg31 rfl rfl rfl H 0 rfl rfl rfl (fl rfl) fun w H => ?_
 replace H := H.nf 5 rfl
 refine nl (sr (bk [3999,999] F H rfl ⟨rfl, (aggn agg27 (H.rcLen 4 rfl)), rfl, (aggn agg31 rfl), trivial⟩ fun a F => ?_))
 replace H := H.frz 2 rfl
 replace H := H.mkRc (R := R_api_Op) (cs := [.int .i64 (12), .string (txb (name)), .string (txb ([])), .int .i64 (0), .int .i64 (0), .slice none (([] : List UInt8)).length 0]) (x := (12, name, [], 0, 0, ([] : List UInt8))) (fun gg => ⟨_, _, rfl, rfl, ⟨_, _, rfl, rfl, ⟨_, _, rfl, rfl, ⟨_, _, rfl, rfl, ⟨_, _, rfl, rfl, ⟨_, _, rfl, (gg 0 _ rfl).choose_spec⟩⟩⟩⟩⟩⟩)
 obtain ⟨x11, ex11, hm⟩ := ob hm
 refine sd F rfl ent15 (w_nDo ex11 (H.pm 6 [5,0,0,1,2,3,4,5] rfl:):) ?_; rintro _ w a ⟨cs12, cs13, rfl, H⟩ F
 refine bb [0,0,0] F H rfl fun a F => ?_
 replace H := H.owNil R_api_Pair 103
 replace H := H.owNil R_api_Snap 41
 refine s_allocA wkP F rfl rfl rfl agz27 rfl H fun b14 w a H F => ?_
 replace H := H.owNil rByte 5
 replace H := H.owNil rStr 9
 refine s_allocA wkP F rfl rfl rfl agz35 rfl H fun b15 w a H F => ?_
 refine s_storeA wkP F rfl rfl agg27 rfl rfl rfl H 3 rfl (H.rcLen 6 rfl) rfl (H.rcFlat 6 rfl) fun w H => ?_
 refine s_storeA wkP F rfl rfl agg35 rfl rfl rfl H 0 rfl (H.rcLen 7 rfl) rfl (H.rcFlat 7 rfl) fun w H => ?_
 replace H := H.nf 14 rfl
 refine nl (sr (bk [3999,10999] F H rfl ⟨rfl, (aggn agg27 (H.rcLen 6 rfl)), rfl, (aggn agg31 rfl), trivial⟩ fun a F => ?_))
 replace H := H.mkRc (R := R_api_Op) (cs := [.int .i64 (12), .string (txb (name)), .string (txb ([])), .int .i64 (0), .int .i64 (0), .slice none (([] : List UInt8)).length 0]) (x := (12, name, [], 0, 0, ([] : List UInt8))) (fun gg => ⟨_, _, rfl, rfl, ⟨_, _, rfl, rfl, ⟨_, _, rfl, rfl, ⟨_, _, rfl, rfl, ⟨_, _, rfl, rfl, ⟨_, _, rfl, (gg 9 _ rfl).choose_spec⟩⟩⟩⟩⟩⟩)
 obtain ⟨x16, ex16, hm⟩ := ob hm
 refine sd F rfl ent15 (w_nDo ex16 (H.pm 15 [7,0,0,1,2,3,4,5,6,7,8,9,10,11,12,13,14] rfl:):) ?_; rintro _ w a ⟨cs17, cs18, rfl, H⟩ F
 refine bb [0,0,0] F H rfl fun a F => ?_
 replace H := H.owNil R_api_Pair 103
 replace H := H.owNil R_api_Snap 41
 refine s_allocA wkP F rfl rfl rfl agz27 rfl H fun b19 w a H F => ?_
 replace H := H.owNil rByte 5
 replace H := H.owNil rStr 9
 refine s_allocA wkP F rfl rfl rfl agz35 rfl H fun b20 w a H F => ?_
 refine s_storeA wkP F rfl rfl agg27 rfl rfl rfl H 3 rfl (H.rcLen 6 rfl) rfl (H.rcFlat 6 rfl) fun w H => ?_
 refine s_storeA wkP F rfl rfl agg35 rfl rfl rfl H 0 rfl (H.rcLen 7 rfl) rfl (H.rcFlat 7 rfl) fun w H => ?_
 replace H := H.nf 23 rfl
 refine nl (sr (bk [0] F H rfl ⟨fld35_0, trivial⟩ fun a F => ?_))
 have G := F; replace H := rc_api_Answer (H.pk 16 rfl); obtain ⟨p21, c22, p23, c24, rfl, H⟩ := H; have F := G; clear G
 refine bk [11000,0] F H rfl ⟨rfl, plain32, fld35_0, trivial⟩ fun a F => ?_
 have G := F; replace H := rc_api_Answer (H.pk 9 rfl); obtain ⟨p25, c26, p27, c28, rfl, H⟩ := H; have F := G; clear G
 refine bk [4000,0,0] F H rfl ⟨rfl, plain32, trivial⟩ fun a F => ?_
 rcases spP 43 F rfl hm with ⟨hg29, hm, F⟩ | ⟨hg29, hm, F⟩
 refine bk [15999,7999] F H rfl ⟨rfl, (aggn agg27 (H.rcLen 18 rfl)), rfl, (aggn agg27 (H.rcLen 10 rfl)), trivial⟩ fun a F => ?_
 refine g_onP F rfl rfl rfl rfl ?_
 obtain ⟨x30, ex30, hm⟩ := ob hm
 refine sd F rfl ent27 (w_rSameS ex30 (H.pm 25 [18,10,0,1,2,3,4,5,6,7,8,9,10,11,12,13,14,15,16,17,18,19,20,21,22,23,24] rfl:):) ?_; rintro _ w a ⟨rfl, H⟩ F
 refine bb [0,0] F H rfl fun a F => ?_
 by_cases hg31 : x30 = true
 replace hm := ifT hg31 hm
 replace F := F.vT 48 hg31 rfl
 refine bk [1] F H rfl ⟨fld27_1, trivial⟩ fun a F => ?_
 refine g_onP F rfl rfl rfl rfl ?_
 have G := F; replace H := rc_api_State (H.pk 18 rfl); obtain ⟨p32, c33, p34, c35, rfl, H⟩ := H; have F := G; clear G
 refine bk [17001,0,1] F H rfl ⟨rfl, plain25, ⟨_, Tryz.underlying25⟩, fld27_1, trivial⟩ fun a F => ?_
 refine g_onP F rfl rfl rfl rfl ?_
 have G := F; replace H := rc_api_State (H.pk 25 rfl); obtain ⟨p36, c37, p38, c39, rfl, H⟩ := H; have F := G; clear G
 refine bk [26001,0,0,0,0] F H rfl ⟨rfl, plain25, ⟨_, Tryz.underlying25⟩, trivial⟩ fun a F => ?_
 replace H := H.nf 27 rfl
 refine nl (wr ?_)
 cases hm
 refine x_ret1 F rfl rfl ?_
 exact ⟨_, rfl, rfl, (H.pm 27 [] rfl:)⟩
 replace hm := ifF hg31 hm
 replace F := F.vF 48 hg31 rfl
 refine bb (List.replicate 9 0) F H rfl fun a F => ?_
 replace H := H.nf 25 rfl
 refine nl (wr ?_)
 cases hm
 refine x_ret1 F rfl rfl ?_
 exact ⟨_, rfl, rfl, (H.pm 25 [] rfl:)⟩
 refine bb (List.replicate 14 0) F H rfl fun a F => ?_
 refine nl (wr ?_)
 cases hm
 refine x_ret1 F rfl rfl ?_
 exact ⟨_, rfl, rfl, (H.pm 25 [] rfl:)⟩
theorem w_lLists {s : T_api_State} {cs1 : List Value} {w0 w : World} {l : List HP}  {r : Bool} (hm : lLists s = some r) (H : St w0 w (HP.rc R_api_State cs1 s :: l)) :
  Calls Tryz.prog 9 [.agg cs1.toArray].toArray w (fun e w' => ∃ v, e = .returned v ∧ v = .bool (r) ∧ St w0 w' (l)) := by
 unfold lLists at hm
 refine x_enter Tryz.func9 rfl rfl rfl ?_
 intro a F
 refine sr (s_boxA wkP F rfl rfl rfl rfl rfl H fun b2 w a H F => ?_)
 refine bb [0] F H rfl fun a F => ?_
 replace H := H.nf 2 rfl
 refine nl (sq (sr ?_))
 obtain ⟨x3, ex3, hm⟩ := ob hm
 refine sd F rfl ent13 (w_lSpeaks ex3 H:) ?_; rintro _ w a ⟨rfl, H⟩ F
 refine bb [0] F H rfl fun a F => ?_
 replace H := H.nf 2 rfl
 refine nl (cB F rfl (fun hg4 => ?_) (fun hg4 => ?_))
 replace hm := ifT hg4 hm
 refine sb [0] F H rfl fun a F => ?_
 refine nl (wr (tr ?_))
 cases hm
 refine x_ret1 F rfl rfl ?_
 exact ⟨_, rfl, rfl, (H.pm 2 [] rfl:)⟩
 replace hm := ifF (nT hg4) hm
 refine sk (ct (sq (sr (bk [999] F H rfl ⟨rfl, (aggn agg27 (H.rcLen 1 rfl)), trivial⟩ fun a F => ?_))))
 obtain ⟨x5, ex5, hm⟩ := ob hm
 refine sd F rfl ent18 (w_rGreatS ex5 (H.pm 2 [1,0,1] rfl:):) ?_; rintro _ w a ⟨rfl, H⟩ F
 refine bb [0] F H rfl fun a F => ?_
 by_cases hg6 : x5 = true
 replace hm := ifT hg6 hm
 replace F := F.vT 14 hg6 rfl
 refine bb [0,0,0,0] F H rfl fun a F => ?_
 replace H := H.nf 2 rfl
 refine nl (cT F rfl ?_)
 refine sb [0] F H rfl fun a F => ?_
 refine nl (wr (tr ?_))
 cases hm
 refine x_ret1 F rfl rfl ?_
 exact ⟨_, rfl, rfl, (H.pm 2 [] rfl:)⟩
 replace hm := ifF hg6 hm
 replace F := F.vF 14 hg6 rfl
 refine bk [999] F H rfl ⟨rfl, (aggn agg27 (H.rcLen 1 rfl)), trivial⟩ fun a F => ?_
 refine g_onP F rfl rfl rfl rfl ?_
 obtain ⟨x7, ex7, hm⟩ := ob hm
 refine sd F rfl ent23 (w_nCheck ex7 (H.pm 2 [1,0,1] rfl:):) ?_; rintro _ w a ⟨rfl, H⟩ F
 refine bb [0,0] F H rfl fun a F => ?_
 replace H := H.nf 2 rfl
 refine nl (cNm F rfl hm (fun hg8 hm => ?_) (fun hg8 hm => ?_))
 refine sb [0] F H rfl fun a F => ?_
 refine nl (wr (tr ?_))
 cases hm
 refine x_ret1 F rfl rfl ?_
 exact ⟨_, rfl, rfl, (H.pm 2 [] rfl:)⟩
 refine sk (ct (sr (s_build0O (R := rStr) wkP F rfl rfl rfl elem33 rfl H fun b9 w a H F => ?_)))
 refine bb [0,0] F H rfl fun a F => ?_
 replace H := H.nf 3 rfl
 refine nl (sq (sb [0] F H rfl fun a F => ?_))
 refine nl (xr3 3 [1] [] F H hm rfl rfl (fun r92 (cs93 : List Value) (p94 : Option Addr) (c94 : Nat) z => (4, .slice p94 (r92.2).length c94) :: z) (fun r92 cs93 p94 c94 z => HP.blk b2 (cs93) 27 :: HP.rc R_api_State cs93 r92.1 :: HP.ow rStr 9 p94 c94 r92.2 :: z) (fun o92 hm hm92 => ?_) (fun r92 a w hm cs93 p94 c94 F H => ?_))
 refine bl ?_
 refine xl3 3 [1] [] F H hm rfl rfl (fun (s149 : T_api_State × (List UInt8) × (List (List UInt8)) × Int) (cs150 : List Value) (p151 : Option Addr) (c151 : Nat) z => (3, .string (txb (s149.2.1))) :: (4, .slice p151 (s149.2.2.1).length c151) :: (5, .int .i64 (s149.2.2.2)) :: z) (fun s149 cs150 p151 c151 z => HP.blk b2 (cs150) 27 :: HP.rc R_api_State cs150 s149.1 :: HP.ow rStr 9 p151 c151 s149.2.2.1 :: z) ⟨cs1, (some ⟨b9,0, none⟩),0, F.sl rfl, (H.pm 3 [1,2,0] rfl:)⟩ (fun s149 a w o cs150 p151 c151 F H hm => ?_)
 refine sq (sb [0,0] F H rfl fun a F => ?_)
 refine nl (cPm F rfl hm (fun hg152 hm => ?_) (fun hg152 hm => ?_))
 refine sk (ct (sq (bl (sr (bk [999,0] F H rfl ⟨rfl, (aggn agg27 (H.rcLen 1 rfl)), trivial⟩ fun a F => ?_)))))
 replace H := H.owNil rByte 5
 refine sv F rfl (y_build F rfl rfl (cs := [.int .i64 (13), .string (txb ([])), .string (txb (s149.2.1)), .int .i64 (0), .int .i64 (0), .slice none (([] : List UInt8)).length 0]) (by kernel_rfl)) fun a F => ?_
 replace H := H.frz 0 rfl
 replace H := H.mkRc (R := R_api_Op) (cs := [.int .i64 (13), .string (txb ([])), .string (txb (s149.2.1)), .int .i64 (0), .int .i64 (0), .slice none (([] : List UInt8)).length 0]) (x := (13, [], s149.2.1, 0, 0, ([] : List UInt8))) (fun gg => ⟨_, _, rfl, rfl, ⟨_, _, rfl, rfl, ⟨_, _, rfl, rfl, ⟨_, _, rfl, rfl, ⟨_, _, rfl, rfl, ⟨_, _, rfl, (gg 0 _ rfl).choose_spec⟩⟩⟩⟩⟩⟩)
 obtain ⟨x153, ex153, hm⟩ := ob hm
 refine sd F rfl ent15 (w_nDo ex153 (H.pm 5 [3,0,0,1,2,3,4] rfl:):) ?_; rintro _ w a ⟨cs154, cs155, rfl, H⟩ F
 refine bb [0,0,0] F H rfl fun a F => ?_
 replace H := H.owNil R_api_Pair 103
 replace H := H.owNil R_api_Snap 41
 refine s_allocA wkP F rfl rfl rfl agz27 rfl H fun b156 w a H F => ?_
 replace H := H.owNil rByte 5
 replace H := H.owNil rStr 9
 refine s_allocA wkP F rfl rfl rfl agz35 rfl H fun b157 w a H F => ?_
 refine s_storeA wkP F rfl rfl agg27 rfl rfl rfl H 3 rfl (H.rcLen 6 rfl) rfl (H.rcFlat 6 rfl) fun w H => ?_
 refine s_storeA wkP F rfl rfl agg35 rfl rfl rfl H 0 rfl (H.rcLen 7 rfl) rfl (H.rcFlat 7 rfl) fun w H => ?_
 replace H := H.nf 13 rfl
 refine nl (sq (sr (bk [0] F H rfl ⟨fld35_0, trivial⟩ fun a F => ?_)))
 have G := F; replace H := rc_api_Answer (H.pk 7 rfl); obtain ⟨p158, c159, p160, c161, rfl, H⟩ := H; have F := G; clear G
 refine bk [2000,0,0] F H rfl ⟨rfl, plain32, trivial⟩ fun a F => ?_
 rcases spN 34 F rfl hm with ⟨hg162, hm, F⟩ | ⟨hg162, hm, F⟩
 refine bk [1,2001,1] F H rfl ⟨fld35_1, rfl, plain3, fld27_1, trivial⟩ fun a F => ?_
 refine g_onP F rfl rfl rfl rfl ?_
 have G := F; replace H := rc_api_State (H.pk 12 rfl); obtain ⟨p163, c164, p165, c166, rfl, H⟩ := H; have F := G; clear G
 refine bk [13001,0,0,0,0] F H rfl ⟨rfl, plain25, ⟨_, Tryz.underlying25⟩, trivial⟩ fun a F => ?_
 rcases spN 42 F rfl hm with ⟨hg167, hm, F⟩ | ⟨hg167, hm, F⟩
 refine bk [3,4003,0,0,0,0] F H rfl ⟨fld35_3, rfl, plain33, ⟨_, Tryz.underlying33⟩, trivial⟩ fun a F => ?_
 rcases spP 48 F rfl hm with ⟨hg168, hm, F⟩ | ⟨hg168, hm, F⟩
 refine bb (List.replicate 5 0) F H rfl fun a F => ?_
 refine nl (cT F rfl ?_)
 refine sb [0] F H rfl fun a F => ?_
 refine nl (wr (tr (br (tr (tr ?_))))); cases hm; refine ⟨_, rfl, ?_⟩; rintro rfl
 refine br (tr ?_)
 replace hm := elimR hm92
 refine tr ?_
 cases hm
 refine x_ret1 F rfl rfl ?_
 exact ⟨_, rfl, rfl, (H.pm 15 [] rfl:)⟩
 refine bk [7999,13999] F H rfl ⟨rfl, (aggn agg27 (H.rcLen 10 rfl)), rfl, (aggn agg27 rfl), trivial⟩ fun a F => ?_
 refine g_onP F rfl rfl rfl rfl ?_
 replace H := H.mkRc (R := R_api_State) (cs := [.slice p163 (s149.1.1).length c164, .slice p165 (s149.1.2).length c166]) (x := (s149.1.1, s149.1.2)) (fun gg => ⟨_, _, rfl, ⟨_, _, rfl, (gg 0 _ rfl).choose_spec⟩, ⟨_, _, rfl, (gg 1 _ rfl).choose_spec⟩⟩)
 obtain ⟨x169, ex169, hm⟩ := ob hm
 refine sd F rfl ent27 (w_rSameS ex169 (H.pm 16 [11,0,0,1,2,3,4,5,6,7,8,9,10,11,12,13,14,15] rfl:):) ?_; rintro _ w a ⟨rfl, H⟩ F
 refine bb [0,0] F H rfl fun a F => ?_
 replace H := H.nf 16 rfl
 refine nl (cB F rfl (fun hg170 => ?_) (fun hg170 => ?_))
 replace hm := ifT hg170 hm
 refine sb [0] F H rfl fun a F => ?_
 refine nl (wr (tr (br (tr (tr ?_))))); cases hm; refine ⟨_, rfl, ?_⟩; rintro rfl
 refine br (tr ?_)
 replace hm := elimR hm92
 refine tr ?_
 cases hm
 refine x_ret1 F rfl rfl ?_
 exact ⟨_, rfl, rfl, (H.pm 16 [] rfl:)⟩
 replace hm := ifF (nT hg170) hm
 refine sk (ct (sq (sr (bk [3,5003,0,0] F H rfl ⟨fld35_3, rfl, plain33, ⟨_, Tryz.underlying33⟩, trivial⟩ fun a F => ?_))))
 refine nl (cPm F rfl hm (fun hg171 hm => ?_) (fun hg171 hm => ?_))
 refine ex (cx (cm rfl (cx (cx ?_)))); cases hm; refine ⟨_, rfl, ?_⟩; rintro rfl
 refine ch (ct ?_)
 replace H := H.mkRc (R := R_api_State) (cs := [.slice p163 (s149.1.1).length c164, .slice p165 (s149.1.2).length c166]) (x := (s149.1.1, s149.1.2)) (fun gg => ⟨_, _, rfl, ⟨_, _, rfl, (gg 1 _ rfl).choose_spec⟩, ⟨_, _, rfl, (gg 2 _ rfl).choose_spec⟩⟩)
 exact ⟨_, rfl, [.slice p163 (s149.1.1).length c164, .slice p165 (s149.1.2).length c166], p151, c151, F.sl rfl, (H.pm 17 [15,0,16] rfl:)⟩
 refine sk (ct (sr (bk [0,3,5003] F H rfl ⟨fld35_3, rfl, plain33, trivial⟩ fun a F => ?_)))
 obtain ⟨x173, ex173, hm⟩ := ob hm
 refine s_app wkP F rfl rfl rfl rfl rfl rfl elem33 rfl ex173 H 15 4 rfl rfl fun p172 c172 w a H F => ?_
 refine bb [0] F H rfl fun a F => ?_
 replace H := H.nf 16 rfl
 refine nl (rl (bk [3,5003,3,5003,0,0] F H rfl ⟨fld35_3, rfl, plain33, fld35_3, rfl, plain33, ⟨_, Tryz.underlying33⟩, trivial⟩ fun a F => ?_))
 obtain ⟨x174, ex174, hm⟩ := ob hm
 obtain ⟨b175, o175, hp175⟩ := H.slP 4 rfl (idxO_some ex174).2
 obtain ⟨cs176, hcl176, H⟩ := H.slEl 4 rfl hp175 (idxO_some ex174).2
 obtain rfl := H.rcStr 1 rfl
 replace H := H.dp 1 rfl
 clear hcl176
 refine sv F rfl (y_idxS F elem33 rfl rfl rfl hp175 ex174) fun a F => ?_
 refine bk [0,0] F H rfl ⟨rfl, plain9, trivial⟩ fun a F => ?_
 refine lz (bn (ct (rl (bb [0,0,0] F H rfl fun a F => ?_))))
 refine lz (ct ?_); cases hm
 replace H := H.mkRc (R := R_api_State) (cs := [.slice p163 (s149.1.1).length c164, .slice p165 (s149.1.2).length c166]) (x := (s149.1.1, s149.1.2)) (fun gg => ⟨_, _, rfl, ⟨_, _, rfl, (gg 2 _ rfl).choose_spec⟩, ⟨_, _, rfl, (gg 3 _ rfl).choose_spec⟩⟩)
 exact ⟨_, rfl, ⟨[.slice p163 (s149.1.1).length c164, .slice p165 (s149.1.2).length c166], p172, c172, F.sl rfl, (H.pm 18 [16,0,17] rfl:)⟩⟩
 refine bb (List.replicate 11 0) F H rfl fun a F => ?_
 refine nl (cT F rfl ?_)
 refine sb [0] F H rfl fun a F => ?_
 refine nl (wr (tr (br (tr (tr ?_))))); cases hm; refine ⟨_, rfl, ?_⟩; rintro rfl
 refine br (tr ?_)
 replace hm := elimR hm92
 refine tr ?_
 cases hm
 refine x_ret1 F rfl rfl ?_
 exact ⟨_, rfl, rfl, (H.pm 15 [] rfl:)⟩
 refine bb (List.replicate 19 0) F H rfl fun a F => ?_
 refine nl (cT F rfl ?_)
 refine sb [0] F H rfl fun a F => ?_
 refine nl (wr (tr (br (tr (tr ?_))))); cases hm; refine ⟨_, rfl, ?_⟩; rintro rfl
 refine br (tr ?_)
 replace hm := elimR hm92
 refine tr ?_
 cases hm
 refine x_ret1 F rfl rfl ?_
 exact ⟨_, rfl, rfl, (H.pm 14 [] rfl:)⟩
 refine ex (cx (cx ?_)); cases hm; refine ⟨_, rfl, ?_⟩; rintro rfl
 refine ch (ct ?_)
 exact ⟨_, rfl, cs150, p151, c151, F.sl rfl, H⟩
 refine ct (sq (sr (bk [0,0,1] F H rfl ⟨⟨_, Tryz.underlying33⟩, fld27_1, trivial⟩ fun a F => ?_)))
 have G := F; replace H := rc_api_State (H.pk 1 rfl); obtain ⟨p177, c178, p179, c180, rfl, H⟩ := H; have F := G; clear G
 refine bk [2001,0,0] F H rfl ⟨rfl, plain25, ⟨_, Tryz.underlying25⟩, trivial⟩ fun a F => ?_
 refine nl (cNm F rfl hm (fun hg181 hm => ?_) (fun hg181 hm => ?_))
 refine sb [0] F H rfl fun a F => ?_
 refine nl (wr (tr ?_))
 cases hm
 refine x_ret1 F rfl rfl ?_
 exact ⟨_, rfl, rfl, (H.pm 4 [] rfl:)⟩
 refine sk (ct (sq (sr (bk [1,2001,0,0] F H rfl ⟨fld27_1, rfl, plain25, ⟨_, Tryz.underlying25⟩, trivial⟩ fun a F => ?_))))
 refine nl (xr0 4 [] [0,1,2,3] F H hm rfl rfl (fun r216 z => z) (fun r216 z => z) (fun o216 hm hm216 => ?_) (fun r216 a w hm F H => ?_))
 refine bl (xl0 4 [4,77,78] [0,1,2,3] F H hm rfl rfl (fun (s239 : Int) z => (79, .int .i64 (s239)) :: z) (fun s239 z => z) ⟨F.sl rfl, H⟩ (fun s239 a w o F H hm => ?_))
 refine sb [0] F H rfl fun a F => ?_
 refine nl (sq (cPm F rfl hm (fun hg240 hm => ?_) (fun hg240 hm => ?_)))
 refine sk (ct (sq (bl (sb [0] F H rfl fun a F => ?_))))
 obtain ⟨x241, ex241, hm⟩ := ob hm
 obtain ⟨b242, o242, hp242⟩ := H.slP 1 rfl (idxO_some ex241).2
 obtain ⟨cs243, hcl243, H⟩ := H.slEl 1 rfl hp242 (idxO_some ex241).2
 clear hcl243
 refine sv F rfl (y_idxS F elem25 rfl rfl rfl hp242 ex241) fun a F => ?_
 refine bk [999] F H rfl ⟨rfl, (aggn agg41 (H.rcLen 1 rfl)), trivial⟩ fun a F => ?_
 replace H := H.owNil R_api_Pair 103
 refine s_allocA wkP F rfl rfl rfl agz41 rfl H fun b244 w a H F => ?_
 refine bb [0] F H rfl fun a F => ?_
 refine s_storeA wkP F rfl rfl agg41 rfl rfl rfl H 0 rfl (H.rcLen 3 rfl) rfl (H.rcFlat 3 rfl) fun w H => ?_
 replace H := H.nf 8 rfl
 refine nl (sq ?_)
 obtain ⟨x245, ex245, hm⟩ := ob hm
 obtain ⟨b246, hp246⟩ := H.owP 7 rfl (idxO_some ex245).2
 have G := F; replace H := rc_api_Snap (H.pk 3 rfl); obtain ⟨p248, c249, rfl, H⟩ := H; have F := G; clear G
 refine qr H (by kernel_rfl) (by kernel_rfl) ?_
 refine qb [0,0] F rfl fun a F => ?_
 refine qv F rfl (fun u hu => y_idxS F elem33 rfl rfl rfl hp246 ex245) fun a F => ?_
 refine qv F rfl (fun u hu => y_load1 F plain9 rfl rfl (hu.owStr 7 rfl hp246 ex245)) fun a F => ?_
 refine qbk [0,1000] F rfl ⟨fld41_0, rfl, plain9, trivial⟩ fun a F => ?_
 refine qv F rfl (fun u hu => y_neT (l := x245) (m := x241.1) F rfl rfl rfl) fun a F => ?_
 refine q_nil fun w H => ?_
 refine ct (cNm F rfl hm (fun hg250 hm => ?_) (fun hg250 hm => ?_))
 refine sb [0] F H rfl fun a F => ?_
 refine nl (wr (br (tr (tr ?_)))); cases hm; refine ⟨_, rfl, ?_⟩; rintro rfl
 refine br (tr ?_)
 replace hm := elimR hm216
 refine tr ?_
 cases hm
 refine x_ret1 F rfl rfl ?_
 exact ⟨_, rfl, rfl, (H.pm 8 [] rfl:)⟩
 refine sk (bn (ct (rl (bb [0,0] F H rfl fun a F => ?_))))
 refine lz (ct ?_); cases hm
 exact ⟨_, rfl, ⟨F.sl rfl, (H.pm 8 [4,5,6,7] rfl:)⟩⟩
 refine ex (cx (cx ?_)); cases hm; refine ⟨_, rfl, ?_⟩; rintro rfl
 refine ch (ct ?_)
 exact ⟨_, rfl, F.cut _ trivial, H⟩
 refine ct (sb [0] F H rfl fun a F => ?_)
 refine nl (wr ?_)
 cases hm
 refine x_ret1 F rfl rfl ?_
 exact ⟨_, rfl, rfl, (H.pm 4 [] rfl:)⟩
end Go.Proofs.YtnagibpmfabkjaaGreatDoor
