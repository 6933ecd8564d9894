/- the document -/
import Derived.Test.YtnjemlkcamdbfaaGreatDoorShapeA
set_option linter.unusedSimpArgs false
set_option linter.unusedVariables false
namespace Go.Proofs.YtnjemlkcamdbfaaGreatDoor
open Go.RowKit Go.Tri
set_option maxRecDepth 100000
set_option maxHeartbeats 4000000
theorem ent30 : En Tryz.prog 30 := enters Tryz.func30 (by kernel_rfl) rfl
theorem w_m_triremeref07_Right {x0_ : T_api_Node} {cs1 : List Value} {w0 w : World} {l : List HP}  {r : Bool} (hm : m_triremeref07_Right x0_ = some r) (H : St w0 w (HP.rc R_api_Node cs1 x0_ :: l)) :
  Calls Tryz.prog 61 [.agg cs1.toArray].toArray w (fun e w' => ∃ v, e = .returned v ∧ v = .bool (r) ∧ St w0 w' (l)) := by
 unfold m_triremeref07_Right at hm
 refine x_enter Tryz.func61 rfl rfl rfl ?_
 intro a F
 refine sr (s_boxA wkP F rfl rfl rfl rfl rfl H fun b2 w a H F => ?_)
 refine bb [0] F H rfl fun a F => ?_
 replace H := H.nf 2 rfl
 refine nl (sq (sr (bk [0] F H rfl ⟨fld84_0, trivial⟩ fun a F => ?_)))
 have G := F; replace H := rc_api_Node (H.pk 1 rfl); obtain ⟨p3, c4, p5, c6, rfl, J⟩ := H; have H := J; have F := G; clear G J
 refine bk [2000,0,0] F H rfl ⟨rfl, plain3, trivial⟩ fun a F => ?_
 rcases spP 7 F rfl hm with ⟨hg7, hm, F⟩ | ⟨hg7, hm, F⟩
 refine bb [0,0,0,0] F H rfl fun a F => ?_
 refine nl (cT F rfl ?_)
 refine sb [0] F H rfl fun a F => ?_
 refine nl (wr (tr ?_))
 cases hm
 refine x_ret1 F rfl rfl ?_
 exact ⟨_, rfl, rfl, (H.pm 3 [] rfl:)⟩
 refine bk [0,2000,0,0] F H rfl ⟨fld84_0, rfl, plain3, trivial⟩ fun a F => ?_
 refine nl (cPm F rfl hm (fun hg8 hm => ?_) (fun hg8 hm => ?_))
 refine sb [0] F H rfl fun a F => ?_
 refine nl (wr (tr ?_))
 cases hm
 refine x_ret1 F rfl rfl ?_
 exact ⟨_, rfl, rfl, (H.pm 3 [] rfl:)⟩
 refine sk (ct (sq (sr (bk [0,2000,0] F H rfl ⟨fld84_0, rfl, plain3, trivial⟩ fun a F => ?_))))
 refine nl (cPm F rfl hm (fun hg9 hm => ?_) (fun hg9 hm => ?_))
 refine sr (bk [2,2002,0,0,0] F H rfl ⟨fld84_2, rfl, plain76, ⟨_, Tryz.underlying76⟩, trivial⟩ fun a F => ?_)
 rcases spP 19 F rfl hm with ⟨hg10, hm, F⟩ | ⟨hg10, hm, F⟩
 refine bk [1,2001,0,0,0,0] F H rfl ⟨fld84_1, rfl, plain32, ⟨_, Tryz.underlying32⟩, trivial⟩ fun a F => ?_
 rcases spP 25 F rfl hm with ⟨hg11, hm, F⟩ | ⟨hg11, hm, F⟩
 refine bk [1,2001] F H rfl ⟨fld84_1, rfl, plain32, trivial⟩ fun a F => ?_
 refine g_onP F rfl rfl rfl rfl ?_
 obtain ⟨x12, ex12, hm⟩ := ob hm
 refine sd F rfl ent30 (w_m_triremeref06_Rising ex12 (H.pm 3 [0,0,1,2] rfl:):) ?_; rintro _ w a ⟨rfl, H⟩ F
 refine bb [0,0] F H rfl fun a F => ?_
 replace H := H.nf 3 rfl
 refine nl (wr (tr ?_))
 cases hm
 refine x_ret1 F rfl rfl ?_
 exact ⟨_, rfl, rfl, (H.pm 3 [] rfl:)⟩
 refine bb (List.replicate 5 0) F H rfl fun a F => ?_
 refine nl (wr (tr ?_))
 cases hm
 refine x_ret1 F rfl rfl ?_
 exact ⟨_, rfl, rfl, (H.pm 3 [] rfl:)⟩
 refine bb (List.replicate 11 0) F H rfl fun a F => ?_
 refine nl (wr (tr ?_))
 cases hm
 refine x_ret1 F rfl rfl ?_
 exact ⟨_, rfl, rfl, (H.pm 3 [] rfl:)⟩
 refine sk (ct (sq (sr (bk [1,2001,0,0,0] F H rfl ⟨fld84_1, rfl, plain32, ⟨_, Tryz.underlying32⟩, trivial⟩ fun a F => ?_))))
 rcases spP 34 F rfl hm with ⟨hg13, hm, F⟩ | ⟨hg13, hm, F⟩
 refine bb (List.replicate 11 0) F H rfl fun a F => ?_
 refine nl (cT F rfl ?_)
 refine sb [0] F H rfl fun a F => ?_
 refine nl (wr (tr ?_))
 cases hm
 refine x_ret1 F rfl rfl ?_
 exact ⟨_, rfl, rfl, (H.pm 3 [] rfl:)⟩
 refine bk [2,2002,0,0,0,0] F H rfl ⟨fld84_2, rfl, plain76, ⟨_, Tryz.underlying76⟩, trivial⟩ fun a F => ?_
 rcases spP 40 F rfl hm with ⟨hg14, hm, F⟩ | ⟨hg14, hm, F⟩
 refine bb (List.replicate 5 0) F H rfl fun a F => ?_
 refine nl (cT F rfl ?_)
 refine sb [0] F H rfl fun a F => ?_
 refine nl (wr (tr ?_))
 cases hm
 refine x_ret1 F rfl rfl ?_
 exact ⟨_, rfl, rfl, (H.pm 3 [] rfl:)⟩
 refine bk [2,2002,0,0,0] F H rfl ⟨fld84_2, rfl, plain76, ⟨_, Tryz.underlying76⟩, trivial⟩ fun a F => ?_
 refine nl (cPm F rfl hm (fun hg15 hm => ?_) (fun hg15 hm => ?_))
 refine sb [0] F H rfl fun a F => ?_
 refine nl (wr (tr ?_))
 cases hm
 refine x_ret1 F rfl rfl ?_
 exact ⟨_, rfl, rfl, (H.pm 3 [] rfl:)⟩
 refine sk (ct (sq (sb [0] F H rfl fun a F => ?_)))
 refine nl (xr0 3 [] [0,1,2] F H hm rfl rfl (fun r56 z => z) (fun r56 z => z) (fun o56 hm hm56 => ?_) (fun r56 a w hm F H => ?_))
 refine bl (xl0 3 [1] [0,1,2] F H hm rfl rfl (fun (s83 : Int) z => (3, .int .i64 (s83)) :: z) (fun s83 z => z) ⟨F.sl rfl, H⟩ (fun s83 a w o F H hm => ?_))
 refine sq (sr (bk [0,2,2002,0,0] F H rfl ⟨fld84_2, rfl, plain76, ⟨_, Tryz.underlying76⟩, trivial⟩ fun a F => ?_))
 refine nl (cPm F rfl hm (fun hg84 hm => ?_) (fun hg84 hm => ?_))
 refine sk (ct (sq (bl (sq ?_))))
 obtain ⟨x85, ex85, hm⟩ := ob hm
 obtain ⟨b86, o86, hp86, cs87, H⟩ := H.slE 1 rfl ex85
 have G := F; replace H := rc_api_Kid (H.pk 1 rfl); obtain ⟨p88, c89, hl90, rfl, J⟩ := H; have H := J; have F := G; clear G J
 obtain ⟨x91, ex91, hm⟩ := ob hm
 obtain ⟨cs92, H⟩ := H.slF 3 rfl hp86 ex91
 have G := F; replace H := rc_api_Kid (H.pk 1 rfl); obtain ⟨p93, c94, hl95, rfl, J⟩ := H; have H := J; have F := G; clear G J
 refine qr H (by kernel_rfl) (by kernel_rfl) ?_
 refine qbk [2,6002,0,0] F rfl ⟨fld84_2, rfl, plain76, trivial⟩ fun a F => ?_
 refine qv F rfl (fun u hu => y_idxS F elem76 rfl rfl rfl hp86 ex85) fun a F => ?_
 refine qbk [0,3000] F rfl ⟨fld80_0, rfl, plain26, trivial⟩ fun a F => ?_
 refine qv F rfl (fun u hu => y_b2s F Tryz.underlying26 Tryz.underlying9 Tryz.underlying5 rfl rfl (hu) 2 rfl) fun a F => ?_
 refine qbk [2,6002,0] F rfl ⟨fld84_2, rfl, plain76, trivial⟩ fun a F => ?_
 refine qv F rfl (fun u hu => y_idxS F elem76 rfl rfl rfl hp86 ex91) fun a F => ?_
 refine qbk [0,1000] F rfl ⟨fld80_0, rfl, plain26, trivial⟩ fun a F => ?_
 refine qv F rfl (fun u hu => y_b2s F Tryz.underlying26 Tryz.underlying9 Tryz.underlying5 rfl rfl (hu) 0 rfl) fun a F => ?_
 refine qv F rfl (fun u hu => y_geqT (l := x85.1) (m := x91.1) F rfl rfl rfl) fun a F => ?_
 refine q_nil fun w H => ?_
 refine ct (cB F rfl (fun hg96 => ?_) (fun hg96 => ?_))
 replace hm := ifT hg96 hm
 refine sb [0] F H rfl fun a F => ?_
 refine nl (wr (br (tr (tr ?_)))); cases hm; refine ⟨_, rfl, ?_⟩; rintro rfl
 refine br (tr ?_)
 replace hm := elimR hm56
 refine tr ?_
 cases hm
 refine x_ret1 F rfl rfl ?_
 exact ⟨_, rfl, rfl, (H.pm 7 [] rfl:)⟩
 replace hm := ifF (nT hg96) hm
 refine sk (bn (ct (rl (bb [0,0,0] F H rfl fun a F => ?_))))
 refine lz (ct ?_); cases hm
 exact ⟨_, rfl, ⟨F.sl rfl, (H.pm 7 [4,5,6] rfl:)⟩⟩
 refine ex (cx (cx ?_)); cases hm; refine ⟨_, rfl, ?_⟩; rintro rfl
 refine ch (ct ?_)
 exact ⟨_, rfl, F.cut _ trivial, H⟩
 refine ct (sb [0] F H rfl fun a F => ?_)
 refine nl (wr ?_)
 cases hm
 refine x_ret1 F rfl rfl ?_
 exact ⟨_, rfl, rfl, (H.pm 3 [] rfl:)⟩
theorem ent61 : En Tryz.prog 61 := enters Tryz.func61 (by kernel_rfl) rfl
theorem ent65 : En Tryz.prog 65 := enters Tryz.func65 (by kernel_rfl) rfl
theorem w_m_triremeref07_Write {x0_ : T_api_Node} {cs1 : List Value} {w0 w : World} {l : List HP}  {r : (List UInt8) × Int} (hm : m_triremeref07_Write x0_ = some r) (H : St w0 w (HP.rc R_api_Node cs1 x0_ :: l)) :
  Calls Tryz.prog 52 [.agg cs1.toArray].toArray w (fun e w' => ∃ v, e = .returned v ∧ ∃ (p2 : Option Addr) (c2 : Nat), v = .tuple [.slice p2 (r.1).length c2, .int .i64 (r.2)].toArray ∧ St w0 w' (HP.sl rByte p2 c2 r.1 :: l)) := by
 unfold m_triremeref07_Write at hm
 refine x_enter Tryz.func52 rfl rfl rfl ?_
 intro a F
 refine sr (s_boxA wkP F rfl rfl rfl rfl rfl H fun b3 w a H F => ?_)
 refine bb [0,0] F H rfl fun a F => ?_
 replace H := H.nf 2 rfl
 refine nl (sq (sr (bk [999] F H rfl ⟨rfl, (aggn agg84 (H.rcLen 1 rfl)), trivial⟩ fun a F => ?_)))
 obtain ⟨x4, ex4, hm⟩ := ob hm
 refine sd F rfl ent61 (w_m_triremeref07_Right ex4 (H.pm 2 [1,0,1] rfl:):) ?_; rintro _ w a ⟨rfl, H⟩ F
 refine bb [0] F H rfl fun a F => ?_
 replace H := H.nf 2 rfl
 refine nl (cB F rfl (fun hg5 => ?_) (fun hg5 => ?_))
 replace hm := ifT hg5 hm
 refine sr (s_build0O (R := rByte) wkP F rfl rfl rfl elem26 rfl H fun b6 w a H F => ?_)
 refine bb [0,0] F H rfl fun a F => ?_
 replace H := H.nf 3 rfl
 refine nl (wr (tr ?_))
 replace H := H.frz 0 rfl
 cases hm
 refine x_ret2 F rfl rfl rfl ?_
 exact ⟨_, rfl, (some ⟨b6, 0, none⟩), 0, rfl, (H.pm 3 [0] rfl:)⟩
 replace hm := ifF (nT hg5) hm
 refine sk (ct (sr (bk [0] F H rfl ⟨fld84_0, trivial⟩ fun a F => ?_)))
 have G := F; replace H := rc_api_Node (H.pk 1 rfl); obtain ⟨p7, c8, p9, c10, rfl, J⟩ := H; have H := J; have F := G; clear G J
 refine bk [2000,1,1,2001,0,2,2002,0,0,1] F H rfl ⟨rfl, plain3, Tryz.underlying3, Tryz.underlying5, fld84_1, rfl, plain32, ⟨_, Tryz.underlying32⟩, fld84_2, rfl, plain76, ⟨_, Tryz.underlying76⟩, Tryz.underlying3, Tryz.underlying5, trivial⟩ fun a F => ?_
 obtain ⟨x12, ex12, hm⟩ := ob hm
 obtain ⟨x13, ex13, hm⟩ := ob hm
 obtain ⟨x14, ex14, hm⟩ := ob hm
 refine s_buildC wkP F rfl rfl rfl elem26 zero5 rfl rfl rfl rfl (by simp [Value.cells]) (by decide) H fun b11 w a H F => ?_
 replace H : St w0 w (HP.ow rByte 5 (some ⟨b11, 0, none⟩) (([x12, x13, x14]).length) ([x12, x13, x14]) :: HP.sl R_api_Pair p7 c8 x0_.2.1 :: HP.sl R_api_Kid p9 c10 x0_.2.2 :: HP.blk b3 ([.int .i64 (x0_.1), .slice p7 (x0_.2.1).length c8, .slice p9 (x0_.2.2).length c10]) 84 :: l) := H.blkOw (R := rByte) 0 rfl (fun gg => ⟨[[.int .u8 (84)], [.int .u8 (IntKind.u8.wrap (x0_.1))], [.int .u8 (IntKind.u8.wrap (IntKind.i64.wrap (((x0_.2.1).length : Int) + ((x0_.2.2).length : Int))))]], rfl, (congrArg (fun z => [Value.int .u8 z]) (u8O_some ex12).symm), (congrArg (fun z => [Value.int .u8 z]) (u8O_some ex13).symm), (congrArg (fun z => [Value.int .u8 z]) (u8O_some ex14).symm), trivial⟩) (by simp)
 refine bb [0] F H rfl fun a F => ?_
 refine nl (sq (sb [0] F H rfl fun a F => ?_))
 refine nl (xr2 4 [1] [1,2,3] F H hm rfl rfl (fun r97 (p98 : Option Addr) (c98 : Nat) z => (4, .slice p98 (r97).length c98) :: z) (fun r97 p98 c98 z => HP.ow rByte 5 p98 c98 r97 :: z) (fun o97 hm hm97 => ?_) (fun r97 a w hm p98 c98 F H => ?_))
 refine bl (xl2 4 [1] [1,2,3] F H hm rfl rfl (fun (s153 : (List UInt8) × Int) (p154 : Option Addr) (c154 : Nat) z => (4, .slice p154 (s153.1).length c154) :: (5, .int .i64 (s153.2)) :: z) (fun s153 p154 c154 z => HP.ow rByte 5 p154 c154 s153.1 :: z) ⟨(some ⟨b11, 0, none⟩), ([x12, x13, x14]).length, F.sl rfl, H⟩ (fun s153 a w o p154 c154 F H hm => ?_))
 refine sq (sr (bk [0,1,3001,0,0] F H rfl ⟨fld84_1, rfl, plain32, ⟨_, Tryz.underlying32⟩, trivial⟩ fun a F => ?_))
 refine nl (cPm F rfl hm (fun hg155 hm => ?_) (fun hg155 hm => ?_))
 refine sk (ct (sq (bl (sr (bk [1,3001,0] F H rfl ⟨fld84_1, rfl, plain32, trivial⟩ fun a F => ?_)))))
 obtain ⟨x156, ex156, hm⟩ := ob hm
 obtain ⟨b157, o157, hp157, cs158, H⟩ := H.slE 1 rfl ex156
 refine sv F rfl (y_idxS F elem32 rfl rfl rfl hp157 ex156) fun a F => ?_
 refine bk [0] F H rfl ⟨fld48_0, trivial⟩ fun a F => ?_
 have G := F; replace H := rc_api_Pair (H.pk 1 rfl); obtain ⟨p159, c160, p161, c162, rfl, J⟩ := H; have H := J; have F := G; clear G J
 refine bk [2000] F H rfl ⟨rfl, plain26, trivial⟩ fun a F => ?_
 obtain ⟨x163, ex163, hm⟩ := ob hm
 refine sd F rfl ent65 (w_rText ex163 (H.pm 7 [0,0,1,2,3,4,5,6] rfl:):) ?_; rintro _ w a ⟨p164, c164, rfl, H⟩ F
 refine bb (List.replicate 5 0) F H rfl fun a F => ?_
 replace H := H.nf 8 rfl
 refine nl (sr (bk [1,7001,0] F H rfl ⟨fld84_1, rfl, plain32, trivial⟩ fun a F => ?_))
 obtain ⟨x165, ex165, hm⟩ := ob hm
 obtain ⟨cs166, H⟩ := H.slF 5 rfl hp157 ex165
 refine sv F rfl (y_idxS F elem32 rfl rfl rfl hp157 ex165) fun a F => ?_
 refine bk [1] F H rfl ⟨fld48_1, trivial⟩ fun a F => ?_
 have G := F; replace H := rc_api_Pair (H.pk 1 rfl); obtain ⟨p167, c168, p169, c170, rfl, J⟩ := H; have H := J; have F := G; clear G J
 refine bk [2001] F H rfl ⟨rfl, plain26, trivial⟩ fun a F => ?_
 obtain ⟨x171, ex171, hm⟩ := ob hm
 refine sd F rfl ent65 (w_rText ex171 (H.pm 11 [1,0,1,2,3,4,5,6,7,8,9,10] rfl:):) ?_; rintro _ w a ⟨p172, c172, rfl, H⟩ F
 refine bb (List.replicate 5 0) F H rfl fun a F => ?_
 replace H := H.nf 12 rfl
 refine nl (sq (sb [0,0,0] F H rfl fun a F => ?_))
 rcases spN 58 F rfl hm with ⟨hg173, hm, F⟩ | ⟨hg173, hm, F⟩
 refine bb [0,0,0] F H rfl fun a F => ?_
 refine nl (cNm F rfl hm (fun hg174 hm => ?_) (fun hg174 hm => ?_))
 refine sr (s_build0O (R := rByte) wkP F rfl rfl rfl elem26 rfl H fun b175 w a H F => ?_)
 refine bb [0,0] F H rfl fun a F => ?_
 replace H := H.nf 13 rfl
 refine nl (wr (tr (br (tr (tr ?_))))); cases hm; refine ⟨_, rfl, ?_⟩; rintro rfl
 refine br (tr ?_)
 replace hm := elimR hm97
 refine tr ?_
 replace H := H.frz 0 rfl
 cases hm
 refine x_ret2 F rfl rfl rfl ?_
 exact ⟨_, rfl, (some ⟨b175, 0, none⟩), 0, rfl, (H.pm 13 [0] rfl:)⟩
 refine sk (ct (rl (bb [0,0] F H rfl fun a F => ?_)))
 replace H := H.frz 4 rfl
 obtain ⟨x177, ex177, hm⟩ := ob hm
 refine s_app wkP F rfl rfl rfl rfl rfl rfl elem26 rfl ex177 H 8 0 rfl rfl fun p176 c176 w a H F => ?_
 refine bb [0] F H rfl fun a F => ?_
 replace H := H.frz 1 rfl
 obtain ⟨x179, ex179, hm⟩ := ob hm
 refine s_app wkP F rfl rfl rfl rfl rfl rfl elem26 rfl ex179 H 8 0 rfl rfl fun p178 c178 w a H F => ?_
 refine bb [0] F H rfl fun a F => ?_
 replace H := H.nf 12 rfl
 refine lz (bn (ct (rl (bb [0,0,0] F H rfl fun a F => ?_))))
 refine lz (ct ?_); cases hm
 exact ⟨_, rfl, ⟨p178, c178, F.sl rfl, (H.pm 12 [8,9,10,11] rfl:)⟩⟩
 refine bb [0,0,0] F H rfl fun a F => ?_
 refine nl (cT F rfl ?_)
 refine sr (s_build0O (R := rByte) wkP F rfl rfl rfl elem26 rfl H fun b180 w a H F => ?_)
 refine bb [0,0] F H rfl fun a F => ?_
 replace H := H.nf 13 rfl
 refine nl (wr (tr (br (tr (tr ?_))))); cases hm; refine ⟨_, rfl, ?_⟩; rintro rfl
 refine br (tr ?_)
 replace hm := elimR hm97
 refine tr ?_
 replace H := H.frz 0 rfl
 cases hm
 refine x_ret2 F rfl rfl rfl ?_
 exact ⟨_, rfl, (some ⟨b180, 0, none⟩), 0, rfl, (H.pm 13 [0] rfl:)⟩
 refine ex (cx (cx ?_)); cases hm; refine ⟨_, rfl, ?_⟩; rintro rfl
 refine ch (ct ?_)
 exact ⟨_, rfl, p154, c154, F.sl rfl, H⟩
 refine ct (sq (sb [0] F H rfl fun a F => ?_))
 refine nl (xr2 4 [] [1,2,3] F H hm rfl rfl (fun r245 (p246 : Option Addr) (c246 : Nat) z => (4, .slice p246 (r245).length c246) :: z) (fun r245 p246 c246 z => HP.ow rByte 5 p246 c246 r245 :: z) (fun o245 hm hm245 => ?_) (fun r245 a w hm p246 c246 F H => ?_))
 refine bl (xl2 4 [1] [1,2,3] F H hm rfl rfl (fun (s289 : (List UInt8) × Int) (p290 : Option Addr) (c290 : Nat) z => (4, .slice p290 (s289.1).length c290) :: (10, .int .i64 (s289.2)) :: z) (fun s289 p290 c290 z => HP.ow rByte 5 p290 c290 s289.1 :: z) ⟨p98, c98, F.sl rfl, H⟩ (fun s289 a w o p290 c290 F H hm => ?_))
 refine sq (sr (bk [0,2,3002,0,0] F H rfl ⟨fld84_2, rfl, plain76, ⟨_, Tryz.underlying76⟩, trivial⟩ fun a F => ?_))
 refine nl (cPm F rfl hm (fun hg291 hm => ?_) (fun hg291 hm => ?_))
 refine sk (ct (sq (bl (sr (bk [2,3002,0] F H rfl ⟨fld84_2, rfl, plain76, trivial⟩ fun a F => ?_)))))
 obtain ⟨x292, ex292, hm⟩ := ob hm
 obtain ⟨b293, o293, hp293, cs294, H⟩ := H.slE 2 rfl ex292
 refine sv F rfl (y_idxS F elem76 rfl rfl rfl hp293 ex292) fun a F => ?_
 refine bk [0] F H rfl ⟨fld80_0, trivial⟩ fun a F => ?_
 have G := F; replace H := rc_api_Kid (H.pk 1 rfl); obtain ⟨p295, c296, hl297, rfl, J⟩ := H; have H := J; have F := G; clear G J
 refine bk [1000] F H rfl ⟨rfl, plain26, trivial⟩ fun a F => ?_
 obtain ⟨x298, ex298, hm⟩ := ob hm
 refine sd F rfl ent65 (w_rText ex298 (H.pm 6 [0,0,1,2,3,4,5] rfl:):) ?_; rintro _ w a ⟨p299, c299, rfl, H⟩ F
 refine bb (List.replicate 5 0) F H rfl fun a F => ?_
 replace H := H.nf 7 rfl
 refine nl (sq (sb [0,0] F H rfl fun a F => ?_))
 refine nl (cNm F rfl hm (fun hg300 hm => ?_) (fun hg300 hm => ?_))
 refine sr (s_build0O (R := rByte) wkP F rfl rfl rfl elem26 rfl H fun b301 w a H F => ?_)
 refine bb [0,0] F H rfl fun a F => ?_
 replace H := H.nf 8 rfl
 refine nl (wr (tr (br (tr (tr ?_))))); cases hm; refine ⟨_, rfl, ?_⟩; rintro rfl
 refine br (tr ?_)
 replace hm := elimR hm245
 refine tr ?_
 replace H := H.frz 0 rfl
 cases hm
 refine x_ret2 F rfl rfl rfl ?_
 exact ⟨_, rfl, (some ⟨b301, 0, none⟩), 0, rfl, (H.pm 8 [0] rfl:)⟩
 refine sk (ct ?_)
 obtain ⟨x302, ex302, hm⟩ := ob hm
 obtain ⟨cs303, H⟩ := H.slF 5 rfl hp293 ex302
 have G := F; replace H := rc_api_Kid (H.pk 1 rfl); obtain ⟨p304, c305, hl306, rfl, J⟩ := H; have H := J; have F := G; clear G J
 replace H : St w0 w (HP.sl rByte (shp (some ⟨b293, o293 + (s289.2 : Int).toNat * 33 + 1, none⟩) 32 0 1) (32 - 0) x302.2 :: HP.sl rByte p304 c305 x302.1 :: HP.row b293 (o293 + (s289.2 : Int).toNat * 33) ([Value.slice p304 (x302.1).length c305] ++ (bcells x302.2)) :: HP.ow rByte 5 p299 c299 x298.1 :: HP.sl rByte p295 c296 x292.1 :: HP.row b293 (o293 + (s289.2 : Int).toNat * 33) ([Value.slice p295 (x292.1).length c296] ++ (bcells x292.2)) :: HP.ow rByte 5 p290 c290 s289.1 :: HP.sl R_api_Pair p7 c8 x0_.2.1 :: HP.sl R_api_Kid p9 c10 x0_.2.2 :: HP.blk b3 ([.int .i64 (x0_.1), .slice p7 (x0_.2.1).length c8, .slice p9 (x0_.2.2).length c10]) 84 :: l) := H.rowSl 1 rfl (pre := [.slice p304 (x302.1).length c305]) (post := ([] : List Value)) (k := 1) (by simp) rfl hl306 (by decide)
 refine mix_regionK [2,9] [] (scL [0,1,3,4,5,6,7,8,2002,2009,10]) [9] H rfl rfl (by kernel_rfl) (by kernel_rfl) fun w H => ?_
 refine mbk [0,0,2] F H rfl ⟨fld84_2, trivial⟩ fun a F => ?_
 refine m_pure F rfl rfl rfl rfl (fun u hu => y_load1 F plain76 rfl rfl (row_at (v := .slice p9 (x0_.2.2).length c10) ((hu.choose_spec.blk 0 rfl).row) rfl)) fun a F => ?_
 refine mb [0] F H rfl fun a F => ?_
 refine m_pure F rfl rfl rfl rfl (fun u hu => y_idxS F elem76 rfl rfl rfl hp293 ex302) fun a F => ?_
 refine mbk [1] F H rfl ⟨fld80_1, trivial⟩ fun a F => ?_
 refine m_pure F rfl rfl rfl rfl (fun u hu => y_slAW F arr25 rfl rfl hl306) fun a F => ?_
 refine m_heavy rfl rfl ?_
 replace H := H.frz 3 rfl
 obtain ⟨x308, ex308, hm⟩ := ob hm
 refine s_app wkP F rfl rfl rfl rfl rfl rfl elem26 rfl ex308 H 6 0 rfl rfl fun p307 c307 w a H F => ?_
 refine lz ?_; refine ct ⟨⟨_, (H.pm 10 [9,0,1,2,3,4,5,6,7,8] rfl:)⟩, ?_⟩
 refine m_heavy rfl rfl ?_
 obtain ⟨x310, ex310, hm⟩ := ob hm
 refine s_app wkP F rfl rfl rfl rfl rfl rfl elem26 rfl ex310 H 6 1 rfl rfl fun p309 c309 w a H F => ?_
 refine lz ?_; refine ct ⟨⟨_, (H.pm 10 [9,0,1,2,3,4,5,6,7,8] rfl:)⟩, ?_⟩
 refine mb [0] F H rfl fun a F => ?_
 refine m_nil ?_
 refine bn (ct (rl (bb [0,0,0] F H rfl fun a F => ?_)))
 replace H := H.nf 10 rfl
 refine lz (ct ?_); cases hm
 exact ⟨_, rfl, ⟨p309, c309, F.sl rfl, (H.pm 10 [6,7,8,9] rfl:)⟩⟩
 refine ex (cx (cx ?_)); cases hm; refine ⟨_, rfl, ?_⟩; rintro rfl
 refine ch (ct ?_)
 exact ⟨_, rfl, p290, c290, F.sl rfl, H⟩
 refine ct (sq (sr (bk [0,0,0] F H rfl ⟨⟨_, Tryz.underlying26⟩, trivial⟩ fun a F => ?_)))
 refine nl (cPm F rfl hm (fun hg311 hm => ?_) (fun hg311 hm => ?_))
 refine sr (s_build0O (R := rByte) wkP F rfl rfl rfl elem26 rfl H fun b312 w a H F => ?_)
 refine bb [0,0] F H rfl fun a F => ?_
 replace H := H.nf 5 rfl
 refine nl (wr (tr ?_))
 replace H := H.frz 0 rfl
 cases hm
 refine x_ret2 F rfl rfl rfl ?_
 exact ⟨_, rfl, (some ⟨b312, 0, none⟩), 0, rfl, (H.pm 5 [0] rfl:)⟩
 refine sk (ct (sb [0,0,0] F H rfl fun a F => ?_))
 refine nl (wr ?_)
 replace H := H.frz 0 rfl
 cases hm
 refine x_ret2 F rfl rfl rfl ?_
 exact ⟨_, rfl, p246, c246, rfl, (H.pm 4 [0] rfl:)⟩
theorem ent59 : En Tryz.prog 59 := enters Tryz.func59 (by kernel_rfl) rfl
theorem w_m_triremeref07_Read {x0_ : List UInt8} {p1 : Option Addr} {c1 : Nat} {w0 w : World} {l : List HP}  {r : T_api_Node × Int} (hm : m_triremeref07_Read x0_ = some r) (H : St w0 w (HP.sl rByte p1 c1 x0_ :: l)) :
  Calls Tryz.prog 45 [.slice p1 (x0_).length c1].toArray w (fun e w' => ∃ v, e = .returned v ∧ ∃ (cs2 : List Value), v = .tuple [.agg cs2.toArray, .int .i64 (r.2)].toArray ∧ St w0 w' (HP.rc R_api_Node cs2 r.1 :: l)) := by
 unfold m_triremeref07_Read at hm
 refine x_enter Tryz.func45 rfl rfl rfl ?_
 intro a F
 refine sr ?_
 replace H := H.owNil R_api_Pair 48
 replace H := H.owNil R_api_Kid 80
 refine s_allocA wkP F rfl rfl rfl agz84 rfl H fun b3 w a H F => ?_
 refine bb [0] F H rfl fun a F => ?_
 replace H := H.nf 4 rfl
 refine nl (sr ?_)
 replace H := H.owNil R_api_Pair 48
 replace H := H.owNil R_api_Kid 80
 refine sv F rfl (y_build F rfl rfl (cs := [.int .i64 (0), .slice none (([] : List T_api_Pair)).length 0, .slice none (([] : List T_api_Kid)).length 0]) (by kernel_rfl)) fun a F => ?_
 replace H := H.owNil R_api_Pair 48
 replace H := H.owNil R_api_Kid 80
 refine s_allocA wkP F rfl rfl rfl agz84 rfl H fun b4 w a H F => ?_
 refine s_storeA wkP F rfl rfl agg84 rfl rfl rfl H 0 rfl rfl rfl (fl rfl) fun w H => ?_
 replace H := H.nf 9 rfl
 refine nl (sq (sr (bk [0,0,0,0] F H rfl ⟨⟨_, Tryz.underlying26⟩, trivial⟩ fun a F => ?_)))
 rcases spP 20 F rfl hm with ⟨hg5, hm, F⟩ | ⟨hg5, hm, F⟩
 refine bb (List.replicate 16 0) F H rfl fun a F => ?_
 refine nl (cT F rfl ?_)
 refine sr (bk [999] F H rfl ⟨rfl, (aggn agg84 rfl), trivial⟩ fun a F => ?_)
 refine s_storeA wkP F rfl rfl agg84 rfl rfl rfl H 5 rfl rfl rfl (fl rfl) fun w H => ?_
 refine bb [0] F H rfl fun a F => ?_
 replace H := H.nf 9 rfl
 refine nl (wr (tr ?_))
 replace H := H.frz 4 rfl
 replace H := H.frz 4 rfl
 replace H := mk_api_Node H 0 1 rfl 0 rfl
 cases hm
 refine x_resC2 F rfl (⟨_, rfl, agg84.run_load (H.blk 6 rfl).row rfl⟩) rfl ?_
 exact ⟨_, rfl, [.int .i64 (0), .slice none (([] : List T_api_Pair)).length 0, .slice none (([] : List T_api_Kid)).length 0], rfl, (H.pm 10 [0] rfl:)⟩
 refine bk (List.replicate 5 0) F H rfl ⟨⟨_, Tryz.underlying26⟩, trivial⟩ fun a F => ?_
 rcases spP 25 F rfl hm with ⟨hg6, hm, F⟩ | ⟨hg6, hm, F⟩
 refine bb (List.replicate 11 0) F H rfl fun a F => ?_
 refine nl (cT F rfl ?_)
 refine sr (bk [999] F H rfl ⟨rfl, (aggn agg84 rfl), trivial⟩ fun a F => ?_)
 refine s_storeA wkP F rfl rfl agg84 rfl rfl rfl H 5 rfl rfl rfl (fl rfl) fun w H => ?_
 refine bb [0] F H rfl fun a F => ?_
 replace H := H.nf 9 rfl
 refine nl (wr (tr ?_))
 replace H := H.frz 4 rfl
 replace H := H.frz 4 rfl
 replace H := mk_api_Node H 0 1 rfl 0 rfl
 cases hm
 refine x_resC2 F rfl (⟨_, rfl, agg84.run_load (H.blk 6 rfl).row rfl⟩) rfl ?_
 exact ⟨_, rfl, [.int .i64 (0), .slice none (([] : List T_api_Pair)).length 0, .slice none (([] : List T_api_Kid)).length 0], rfl, (H.pm 10 [0] rfl:)⟩
 refine bb [0] F H rfl fun a F => ?_
 refine g_onP F rfl rfl rfl rfl ?_
 obtain ⟨x7, ex7, hm⟩ := ob hm
 obtain ⟨b8, o8, hp8, cs9, H⟩ := H.slE 8 rfl ex7
 obtain rfl := H.rcB 1 rfl
 replace H := H.dp 1 rfl
 refine sv F rfl (y_idxS F elem26 rfl rfl rfl hp8 ex7) fun a F => ?_
 refine bk [0,0,0,0] F H rfl ⟨rfl, plain5, trivial⟩ fun a F => ?_
 rcases spN 31 F rfl hm with ⟨hg10, hm, F⟩ | ⟨hg10, hm, F⟩
 refine bb [0] F H rfl fun a F => ?_
 refine g_onP F rfl rfl rfl rfl ?_
 obtain ⟨x11, ex11, hm⟩ := ob hm
 obtain ⟨cs12, H⟩ := H.slF 9 rfl hp8 ex11
 obtain rfl := H.rcB 1 rfl
 replace H := H.dp 1 rfl
 refine sv F rfl (y_idxS F elem26 rfl rfl rfl hp8 ex11) fun a F => ?_
 refine bk [0,0,0] F H rfl ⟨rfl, plain5, trivial⟩ fun a F => ?_
 refine nl (cPm F rfl hm (fun hg13 hm => ?_) (fun hg13 hm => ?_))
 refine sr (bk [2999] F H rfl ⟨rfl, (aggn agg84 rfl), trivial⟩ fun a F => ?_)
 refine s_storeA wkP F rfl rfl agg84 rfl rfl rfl H 7 rfl rfl rfl (fl rfl) fun w H => ?_
 refine bb [0] F H rfl fun a F => ?_
 replace H := H.nf 11 rfl
 refine nl (wr (tr ?_))
 replace H := H.frz 6 rfl
 replace H := H.frz 6 rfl
 replace H := mk_api_Node H 0 1 rfl 0 rfl
 cases hm
 refine x_resC2 F rfl (⟨_, rfl, agg84.run_load (H.blk 8 rfl).row rfl⟩) rfl ?_
 exact ⟨_, rfl, [.int .i64 (0), .slice none (([] : List T_api_Pair)).length 0, .slice none (([] : List T_api_Kid)).length 0], rfl, (H.pm 12 [0] rfl:)⟩
 refine sk (ct (sb [0] F H rfl fun a F => ?_))
 obtain ⟨x14, ex14, hm⟩ := ob hm
 obtain ⟨cs15, H⟩ := H.slF 10 rfl hp8 ex14
 obtain rfl := H.rcB 1 rfl
 replace H := H.dp 1 rfl
 refine sv F rfl (y_idxS F elem26 rfl rfl rfl hp8 ex14) fun a F => ?_
 refine bk [0,0] F H rfl ⟨rfl, plain5, Tryz.underlying5, Tryz.underlying3, trivial⟩ fun a F => ?_
 replace H := H.owNil R_api_Pair 48
 replace H := H.owNil R_api_Kid 80
 refine sv F rfl (y_build F rfl rfl (cs := [.int .i64 (IntKind.i64.wrap (((x14).toNat : Int))), .slice none (([] : List T_api_Pair)).length 0, .slice none (([] : List T_api_Kid)).length 0]) (by kernel_rfl)) fun a F => ?_
 replace H := H.owNil R_api_Pair 48
 replace H := H.owNil R_api_Kid 80
 refine s_allocA wkP F rfl rfl rfl agz84 rfl H fun b16 w a H F => ?_
 refine s_storeA wkP F rfl rfl agg84 rfl rfl rfl H 0 rfl rfl rfl (fl rfl) fun w H => ?_
 replace H := H.nf 17 rfl
 refine nb [0] F H rfl fun a F => ?_
 refine sv F rfl (y_build F rfl rfl (cs := [.slice p1 (x0_).length c1, .int .i64 (3)]) (by kernel_rfl)) fun a F => ?_
 refine s_boxA wkP F rfl rfl rfl rfl rfl H fun b17 w a H F => ?_
 refine bb [0] F H rfl fun a F => ?_
 replace H := H.nf 18 rfl
 refine nl (sq (sb [0] F H rfl fun a F => ?_))
 refine nl ?_
 refine xr6 18 [0,2,4,5,6] [2,3,6,7,8,9,10,11,12,13,14,15,16,17] F H hm rfl rfl (fun r489 (p490 : Option Addr) (c490 : Nat) (p491 : Option Addr) (c491 : Nat) (p492 : Option Addr) (c492 : Nat) z => z) (fun r489 p490 c490 p491 c491 p492 c492 z => HP.blk b17 ([.slice p490 (r489.1.1).length c490, .int .i64 (r489.1.2)]) 122 :: HP.blk b16 ([.int .i64 (IntKind.i64.wrap (((x14).toNat : Int))), .slice p491 (r489.2.1).length c491, .slice p492 (r489.2.2).length c492]) 84 :: HP.sl rByte p490 c490 r489.1.1 :: HP.ow R_api_Pair 48 p491 c491 r489.2.1 :: HP.ow R_api_Kid 80 p492 c492 r489.2.2 :: z) (fun o489 hm hm489 => ?_) (fun r489 a w hm p490 c490 p491 c491 p492 c492 F H => ?_)
 refine bl ?_
 refine xl6 18 [0,2,4,5,6] [2,3,6,7,8,9,10,11,12,13,14,15,16,17] F H hm rfl rfl (fun (s806 : ((List UInt8) × Int) × ((List T_api_Pair) × (List T_api_Kid)) × Int) (p807 : Option Addr) (c807 : Nat) (p808 : Option Addr) (c808 : Nat) (p809 : Option Addr) (c809 : Nat) z => (7, .int .i64 (s806.2.2)) :: z) (fun s806 p807 c807 p808 c808 p809 c809 z => HP.blk b17 ([.slice p807 (s806.1.1).length c807, .int .i64 (s806.1.2)]) 122 :: HP.blk b16 ([.int .i64 (IntKind.i64.wrap (((x14).toNat : Int))), .slice p808 (s806.2.1.1).length c808, .slice p809 (s806.2.1.2).length c809]) 84 :: HP.sl rByte p807 c807 s806.1.1 :: HP.ow R_api_Pair 48 p808 c808 s806.2.1.1 :: HP.ow R_api_Kid 80 p809 c809 s806.2.1.2 :: z) ⟨p1, c1, none,0, none,0, F.sl rfl, (H.pm 18 [0,1,17,5,4,2,3,6,7,8,9,10,11,12,13,14,15,16,17] rfl:)⟩ (fun s806 a w o p807 c807 p808 c808 p809 c809 F H hm => ?_)
 refine sq (sb [0,0] F H rfl fun a F => ?_)
 obtain ⟨x810, ex810, hm⟩ := ob hm
 obtain ⟨b811, o811, hp811, cs812, H⟩ := H.slE 18 rfl ex810
 obtain rfl := H.rcB 1 rfl
 replace H := H.dp 1 rfl
 refine sv F rfl (y_idxS F elem26 rfl rfl rfl hp811 ex810) fun a F => ?_
 refine bk [0,0,0] F H rfl ⟨rfl, plain5, Tryz.underlying5, Tryz.underlying3, trivial⟩ fun a F => ?_
 refine nl (cPm F rfl hm (fun hg813 hm => ?_) (fun hg813 hm => ?_))
 refine sk (ct (sq ?_))
 refine xr6 20 [0,2,4,5,6,7] [0,6,7,8,9,10,11,12,13,14,15,16,17,18,19] F H hm rfl rfl (fun r887 (p888 : Option Addr) (c888 : Nat) (p889 : Option Addr) (c889 : Nat) (p890 : Option Addr) (c890 : Nat) z => z) (fun r887 p888 c888 p889 c889 p890 c890 z => HP.blk b17 ([.slice p888 (r887.1.1).length c888, .int .i64 (r887.1.2)]) 122 :: HP.blk b16 ([.int .i64 (IntKind.i64.wrap (((x14).toNat : Int))), .slice p889 (r887.2.1).length c889, .slice p890 (r887.2.2).length c890]) 84 :: HP.sl rByte p888 c888 r887.1.1 :: HP.ow R_api_Pair 48 p889 c889 r887.2.1 :: HP.ow R_api_Kid 80 p890 c890 r887.2.2 :: z) (fun o887 hm hm887 => ?_) (fun r887 a w hm p888 c888 p889 c889 p890 c890 F H => ?_)
 refine bl (sb [0] F H rfl fun a F => ?_)
 replace H := O_triremeref02_Eye_s (H.pm 20 [1,3,0,2,3,4,5,6,7,8,9,10,11,12,13,14,15,16,17,18,19] rfl:)
 obtain ⟨x891, ex891, hm⟩ := ob hm
 refine sd F rfl ent59 (w_r2Text ex891 H:) ?_; rintro _ w a ⟨p892, c892, rfl, H⟩ F
 refine bb (List.replicate 5 0) F H rfl fun a F => ?_
 replace H := H.nf 21 rfl
 refine nl (sq (sb [0,0] F H rfl fun a F => ?_))
 refine nl (cNm F rfl hm (fun hg893 hm => ?_) (fun hg893 hm => ?_))
 refine sr (bk [12999] F H rfl ⟨rfl, (aggn agg84 rfl), trivial⟩ fun a F => ?_)
 refine s_storeA wkP F rfl rfl agg84 rfl rfl rfl H 17 rfl rfl rfl (fl rfl) fun w H => ?_
 refine bb [0] F H rfl fun a F => ?_
 replace H := H.nf 21 rfl
 refine nl (wr (tr (br (tr ?_))))
 cases hm
 replace hm := elimR hm887
 refine tr (tr ?_); cases hm; refine ⟨_, rfl, ?_⟩; rintro rfl
 refine br (tr ?_)
 replace hm := elimR hm489
 refine tr ?_
 replace H := H.frz 16 rfl
 replace H := H.frz 16 rfl
 replace H := mk_api_Node H 0 1 rfl 0 rfl
 cases hm
 refine x_resC2 F rfl (⟨_, rfl, agg84.run_load (H.blk 18 rfl).row rfl⟩) rfl ?_
 exact ⟨_, rfl, [.int .i64 (0), .slice none (([] : List T_api_Pair)).length 0, .slice none (([] : List T_api_Kid)).length 0], rfl, (H.pm 22 [0] rfl:)⟩
 refine sk (ct (sq (sr (bk [0,3000,0] F H rfl ⟨fld84_0, rfl, plain3, trivial⟩ fun a F => ?_))))
 refine nl (cPm F rfl hm (fun hg894 hm => ?_) (fun hg894 hm => ?_))
 refine sb [0] F H rfl fun a F => ?_
 obtain ⟨x895, ex895, hm⟩ := ob hm
 refine sd F rfl ent59 (w_r2Text ex895 (H.pm 21 [1,0,2,3,4,5,6,7,8,9,10,11,12,13,14,15,16,17,18,19,20] rfl:):) ?_; rintro _ w a ⟨p896, c896, rfl, H⟩ F
 refine bb (List.replicate 5 0) F H rfl fun a F => ?_
 replace H := H.nf 22 rfl
 refine nl (sq (sb [0,0] F H rfl fun a F => ?_))
 refine nl (cNm F rfl hm (fun hg897 hm => ?_) (fun hg897 hm => ?_))
 refine sr (bk [13999] F H rfl ⟨rfl, (aggn agg84 rfl), trivial⟩ fun a F => ?_)
 refine s_storeA wkP F rfl rfl agg84 rfl rfl rfl H 18 rfl rfl rfl (fl rfl) fun w H => ?_
 refine bb [0] F H rfl fun a F => ?_
 replace H := H.nf 22 rfl
 refine nl (wr (tr (tr (br (tr ?_)))))
 cases hm
 replace hm := elimR hm887
 refine tr (tr ?_); cases hm; refine ⟨_, rfl, ?_⟩; rintro rfl
 refine br (tr ?_)
 replace hm := elimR hm489
 refine tr ?_
 replace H := H.frz 17 rfl
 replace H := H.frz 17 rfl
 replace H := mk_api_Node H 0 1 rfl 0 rfl
 cases hm
 refine x_resC2 F rfl (⟨_, rfl, agg84.run_load (H.blk 19 rfl).row rfl⟩) rfl ?_
 exact ⟨_, rfl, [.int .i64 (0), .slice none (([] : List T_api_Pair)).length 0, .slice none (([] : List T_api_Kid)).length 0], rfl, (H.pm 23 [0] rfl:)⟩
 refine sk (ct (sr (bk [1,4001,0,0] F H rfl ⟨fld84_1, rfl, plain32, trivial⟩ fun a F => ?_)))
 refine sv F rfl (y_build F rfl rfl (cs := [.slice p892 (x891.1).length c892, .slice p896 (x895.1).length c896]) (by kernel_rfl)) fun a F => ?_
 refine s_build1 wkP F rfl rfl rfl agg48 elem32 rfl rfl rfl (by decide) H fun b898 w a H F => ?_
 replace H := H.blkOw1 (R := R_api_Pair) (x := (x891.1, x895.1)) (fun gg => ⟨_, _, rfl, ⟨_, _, rfl, (gg 3 _ rfl).choose_spec⟩, ⟨_, _, rfl, (gg 1 _ rfl).choose_spec⟩⟩)
 replace H := H.frz 0 rfl
 obtain ⟨x900, ex900, hm⟩ := ob hm
 refine s_app wkP F rfl rfl rfl rfl rfl rfl elem32 rfl ex900 H 7 0 rfl rfl fun p899 c899 w a H F => ?_
 refine bk [1] F H rfl ⟨fld84_1, trivial⟩ fun a F => ?_
 refine s_st1 wkP F rfl rfl zero32 rfl rfl rfl rfl rfl H 5 rfl rfl fun w H => ?_
 replace H := H.nf 23 rfl
 refine nl (ex (cx (ch ?_)))
 obtain ⟨p901, c902, H⟩ := O_triremeref02_Eye_o (H.pk 2 rfl)
 cases hm
 refine ct ?_
 exact ⟨_, rfl, p901, c902, p899, c899, p809, c809, F.sl rfl, (H.pm 24 [0,6,1,8,9,5,10,11,12,13,14,15,16,17,18,19,20,21,22,23] rfl:)⟩
 refine sk (ct (sb [0] F H rfl fun a F => ?_))
 obtain ⟨x903, ex903, hm⟩ := ob hm
 refine sd F rfl ent60 (w_r2Raw ex903 (H.pm 21 [1,0,2,3,4,5,6,7,8,9,10,11,12,13,14,15,16,17,18,19,20] rfl:):) ?_; rintro _ w a ⟨p904, c904, rfl, H⟩ F
 refine bb (List.replicate 5 0) F H rfl fun a F => ?_
 replace H := H.nf 22 rfl
 refine nl (sq (sb [0,0] F H rfl fun a F => ?_))
 refine nl (cNm F rfl hm (fun hg905 hm => ?_) (fun hg905 hm => ?_))
 refine sr (bk [13999] F H rfl ⟨rfl, (aggn agg84 rfl), trivial⟩ fun a F => ?_)
 refine s_storeA wkP F rfl rfl agg84 rfl rfl rfl H 18 rfl rfl rfl (fl rfl) fun w H => ?_
 refine bb [0] F H rfl fun a F => ?_
 replace H := H.nf 22 rfl
 refine nl (wr (tr (br (tr ?_))))
 cases hm
 replace hm := elimR hm887
 refine tr (tr ?_); cases hm; refine ⟨_, rfl, ?_⟩; rintro rfl
 refine br (tr ?_)
 replace hm := elimR hm489
 refine tr ?_
 replace H := H.frz 17 rfl
 replace H := H.frz 17 rfl
 replace H := mk_api_Node H 0 1 rfl 0 rfl
 cases hm
 refine x_resC2 F rfl (⟨_, rfl, agg84.run_load (H.blk 19 rfl).row rfl⟩) rfl ?_
 exact ⟨_, rfl, [.int .i64 (0), .slice none (([] : List T_api_Pair)).length 0, .slice none (([] : List T_api_Kid)).length 0], rfl, (H.pm 23 [0] rfl:)⟩
 refine sk (ct (sb [0] F H rfl fun a F => ?_))
 refine sv F rfl (y_build F rfl rfl (cs := [Value.slice p892 (x891.1).length c892] ++ (bcells (List.replicate 32 0))) (build_80_0 p892 x891.1 c892)) fun a F => ?_
 replace H := H.owNil rByte 5
 refine s_allocA wkP F rfl rfl rfl agz80 rfl H fun b906 w a H F => ?_
 refine s_storeA wkP F rfl rfl agg80 rfl rfl rfl H 0 rfl (by simp only [List.length_append, List.length_cons, List.length_nil, icells_length, bcells_length, (List.length_replicate (n := 32))]) (by simp only [List.length_append, List.length_cons, List.length_nil, icells_length, bcells_length, (List.length_replicate (n := 32))]) (by intro v hv; simp only [List.mem_append, List.mem_cons, List.not_mem_nil, or_false] at hv; first | (rcases hv with h | h <;> first | (subst h; rfl) | exact bcells_flat _ _ h | exact icells_flat _ _ _ h | (rcases h with h | h <;> first | (subst h; rfl) | exact bcells_flat _ _ h | exact icells_flat _ _ _ h | (rcases h with h | h <;> first | (subst h; rfl) | exact bcells_flat _ _ h | (rcases h with h | h <;> first | (subst h; rfl) | (rcases h with h | h <;> (subst h; rfl)))))) | (subst hv; rfl)) fun w H => ?_
 replace H := H.nf 24 rfl
 refine nl (sq (sb [0] F H rfl fun a F => ?_))
 refine nl ?_
 obtain ⟨r932, er932, hm932⟩ := ob hm; clear hm; revert er932; intro hm
 refine x_mid (fun aa ww => Fr ⟨122, []⟩ aa [(0, .slice p1 (x0_).length c1), (2, .pointer (some ⟨b3, 0, none⟩)), (4, .pointer (some ⟨b4, 0, none⟩)), (5, .pointer (some ⟨b16, 0, none⟩)), (6, .pointer (some ⟨b17, 0, none⟩)), (7, .int .i64 (s806.2.2)), (14, .pointer (some ⟨b906, 0, none⟩))] ∧ ((r932).length = 32) ∧ St w0 ww (HP.blk b906 ([Value.slice p892 (x891.1).length c892] ++ (bcells r932)) 80 :: HP.ow rByte 5 none 0 ([] : List UInt8) :: O_triremeref02_Eye b17 x903.2.2 :: HP.sl rByte p892 c892 x891.1 :: HP.row b811 (o811 + (2 : Int).toNat * 1) ([.int .u8 (((x810).toNat : Int))]) :: HP.blk b16 ([.int .i64 (IntKind.i64.wrap (((x14).toNat : Int))), .slice p808 (s806.2.1.1).length c808, .slice p809 (s806.2.1.2).length c809]) 84 :: HP.ow R_api_Pair 48 p808 c808 s806.2.1.1 :: HP.ow R_api_Kid 80 p809 c809 s806.2.1.2 :: HP.ow R_api_Kid 80 none 0 ([] : List T_api_Kid) :: HP.ow R_api_Pair 48 none 0 ([] : List T_api_Pair) :: HP.row b8 (o8 + (1 : Int).toNat * 1) ([.int .u8 (((x14).toNat : Int))]) :: HP.row b8 (o8 + (1 : Int).toNat * 1) ([.int .u8 (((x11).toNat : Int))]) :: HP.row b8 (o8 + (0 : Int).toNat * 1) ([.int .u8 (((x7).toNat : Int))]) :: HP.blk b4 ([.int .i64 (0), .slice none (([] : List T_api_Pair)).length 0, .slice none (([] : List T_api_Kid)).length 0]) 84 :: HP.ow R_api_Kid 80 none 0 ([] : List T_api_Kid) :: HP.ow R_api_Pair 48 none 0 ([] : List T_api_Pair) :: HP.ow R_api_Kid 80 none 0 ([] : List T_api_Kid) :: HP.ow R_api_Pair 48 none 0 ([] : List T_api_Pair) :: HP.blk b3 ([.int .i64 (0), .slice none (([] : List T_api_Pair)).length 0, .slice none (([] : List T_api_Kid)).length 0]) 84 :: HP.ow R_api_Kid 80 none 0 ([] : List T_api_Kid) :: HP.ow R_api_Pair 48 none 0 ([] : List T_api_Pair) :: HP.sl rByte p1 c1 x0_ :: l)) ?_ ?_
 refine bl ?_
 refine x_loopO _ (fun (s950 : (List UInt8) × Int) aa ww => Fr ⟨122, []⟩ aa [(0, .slice p1 (x0_).length c1), (2, .pointer (some ⟨b3,0, none⟩)), (4, .pointer (some ⟨b4,0, none⟩)), (5, .pointer (some ⟨b16,0, none⟩)), (6, .pointer (some ⟨b17,0, none⟩)), (7, .int .i64 (s806.2.2)), (12, .slice p904 (x903.1).length c904), (14, .pointer (some ⟨b906,0, none⟩)), (15, .int .i64 (s950.2))] ∧ ((s950.1).length = 32) ∧ St w0 ww (HP.blk b906 ([Value.slice p892 (x891.1).length c892] ++ (bcells s950.1)) 80 :: HP.ow rByte 5 none 0 ([] : List UInt8) :: HP.sl rByte p904 c904 x903.1 :: O_triremeref02_Eye b17 x903.2.2 :: HP.sl rByte p892 c892 x891.1 :: HP.row b811 (o811 + (2 : Int).toNat * 1) ([.int .u8 (((x810).toNat : Int))]) :: HP.blk b16 ([.int .i64 (IntKind.i64.wrap (((x14).toNat : Int))), .slice p808 (s806.2.1.1).length c808, .slice p809 (s806.2.1.2).length c809]) 84 :: HP.ow R_api_Pair 48 p808 c808 s806.2.1.1 :: HP.ow R_api_Kid 80 p809 c809 s806.2.1.2 :: HP.ow R_api_Kid 80 none 0 ([] : List T_api_Kid) :: HP.ow R_api_Pair 48 none 0 ([] : List T_api_Pair) :: HP.row b8 (o8 + (1 : Int).toNat * 1) ([.int .u8 (((x14).toNat : Int))]) :: HP.row b8 (o8 + (1 : Int).toNat * 1) ([.int .u8 (((x11).toNat : Int))]) :: HP.row b8 (o8 + (0 : Int).toNat * 1) ([.int .u8 (((x7).toNat : Int))]) :: HP.blk b4 ([.int .i64 (0), .slice none (([] : List T_api_Pair)).length 0, .slice none (([] : List T_api_Kid)).length 0]) 84 :: HP.ow R_api_Kid 80 none 0 ([] : List T_api_Kid) :: HP.ow R_api_Pair 48 none 0 ([] : List T_api_Pair) :: HP.ow R_api_Kid 80 none 0 ([] : List T_api_Kid) :: HP.ow R_api_Pair 48 none 0 ([] : List T_api_Pair) :: HP.blk b3 ([.int .i64 (0), .slice none (([] : List T_api_Pair)).length 0, .slice none (([] : List T_api_Kid)).length 0]) 84 :: HP.ow R_api_Kid 80 none 0 ([] : List T_api_Kid) :: HP.ow R_api_Pair 48 none 0 ([] : List T_api_Pair) :: HP.sl rByte p1 c1 x0_ :: l)) hm ⟨F.sl rfl, (List.length_replicate (n := 32)), (H.pm 24 [0,1,2,3,4,5,6,8,9,10,11,12,13,14,15,16,17,18,19,20,21,22,23] rfl:)⟩ ?_
 clear F H hm
 rintro s950 a w o ⟨F, hl951, H⟩ hm
 refine sq (sb [0,0] F H rfl fun a F => ?_)
 refine nl (cPm F rfl hm (fun hg952 hm => ?_) (fun hg952 hm => ?_))
 refine sk (ct (sq (bl (rl (bb [0,0,0] F H rfl fun a F => ?_)))))
 obtain ⟨x953, ex953, hm⟩ := ob hm
 obtain ⟨b954, o954, hp954, cs955, H⟩ := H.slE 2 rfl ex953
 obtain rfl := H.rcB 1 rfl
 replace H := H.dp 1 rfl
 refine sv F rfl (y_idxS F elem26 rfl rfl rfl hp954 ex953) fun a F => ?_
 refine bk [0,1] F H rfl ⟨rfl, plain5, fld80_1, trivial⟩ fun a F => ?_
 obtain ⟨x956, ex956, hm⟩ := ob hm
 refine sv F rfl (y_idxA F arr25 rfl rfl rfl ex956 hl951) fun a F => ?_
 obtain ⟨x958, ex958, hm⟩ := ob hm
 refine s_stFE wkP F rfl rfl zero5 rfl rfl rfl ex958 H 1 (A := [.slice p892 (x891.1).length c892]) rfl (by simp only [List.length_append, List.length_cons, List.length_nil, icells_length, bcells_length]) ex956 fun w H => ?_
 replace H := H.nf 24 rfl
 refine lz (bn (ct (rl (bb [0,0,0] F H rfl fun a F => ?_))))
 refine lz (ct ?_); cases hm
 exact ⟨_, rfl, ⟨F.sl rfl, ((List.length_set ..).trans hl951), (H.pm 24 [1,2,3,4,5,6,7,8,9,10,11,12,13,14,15,16,17,18,19,20,21,22,23] rfl:)⟩⟩
 refine ex (cx (cx ?_)); cases hm; refine ⟨_, rfl, ?_⟩; rintro rfl
 refine ch (ct ?_)
 exact ⟨F.sl rfl, hl951, (H.pm 23 [0,1,3,4,5,6,7,8,9,10,11,12,13,14,15,16,17,18,19,20,21,22] rfl:)⟩
 clear F H hm
 rintro a w ⟨F, hl933, H⟩; have hm := hm932; clear hm932
 refine ct (rl (bk [2,5002,999] F H rfl ⟨fld84_2, rfl, plain76, rfl, (aggn agg80 (by simp only [List.length_append, List.length_cons, List.length_nil, icells_length, bcells_length, hl933])), trivial⟩ fun a F => ?_))
 refine s_build1 wkP F rfl rfl rfl agg80 elem76 rfl rfl (by simp only [List.length_append, List.length_cons, List.length_nil, icells_length, bcells_length, hl933]) (by decide) H fun b959 w a H F => ?_
 replace H := H.blkOw1 (R := R_api_Kid) (x := (x891.1, r932)) (fun gg => ⟨_, _, rfl, ⟨_, _, rfl, (gg 4 _ rfl).choose_spec⟩, ⟨rfl, hl933⟩⟩)
 replace H := H.frz 0 rfl
 obtain ⟨x961, ex961, hm⟩ := ob hm
 refine s_app wkP F rfl rfl rfl rfl rfl rfl elem76 rfl ex961 H 8 0 rfl rfl fun p960 c960 w a H F => ?_
 refine bk [2] F H rfl ⟨fld84_2, trivial⟩ fun a F => ?_
 refine s_st1 wkP F rfl rfl zero76 rfl rfl rfl rfl rfl H 6 rfl rfl fun w H => ?_
 replace H := H.nf 23 rfl
 refine lz (bn ?_)
 obtain ⟨p962, c963, H⟩ := O_triremeref02_Eye_o (H.pk 3 rfl)
 cases hm
 refine ct ?_
 exact ⟨_, rfl, p962, c963, p808, c808, p960, c960, F.sl rfl, (H.pm 24 [0,7,1,8,9,6,10,11,12,13,14,15,16,17,18,19,20,21,22,23] rfl:)⟩
 refine ct (rl (bb [0,0,0] F H rfl fun a F => ?_))
 refine lz (ct ?_); cases hm
 exact ⟨_, rfl, ⟨p888, c888, p889, c889, p890, c890, F.sl rfl, (H.pm 20 [0,1,2,3,4,6,7,8,9,10,11,12,13,14,15,16,17,18,19] rfl:)⟩⟩
 refine ex (cx (cx ?_)); cases hm; refine ⟨_, rfl, ?_⟩; rintro rfl
 refine ch (ct ?_)
 exact ⟨_, rfl, p807, c807, p808, c808, p809, c809, F.sl rfl, (H.pm 20 [1,2,3,4,5,6,7,8,9,10,11,12,13,14,15,16,17,18,19] rfl:)⟩
 refine ct (sq (sr (bk [0,0,1,1,0,0,0,0] F H rfl ⟨fld122_1, rfl, plain3, ⟨_, Tryz.underlying26⟩, trivial⟩ fun a F => ?_)))
 rcases spN 115 F rfl hm with ⟨hg964, hm, F⟩ | ⟨hg964, hm, F⟩
 refine bk [1999] F H rfl ⟨rfl, (aggn agg84 rfl), trivial⟩ fun a F => ?_
 refine g_onP F rfl rfl rfl rfl ?_
 replace H := H.frz 3 rfl
 replace H := H.frz 4 rfl
 replace H := mk_api_Node H (IntKind.i64.wrap (((x14).toNat : Int))) 1 rfl 0 rfl
 obtain ⟨x965, ex965, hm⟩ := ob hm
 refine sd F rfl ent61 (w_m_triremeref07_Right ex965 (H.pm 20 [0,0,1,2,3,4,5,6,7,8,9,10,11,12,13,14,15,16,17,18,19] rfl:):) ?_; rintro _ w a ⟨rfl, H⟩ F
 refine bb [0,0] F H rfl fun a F => ?_
 replace H := H.nf 20 rfl
 refine nl (cB F rfl (fun hg966 => ?_) (fun hg966 => ?_))
 replace hm := ifT hg966 hm
 refine sr (bk [11999] F H rfl ⟨rfl, (aggn agg84 rfl), trivial⟩ fun a F => ?_)
 refine s_storeA wkP F rfl rfl agg84 rfl rfl rfl H 16 rfl rfl rfl (fl rfl) fun w H => ?_
 refine bb [0] F H rfl fun a F => ?_
 replace H := H.nf 20 rfl
 refine nl (wr (tr ?_))
 replace H := H.frz 15 rfl
 replace H := H.frz 15 rfl
 replace H := mk_api_Node H 0 1 rfl 0 rfl
 cases hm
 refine x_resC2 F rfl (⟨_, rfl, agg84.run_load (H.blk 17 rfl).row rfl⟩) rfl ?_
 exact ⟨_, rfl, [.int .i64 (0), .slice none (([] : List T_api_Pair)).length 0, .slice none (([] : List T_api_Kid)).length 0], rfl, (H.pm 21 [0] rfl:)⟩
 replace hm := ifF (nT hg966) hm
 refine sk (ct (sr (bk [4999] F H rfl ⟨rfl, (aggn agg84 rfl), trivial⟩ fun a F => ?_)))
 refine s_storeA wkP F rfl rfl agg84 rfl rfl rfl H 16 rfl rfl rfl (fl rfl) fun w H => ?_
 refine bb [0] F H rfl fun a F => ?_
 replace H := H.nf 20 rfl
 refine nl (wr ?_)
 replace H := mk_api_Node H (IntKind.i64.wrap (((x14).toNat : Int))) 2 rfl 1 rfl
 cases hm
 refine x_resC2 F rfl (⟨_, rfl, agg84.run_load (H.blk 17 rfl).row rfl⟩) rfl ?_
 exact ⟨_, rfl, [.int .i64 (IntKind.i64.wrap (((x14).toNat : Int))), .slice p491 (r489.2.1).length c491, .slice p492 (r489.2.2).length c492], rfl, (H.pm 21 [0] rfl:)⟩
 refine bb [0,0,0,0] F H rfl fun a F => ?_
 refine nl (cT F rfl ?_)
 refine sr (bk [10999] F H rfl ⟨rfl, (aggn agg84 rfl), trivial⟩ fun a F => ?_)
 refine s_storeA wkP F rfl rfl agg84 rfl rfl rfl H 15 rfl rfl rfl (fl rfl) fun w H => ?_
 refine bb [0] F H rfl fun a F => ?_
 replace H := H.nf 19 rfl
 refine nl (wr (tr ?_))
 replace H := H.frz 14 rfl
 replace H := H.frz 14 rfl
 replace H := mk_api_Node H 0 1 rfl 0 rfl
 cases hm
 refine x_resC2 F rfl (⟨_, rfl, agg84.run_load (H.blk 16 rfl).row rfl⟩) rfl ?_
 exact ⟨_, rfl, [.int .i64 (0), .slice none (([] : List T_api_Pair)).length 0, .slice none (([] : List T_api_Kid)).length 0], rfl, (H.pm 20 [0] rfl:)⟩
 refine bb (List.replicate 5 0) F H rfl fun a F => ?_
 refine nl (cT F rfl ?_)
 refine sr (bk [1999] F H rfl ⟨rfl, (aggn agg84 rfl), trivial⟩ fun a F => ?_)
 refine s_storeA wkP F rfl rfl agg84 rfl rfl rfl H 6 rfl rfl rfl (fl rfl) fun w H => ?_
 refine bb [0] F H rfl fun a F => ?_
 replace H := H.nf 10 rfl
 refine nl (wr (tr ?_))
 replace H := H.frz 5 rfl
 replace H := H.frz 5 rfl
 replace H := mk_api_Node H 0 1 rfl 0 rfl
 cases hm
 refine x_resC2 F rfl (⟨_, rfl, agg84.run_load (H.blk 7 rfl).row rfl⟩) rfl ?_
 exact ⟨_, rfl, [.int .i64 (0), .slice none (([] : List T_api_Pair)).length 0, .slice none (([] : List T_api_Kid)).length 0], rfl, (H.pm 11 [0] rfl:)⟩
theorem ent52 : En Tryz.prog 52 := enters Tryz.func52 (by kernel_rfl) rfl
theorem ent20 : En Tryz.prog 20 := enters Tryz.func20 (by kernel_rfl) rfl
theorem fld51_0 : FieldT Tryz.prog 51 0 0 := by unfold FieldT; rw [Tryz.underlying51]; kernel_rfl
theorem plain41 : Plain Tryz.prog 41 := by unfold Plain; rw [Tryz.underlying41]; rfl
theorem elem41 : ElemT Tryz.prog 41 25 32 32 (.agg [.int .u8 0, .int .u8 0, .int .u8 0, .int .u8 0, .int .u8 0, .int .u8 0, .int .u8 0, .int .u8 0, .int .u8 0, .int .u8 0, .int .u8 0, .int .u8 0, .int .u8 0, .int .u8 0, .int .u8 0, .int .u8 0, .int .u8 0, .int .u8 0, .int .u8 0, .int .u8 0, .int .u8 0, .int .u8 0, .int .u8 0, .int .u8 0, .int .u8 0, .int .u8 0, .int .u8 0, .int .u8 0, .int .u8 0, .int .u8 0, .int .u8 0, .int .u8 0].toArray) := ⟨Tryz.underlying41, by kernel_rfl, by kernel_rfl, by decide⟩
theorem zero41 : Zero1 Tryz.prog 41 (.slice none 0 0) := ⟨by kernel_rfl, rfl⟩
theorem fld51_1 : FieldT Tryz.prog 51 1 1 := by unfold FieldT; rw [Tryz.underlying51]; kernel_rfl
theorem plain49 : Plain Tryz.prog 49 := by unfold Plain; rw [Tryz.underlying49]; rfl
theorem zero49 : Zero1 Tryz.prog 49 (.slice none 0 0) := ⟨by kernel_rfl, rfl⟩
theorem w_rbPut {b : T_triremeref08_Blocks_o} {n : T_api_Node} {bo0 : Nat} {cs1 : List Value} {w0 w : World} {l : List HP}  {r : (List UInt8) × Int × T_triremeref08_Blocks_o} (hm : rbPut b n = some r) (H : St w0 w (O_triremeref08_Blocks bo0 b :: HP.rc R_api_Node cs1 n :: l)) :
  Calls Tryz.prog 32 [.pointer (some ⟨bo0, 0, none⟩), .agg cs1.toArray].toArray w (fun e w' => ∃ v, e = .returned v ∧ v = .tuple [.agg (bcells r.1).toArray, .int .i64 (r.2.1)].toArray ∧ ((r.1).length = 32) ∧ St w0 w' (O_triremeref08_Blocks bo0 r.2.2 :: l)) := by
 unfold rbPut at hm
 refine x_enter Tryz.func32 rfl rfl rfl ?_
 intro a F
 refine sr (s_boxA wkP F rfl rfl rfl rfl rfl H fun b3 w a H F => ?_)
 refine s_allocA wkP F rfl rfl rfl agz25 rfl H fun b4 w a H F => ?_
 refine bb [0] F H rfl fun a F => ?_
 replace H := H.nf 4 rfl
 refine nl (sr (bk [1999] F H rfl ⟨rfl, (aggn agg84 (H.rcLen 3 rfl)), trivial⟩ fun a F => ?_))
 obtain ⟨x5, ex5, hm⟩ := ob hm
 refine sd F rfl ent52 (w_m_triremeref07_Write ex5 (H.pm 4 [3,0,1,2,3] rfl:):) ?_; rintro _ w a ⟨p6, c6, rfl, H⟩ F
 refine bb (List.replicate 5 0) F H rfl fun a F => ?_
 replace H := H.nf 5 rfl
 refine nl (sq (sb [0,0] F H rfl fun a F => ?_))
 refine nl (cNm F rfl hm (fun hg7 hm => ?_) (fun hg7 hm => ?_))
 refine sr (sv F rfl (y_build F rfl rfl (cs := bcells ((List.replicate 32 0) : List UInt8)) (by kernel_rfl)) fun a F => ?_)
 refine bb [0] F H rfl fun a F => ?_
 refine s_storeA wkP F rfl rfl agg25 rfl rfl rfl H 1 rfl ((bcells_length _).trans rfl) ((bcells_length _).trans (List.length_replicate (n := 32))) (bcells_flat _) fun w H => ?_
 refine bb [0] F H rfl fun a F => ?_
 replace H := H.nf 5 rfl
 refine nl (wr (tr ?_))
 cases hm
 refine x_resC2 F rfl (⟨_, rfl, agg25.run_load (H.blk 1 rfl).row ((bcells_length _).trans rfl)⟩) rfl ?_
 exact ⟨_, rfl, rfl, rfl, (H.pm 5 [3] rfl:)⟩
 refine sk (ct (sb [0] F H rfl fun a F => ?_))
 obtain ⟨x8, ex8, hm⟩ := ob hm
 refine sd F rfl ent20 (w_rSum ex8 (H.pm 5 [0,0,1,2,3,4] rfl:):) ?_; rintro _ w a ⟨rfl, hl9, H⟩ F
 refine s_allocA wkP F rfl rfl rfl agz25 rfl H fun b10 w a H F => ?_
 refine s_storeA wkP F rfl rfl agg25 rfl rfl rfl H 0 rfl ((bcells_length _).trans hl9) ((bcells_length _).trans (List.length_replicate (n := 32))) (bcells_flat _) fun w H => ?_
 replace H := H.nf 6 rfl
 refine nl (sq ?_)
 obtain ⟨p11, c12, p13, c14, H⟩ := O_triremeref08_Blocks_o (H.pk 4 rfl)
 refine mix_regionK [6,7,10] [10] (scL [0,1,2,3,4,1005,2006,2007,8,9,3010]) [0] H rfl rfl (by kernel_rfl) (by kernel_rfl) fun w H => ?_
 refine mbk [0,0,0,0] F H rfl ⟨fld51_0, trivial⟩ fun a F => ?_
 refine m_pure F rfl rfl rfl rfl (fun u hu => y_load1 F plain41 rfl rfl (row_at (v := .slice p11 (b.1).length c12) ((hu.choose_spec.blk 0 rfl).row) rfl)) fun a F => ?_
 refine mbk [3999] F H rfl ⟨rfl, (aggn agg25 ((bcells_length _).trans hl9)), trivial⟩ fun a F => ?_
 refine m_heavy rfl rfl ?_
 refine s_build1 wkP F rfl rfl rfl agg25 elem41 rfl rfl ((bcells_length _).trans hl9) (by decide) H fun b15 w a H F => ?_
 replace H := H.blkOw1 (R := (rBytesN 32)) (x := x8) (fun gg => ⟨rfl, hl9⟩)
 refine lz ?_; refine ct ⟨⟨_, (H.pm 9 [1,0,2,3,4,5,6,7,8] rfl:)⟩, ?_⟩
 refine m_heavy rfl rfl ?_
 replace H := H.frz 0 rfl
 obtain ⟨x17, ex17, hm⟩ := ob hm
 refine s_app wkP F rfl rfl rfl rfl rfl rfl elem41 rfl ex17 H 2 0 rfl rfl fun p16 c16 w a H F => ?_
 refine lz ?_; refine ct ⟨⟨_, (H.pm 9 [1,0,2,3,4,5,6,7,8] rfl:)⟩, ?_⟩
 refine mbk [0,0] F H rfl ⟨fld51_0, trivial⟩ fun a F => ?_
 refine m_last rfl rfl ?_
 refine s_st1 wkP F rfl rfl zero41 rfl rfl rfl rfl rfl H 1 rfl rfl fun w H => ?_
 refine lz ?_; refine ct ?_
 refine m_nil ?_
 refine ct (sr (bk [0,0,0,1,1001,0] F H rfl ⟨fld51_1, rfl, plain49, trivial⟩ fun a F => ?_))
 refine s_buildC wkP F rfl rfl rfl elem49 zero26 rfl rfl rfl rfl (by simp [Value.cells]) (by decide) H fun b18 w a H F => ?_
 replace H := H.blkOw1 (R := (rSl rByte)) (x := x5.1) (fun gg => ⟨_, _, rfl, (gg 6 _ rfl).choose_spec⟩)
 replace H := H.frz 0 rfl
 obtain ⟨x20, ex20, hm⟩ := ob hm
 refine s_app wkP F rfl rfl rfl rfl rfl rfl elem49 rfl ex20 H 4 0 rfl rfl fun p19 c19 w a H F => ?_
 refine bk [0,1] F H rfl ⟨fld51_1, trivial⟩ fun a F => ?_
 refine s_st1 wkP F rfl rfl zero49 rfl rfl rfl rfl rfl H 2 rfl rfl fun w H => ?_
 replace H := H.nf 10 rfl
 refine nl (sr (bk [5999] F H rfl ⟨rfl, (aggn agg25 ((bcells_length _).trans hl9)), trivial⟩ fun a F => ?_))
 refine s_storeA wkP F rfl rfl agg25 rfl rfl rfl H 7 rfl ((bcells_length _).trans hl9) ((bcells_length _).trans (List.length_replicate (n := 32))) (bcells_flat _) fun w H => ?_
 refine bb [0] F H rfl fun a F => ?_
 replace H := H.nf 10 rfl
 refine nl (wr ?_)
 replace H := O_triremeref08_Blocks_s (H.pm 10 [2,3,4,0,1,5,6,7,8,9] rfl:)
 cases hm
 refine x_resC2 F rfl (⟨_, rfl, agg25.run_load (H.blk 5 rfl).row ((bcells_length _).trans hl9)⟩) rfl ?_
 exact ⟨_, rfl, rfl, hl9, (H.pm 8 [0] rfl:)⟩
theorem agz51 : AggT Tryz.prog 51 2 ([.slice none (([] : List (List UInt8))).length 0, .slice none (([] : List (List UInt8))).length 0]) := ⟨by rw [Tryz.underlying51]; rfl, by kernel_rfl, by kernel_rfl⟩
theorem agg51 : AggT Tryz.prog 51 2 [.slice none 0 0, .slice none 0 0] := ⟨by rw [Tryz.underlying51]; rfl, by kernel_rfl, by kernel_rfl⟩
theorem ent31 : En Tryz.prog 31 := enters Tryz.func31 (by kernel_rfl) rfl
theorem ent32 : En Tryz.prog 32 := enters Tryz.func32 (by kernel_rfl) rfl
theorem ent33 : En Tryz.prog 33 := enters Tryz.func33 (by kernel_rfl) rfl
theorem build_80_0_1 : ∀ (p0 : Option Addr) (x0 : List UInt8) (c0 : Nat) (s1 : List UInt8) (h1 : s1.length = 32), Tryz.prog.built 80 [(0, .slice p0 (x0).length c0), (1, .agg (bcells s1).toArray)] = some (([Value.slice p0 (x0).length c0] ++ (bcells s1) : List Value)).toArray := fun p0 x0 c0 s1 h1 => match s1, h1 with | [a0_0, a0_1, a0_2, a0_3, a0_4, a0_5, a0_6, a0_7, a0_8, a0_9, a0_10, a0_11, a0_12, a0_13, a0_14, a0_15, a0_16, a0_17, a0_18, a0_19, a0_20, a0_21, a0_22, a0_23, a0_24, a0_25, a0_26, a0_27, a0_28, a0_29, a0_30, a0_31], _ => by kernel_rfl
theorem w_m_triremeref08_Build {x0_ : List T_api_Pair} {p1 : Option Addr} {c1 : Nat} {w0 w : World} {l : List HP}  {r : (List UInt8) × T_triremeref08_Blocks × Int} (hm : m_triremeref08_Build x0_ = some r) (H : St w0 w (HP.sl R_api_Pair p1 c1 x0_ :: l)) :
  Calls Tryz.prog 15 [.slice p1 (x0_).length c1].toArray w (fun e w' => ∃ v, e = .returned v ∧ ∃ (cs3 : List Value), v = .tuple [.agg (bcells r.1).toArray, .agg cs3.toArray, .int .i64 (r.2.2)].toArray ∧ ((r.1).length = 32) ∧ St w0 w' (HP.rc R_triremeref08_Blocks cs3 r.2.1 :: l)) := by
 unfold m_triremeref08_Build at hm
 refine x_enter Tryz.func15 rfl rfl rfl ?_
 intro a F
 refine sr (s_allocA wkP F rfl rfl rfl agz25 rfl H fun b4 w a H F => ?_)
 replace H := H.owNil (rBytesN 32) 25
 replace H := H.owNil (rSl rByte) 26
 refine s_allocA wkP F rfl rfl rfl agz51 rfl H fun b5 w a H F => ?_
 refine bb [0] F H rfl fun a F => ?_
 replace H := H.nf 5 rfl
 refine nl (sq (sb [0] F H rfl fun a F => ?_))
 obtain ⟨x6, ex6, hm⟩ := ob hm
 refine sd F rfl ent30 (w_m_triremeref06_Rising ex6 (H.pm 5 [4,0,1,2,3,4] rfl:):) ?_; rintro _ w a ⟨rfl, H⟩ F
 refine bb [0] F H rfl fun a F => ?_
 replace H := H.nf 5 rfl
 refine nl (cB F rfl (fun hg7 => ?_) (fun hg7 => ?_))
 replace hm := ifT hg7 hm
 refine sr (sv F rfl (y_build F rfl rfl (cs := bcells ((List.replicate 32 0) : List UInt8)) (by kernel_rfl)) fun a F => ?_)
 replace H := H.owNil (rBytesN 32) 25
 replace H := H.owNil (rSl rByte) 26
 refine sv F rfl (y_build F rfl rfl (cs := [.slice none (([] : List (List UInt8))).length 0, .slice none (([] : List (List UInt8))).length 0]) (by kernel_rfl)) fun a F => ?_
 refine s_storeA wkP F rfl rfl agg25 rfl rfl rfl H 5 rfl ((bcells_length _).trans rfl) ((bcells_length _).trans (List.length_replicate (n := 32))) (bcells_flat _) fun w H => ?_
 refine s_storeA wkP F rfl rfl agg51 rfl rfl rfl H 2 rfl rfl rfl (fl rfl) fun w H => ?_
 refine bb [0] F H rfl fun a F => ?_
 replace H := H.nf 7 rfl
 refine nl (wr (tr ?_))
 replace H := H.frz 1 rfl
 replace H := H.frz 1 rfl
 replace H := mk_triremeref08_Blocks H 1 rfl 0 rfl
 cases hm
 refine x_resC3 F rfl (⟨_, rfl, agg25.run_load (H.blk 6 rfl).row ((bcells_length _).trans rfl)⟩) (⟨_, rfl, agg51.run_load (H.blk 3 rfl).row rfl⟩) rfl ?_
 exact ⟨_, rfl, [.slice none (([] : List (List UInt8))).length 0, .slice none (([] : List (List UInt8))).length 0], rfl, rfl, (H.pm 8 [0] rfl:)⟩
 replace hm := ifF (nT hg7) hm
 refine sk (ct (sr ?_))
 replace H := H.owNil (rBytesN 32) 25
 replace H := H.owNil (rSl rByte) 26
 refine sv F rfl (y_build F rfl rfl (cs := [.slice none (([] : List (List UInt8))).length 0, .slice none (([] : List (List UInt8))).length 0]) (by kernel_rfl)) fun a F => ?_
 refine s_build0O (R := R_api_Kid) wkP F rfl rfl rfl elem76 rfl H fun b8 w a H F => ?_
 replace H := H.owNil (rBytesN 32) 25
 replace H := H.owNil (rSl rByte) 26
 refine s_allocA wkP F rfl rfl rfl agz51 rfl H fun b9 w a H F => ?_
 refine s_storeA wkP F rfl rfl agg51 rfl rfl rfl H 0 rfl rfl rfl (fl rfl) fun w H => ?_
 refine bb [0] F H rfl fun a F => ?_
 replace H := H.nf 11 rfl
 refine nb [0] F H rfl fun a F => ?_
 obtain ⟨x10, ex10, hm⟩ := ob hm
 refine sd F rfl ent31 (w_m_triremeref06_Leaves ex10 (H.pm 11 [10,0,1,2,3,4,5,6,7,8,9,10] rfl:):) ?_; rintro _ w a ⟨p11, c11, rfl, H⟩ F
 refine bb [0,0] F H rfl fun a F => ?_
 replace H := H.nf 12 rfl
 refine nl (sq (sb [0] F H rfl fun a F => ?_))
 refine nl ?_
 refine xr6 12 [2,3,5] [2,3,7,8,9,10] F H hm rfl rfl (fun r283 (p284 : Option Addr) (c284 : Nat) (p285 : Option Addr) (c285 : Nat) (p286 : Option Addr) (c286 : Nat) z => (6, .slice p286 (r283.2).length c286) :: z) (fun r283 p284 c284 p285 c285 p286 c286 z => HP.blk b9 ([.slice p284 (r283.1.1).length c284, .slice p285 (r283.1.2).length c285]) 51 :: HP.ow (rBytesN 32) 25 p284 c284 r283.1.1 :: HP.ow (rSl rByte) 26 p285 c285 r283.1.2 :: HP.ow R_api_Kid 80 p286 c286 r283.2 :: z) (fun o283 hm hm283 => ?_) (fun r283 a w hm p284 c284 p285 c285 p286 c286 F H => ?_)
 refine bl ?_
 refine xl6 12 [0,2,3,5,7] [0,2,3,7,8,9,10,11] F H hm rfl rfl (fun (s467 : ((List (List UInt8)) × (List (List UInt8))) × (List T_api_Kid) × Int × Int) (p468 : Option Addr) (c468 : Nat) (p469 : Option Addr) (c469 : Nat) (p470 : Option Addr) (c470 : Nat) z => (6, .slice p470 (s467.2.1).length c470) :: (8, .int .i64 (s467.2.2.1)) :: (9, .int .i64 (s467.2.2.2)) :: z) (fun s467 p468 c468 p469 c469 p470 c470 z => HP.blk b9 ([.slice p468 (s467.1.1).length c468, .slice p469 (s467.1.2).length c469]) 51 :: HP.ow (rBytesN 32) 25 p468 c468 s467.1.1 :: HP.ow (rSl rByte) 26 p469 c469 s467.1.2 :: HP.ow R_api_Kid 80 p470 c470 s467.2.1 :: z) ⟨none,0, none,0, (some ⟨b8,0, none⟩),0, F.sl rfl, (H.pm 12 [1,6,5,4,0,2,3,7,8,9,10,11] rfl:)⟩ (fun s467 a w o p468 c468 p469 c469 p470 c470 F H hm => ?_)
 refine sq (sr (bk [0,0,0,0] F H rfl ⟨⟨_, Tryz.underlying77⟩, trivial⟩ fun a F => ?_))
 refine nl (cPm F rfl hm (fun hg471 hm => ?_) (fun hg471 hm => ?_))
 refine sk (ct (sq ?_))
 refine xr6 12 [0,2,3,5,7,9] [4,5,6,7,8,9,10,11] F H hm rfl rfl (fun r513 (p514 : Option Addr) (c514 : Nat) (p515 : Option Addr) (c515 : Nat) (p516 : Option Addr) (c516 : Nat) z => (6, .slice p516 (r513.2.1).length c516) :: (8, .int .i64 (r513.2.2)) :: z) (fun r513 p514 c514 p515 c515 p516 c516 z => HP.blk b9 ([.slice p514 (r513.1.1).length c514, .slice p515 (r513.1.2).length c515]) 51 :: HP.ow (rBytesN 32) 25 p514 c514 r513.1.1 :: HP.ow (rSl rByte) 26 p515 c515 r513.1.2 :: HP.ow R_api_Kid 80 p516 c516 r513.2.1 :: z) (fun o513 hm hm513 => ?_) (fun r513 a w hm p514 c514 p515 c515 p516 c516 F H => ?_)
 refine bl (sr ?_)
 replace H := H.owNil rByte 5
 refine sv F rfl (y_build F rfl rfl (cs := [Value.slice none (([] : List UInt8)).length 0] ++ (bcells (List.replicate 32 0))) (by kernel_rfl)) fun a F => ?_
 replace H := H.owNil rByte 5
 refine s_allocA wkP F rfl rfl rfl agz80 rfl H fun b517 w a H F => ?_
 refine s_storeA wkP F rfl rfl agg80 rfl rfl rfl H 0 rfl (by simp only [List.length_append, List.length_cons, List.length_nil, icells_length, bcells_length, (List.length_replicate (n := 32))]) (by simp only [List.length_append, List.length_cons, List.length_nil, icells_length, bcells_length, (List.length_replicate (n := 32))]) (by intro v hv; simp only [List.mem_append, List.mem_cons, List.not_mem_nil, or_false] at hv; first | (rcases hv with h | h <;> first | (subst h; rfl) | exact bcells_flat _ _ h | exact icells_flat _ _ _ h | (rcases h with h | h <;> first | (subst h; rfl) | exact bcells_flat _ _ h | exact icells_flat _ _ _ h | (rcases h with h | h <;> first | (subst h; rfl) | exact bcells_flat _ _ h | (rcases h with h | h <;> first | (subst h; rfl) | (rcases h with h | h <;> (subst h; rfl)))))) | (subst hv; rfl)) fun w H => ?_
 replace H := H.nf 15 rfl
 refine nl (sq (sb [0,0] F H rfl fun a F => ?_))
 obtain ⟨x518, ex518, hm⟩ := ob hm
 obtain ⟨b519, o519, hp519, cs520, H⟩ := H.slE 7 rfl ex518
 obtain rfl := H.rcI 1 rfl
 replace H := H.dp 1 rfl
 refine sv F rfl (y_idxS F elem77 rfl rfl rfl hp519 ex518) fun a F => ?_
 refine bk [0,0] F H rfl ⟨rfl, plain3, trivial⟩ fun a F => ?_
 refine nl ?_
 obtain ⟨r529, er529, hm529⟩ := ob hm; clear hm; revert er529; intro hm
 refine x_mid (fun aa ww => ∃ (p530 : Option Addr) (c530 : Nat), Fr ⟨154, []⟩ aa [(0, .slice p1 (x0_).length c1), (2, .pointer (some ⟨b4, 0, none⟩)), (3, .pointer (some ⟨b5, 0, none⟩)), (5, .pointer (some ⟨b9, 0, none⟩)), (6, .slice p470 (s467.2.1).length c470), (7, .slice p11 (x10).length c11), (8, .int .i64 (s467.2.2.1)), (9, .int .i64 (s467.2.2.2)), (10, .pointer (some ⟨b517, 0, none⟩))] ∧ (((List.replicate 32 0)).length = 32) ∧ St w0 ww (HP.row b519 (o519 + (s467.2.2.2 : Int).toNat * 1) ([.int .i64 (x518)]) :: HP.blk b517 ([Value.slice p530 (r529).length c530] ++ (bcells (List.replicate 32 0))) 80 :: HP.ow rByte 5 none 0 ([] : List UInt8) :: HP.blk b9 ([.slice p468 (s467.1.1).length c468, .slice p469 (s467.1.2).length c469]) 51 :: HP.ow (rBytesN 32) 25 p468 c468 s467.1.1 :: HP.ow (rSl rByte) 26 p469 c469 s467.1.2 :: HP.ow R_api_Kid 80 p470 c470 s467.2.1 :: HP.sl (rInt .i64) p11 c11 x10 :: HP.ow (rSl rByte) 26 none 0 ([] : List (List UInt8)) :: HP.ow (rBytesN 32) 25 none 0 ([] : List (List UInt8)) :: HP.blk b5 ([.slice none (([] : List (List UInt8))).length 0, .slice none (([] : List (List UInt8))).length 0]) 51 :: HP.ow (rSl rByte) 26 none 0 ([] : List (List UInt8)) :: HP.ow (rBytesN 32) 25 none 0 ([] : List (List UInt8)) :: HP.blk b4 (bcells (List.replicate 32 0)) 25 :: HP.sl R_api_Pair p1 c1 x0_ :: HP.sl rByte p530 c530 r529 :: l)) ?_ ?_
 refine cPm F rfl hm (fun hg532 hm => ?_) (fun hg532 hm => ?_)
 refine rl (bb [0,0] F H rfl fun a F => ?_)
 obtain ⟨x533, ex533, hm⟩ := ob hm
 obtain ⟨b534, o534, hp534, cs535, H⟩ := H.slE 15 rfl ex533
 refine sv F rfl (y_idxS F elem32 rfl rfl rfl hp534 ex533) fun a F => ?_
 refine bk [0] F H rfl ⟨fld48_0, trivial⟩ fun a F => ?_
 have G := F; replace H := rc_api_Pair (H.pk 1 rfl); obtain ⟨p536, c537, p538, c539, rfl, J⟩ := H; have H := J; have F := G; clear G J
 refine bk [2000,0] F H rfl ⟨rfl, plain26, fld80_0, trivial⟩ fun a F => ?_
 refine s_st1 wkP F rfl rfl zero26 rfl rfl rfl rfl rfl H 4 rfl rfl fun w H => ?_
 replace H := H.nf 19 rfl
 refine lz ?_
 cases hm
 refine ct ?_
 exact ⟨p536, c537, F.sl rfl, (List.length_replicate (n := 32)), (H.pm 19 [3,4,5,7,8,9,10,11,12,13,14,15,16,17,18,0] rfl:)⟩
 refine sk ?_
 cases hm
 refine ct ?_
 replace H := H.frz 3 rfl
 exact ⟨none,0, F.sl rfl, (List.length_replicate (n := 32)), (H.pm 16 [1,2,3,4,5,6,7,8,9,10,11,12,13,14,15,0] rfl:)⟩
 clear F H hm
 rintro a w ⟨p530, c530, F, hl531, H⟩; have hm := hm529; clear hm529
 refine ct (sb (List.replicate 5 0) F H rfl fun a F => ?_)
 obtain ⟨x540, ex540, hm⟩ := ob hm
 obtain ⟨b541, o541, hp541, cs542, H⟩ := H.slE 7 rfl ex540
 obtain rfl := H.rcI 1 rfl
 replace H := H.dp 1 rfl
 refine sv F rfl (y_idxS F elem77 rfl rfl rfl hp541 ex540) fun a F => ?_
 refine bk [0,0] F H rfl ⟨rfl, plain3, trivial⟩ fun a F => ?_
 obtain ⟨x544, ex544, hm⟩ := ob hm
 have hc543 := H.slCap 15 rfl
 replace H := H.slSubN 2 rfl 15 rfl ex544
 refine sv F rfl (y_slLH F elem32 rfl rfl rfl rfl ex544 hc543) fun a F => ?_
 replace H := H.owNil R_api_Kid 80
 refine sv F rfl (y_build F rfl rfl (cs := [.int .i64 (0), .slice (shp p1 c1 (s467.2.2.1 : Int).toNat 2) (x544).length (c1 - (s467.2.2.1 : Int).toNat), .slice none (([] : List T_api_Kid)).length 0]) (by kernel_rfl)) fun a F => ?_
 replace H := O_triremeref08_Blocks_s (H.pm 19 [6,7,8,0,1,2,3,4,5,9,10,11,12,13,14,15,16,17,18] rfl:)
 replace H := H.frz 1 rfl
 replace H := mk_api_Node H 0 2 rfl 0 rfl
 obtain ⟨x545, ex545, hm⟩ := ob hm
 refine sd F rfl ent32 (w_rbPut ex545 (H.pm 18 [2,0,0,1,3,4,5,6,7,8,9,10,11,12,13,14,15,16,17] rfl:):) ?_; rintro _ w a ⟨rfl, hl546, H⟩ F
 refine bb [0,0,0] F H rfl fun a F => ?_
 refine s_allocA wkP F rfl rfl rfl agz25 rfl H fun b547 w a H F => ?_
 refine s_storeA wkP F rfl rfl agg25 rfl rfl rfl H 0 rfl ((bcells_length _).trans hl546) ((bcells_length _).trans (List.length_replicate (n := 32))) (bcells_flat _) fun w H => ?_
 refine bb [0] F H rfl fun a F => ?_
 replace H := H.nf 19 rfl
 refine nl (sq (sb [0,0] F H rfl fun a F => ?_))
 refine nl (cNm F rfl hm (fun hg548 hm => ?_) (fun hg548 hm => ?_))
 refine sr (sv F rfl (y_build F rfl rfl (cs := bcells ((List.replicate 32 0) : List UInt8)) (by kernel_rfl)) fun a F => ?_)
 replace H := H.owNil (rBytesN 32) 25
 replace H := H.owNil (rSl rByte) 26
 refine sv F rfl (y_build F rfl rfl (cs := [.slice none (([] : List (List UInt8))).length 0, .slice none (([] : List (List UInt8))).length 0]) (by kernel_rfl)) fun a F => ?_
 refine bb [0] F H rfl fun a F => ?_
 refine s_storeA wkP F rfl rfl agg25 rfl rfl rfl H 18 rfl ((bcells_length _).trans rfl) ((bcells_length _).trans (List.length_replicate (n := 32))) (bcells_flat _) fun w H => ?_
 refine s_storeA wkP F rfl rfl agg51 rfl rfl rfl H 15 rfl rfl rfl (fl rfl) fun w H => ?_
 refine bb [0] F H rfl fun a F => ?_
 replace H := H.nf 21 rfl
 refine nl (wr (tr (br (tr ?_))))
 cases hm
 replace hm := elimR hm513
 refine tr (tr ?_); cases hm; refine ⟨_, rfl, ?_⟩; rintro rfl
 refine br (tr ?_)
 replace hm := elimR hm283
 refine tr ?_
 replace H := H.frz 1 rfl
 replace H := H.frz 1 rfl
 replace H := mk_triremeref08_Blocks H 1 rfl 0 rfl
 cases hm
 refine x_resC3 F rfl (⟨_, rfl, agg25.run_load (H.blk 19 rfl).row ((bcells_length _).trans rfl)⟩) (⟨_, rfl, agg51.run_load (H.blk 16 rfl).row rfl⟩) rfl ?_
 exact ⟨_, rfl, [.slice none (([] : List (List UInt8))).length 0, .slice none (([] : List (List UInt8))).length 0], rfl, rfl, (H.pm 22 [0] rfl:)⟩
 refine sk (ct (sr (bk [999,1] F H rfl ⟨rfl, (aggn agg25 ((bcells_length _).trans hl546)), fld80_1, trivial⟩ fun a F => ?_)))
 refine s_storeFE wkP F rfl rfl agg25 rfl rfl rfl H 7 rfl (A := [.slice p530 (r529).length c530]) (X := bcells (List.replicate 32 0)) rfl (by simp only [List.length_append, List.length_cons, List.length_nil, icells_length, bcells_length]) ((bcells_length _).trans hl531) ((bcells_length _).trans hl546) (bcells_flat _) fun w H => ?_
 replace H := H.nf 19 rfl
 refine nl (sr (bk [0,7999] F H rfl ⟨rfl, (aggn agg80 (by simp only [List.length_append, List.length_cons, List.length_nil, icells_length, bcells_length, hl546])), trivial⟩ fun a F => ?_))
 refine s_build1 wkP F rfl rfl rfl agg80 elem76 rfl rfl (by simp only [List.length_append, List.length_cons, List.length_nil, icells_length, bcells_length, hl546]) (by decide) H fun b549 w a H F => ?_
 replace H := H.blkOw1 (R := R_api_Kid) (x := (r529, x545.1)) (fun gg => ⟨_, _, rfl, ⟨_, _, rfl, (gg 19 _ rfl).choose_spec⟩, ⟨rfl, hl546⟩⟩)
 replace H := H.frz 0 rfl
 obtain ⟨x551, ex551, hm⟩ := ob hm
 refine s_app wkP F rfl rfl rfl rfl rfl rfl elem76 rfl ex551 H 10 0 rfl rfl fun p550 c550 w a H F => ?_
 refine bb [0] F H rfl fun a F => ?_
 replace H := H.nf 20 rfl
 refine nl (rl (bb [0,0,0] F H rfl fun a F => ?_))
 obtain ⟨x552, ex552, hm⟩ := ob hm
 obtain ⟨cs553, H⟩ := H.slF 11 rfl hp541 ex552
 obtain rfl := H.rcI 1 rfl
 replace H := H.dp 1 rfl
 refine sv F rfl (y_idxS F elem77 rfl rfl rfl hp541 ex552) fun a F => ?_
 refine bk [0,0,0] F H rfl ⟨rfl, plain3, trivial⟩ fun a F => ?_
 refine lz (bn ?_)
 obtain ⟨p554, c555, p556, c557, H⟩ := O_triremeref08_Blocks_o (H.pk 3 rfl)
 cases hm
 refine ct ?_
 exact ⟨_, rfl, p554, c555, p556, c557, p550, c550, F.sl rfl, (H.pm 23 [0,1,2,13,14,15,16,17,18,19,20,21] rfl:)⟩
 refine ct (rl (bb [0,0,0] F H rfl fun a F => ?_))
 refine lz (ct ?_); cases hm
 exact ⟨_, rfl, ⟨p514, c514, p515, c515, p516, c516, F.sl rfl, H⟩⟩
 refine ex (cx (cx ?_)); cases hm; refine ⟨_, rfl, ?_⟩; rintro rfl
 refine ch (ct ?_)
 exact ⟨_, rfl, p468, c468, p469, c469, p470, c470, F.sl rfl, (H.pm 12 [0,1,2,3,5,6,7,8,9,10] rfl:)⟩
 refine ct (sq (sb [0] F H rfl fun a F => ?_))
 refine nl ?_
 refine xr6 10 [2,3,5] [4,5,6,7,8,9] F H hm rfl rfl (fun r1336 (p1337 : Option Addr) (c1337 : Nat) (p1338 : Option Addr) (c1338 : Nat) (p1339 : Option Addr) (c1339 : Nat) z => (6, .slice p1339 (r1336.2).length c1339) :: z) (fun r1336 p1337 c1337 p1338 c1338 p1339 c1339 z => HP.blk b9 ([.slice p1337 (r1336.1.1).length c1337, .slice p1338 (r1336.1.2).length c1338]) 51 :: HP.ow (rBytesN 32) 25 p1337 c1337 r1336.1.1 :: HP.ow (rSl rByte) 26 p1338 c1338 r1336.1.2 :: HP.ow R_api_Kid 80 p1339 c1339 r1336.2 :: z) (fun o1336 hm hm1336 => ?_) (fun r1336 a w hm p1337 c1337 p1338 c1338 p1339 c1339 F H => ?_)
 refine bl ?_
 refine xl6 10 [2,3,5] [4,5,6,7,8,9] F H hm rfl rfl (fun (s1858 : ((List (List UInt8)) × (List (List UInt8))) × (List T_api_Kid) × Int) (p1859 : Option Addr) (c1859 : Nat) (p1860 : Option Addr) (c1860 : Nat) (p1861 : Option Addr) (c1861 : Nat) z => (6, .slice p1861 (s1858.2.1).length c1861) :: (13, .int .i64 (s1858.2.2)) :: z) (fun s1858 p1859 c1859 p1860 c1860 p1861 c1861 z => HP.blk b9 ([.slice p1859 (s1858.1.1).length c1859, .slice p1860 (s1858.1.2).length c1860]) 51 :: HP.ow (rBytesN 32) 25 p1859 c1859 s1858.1.1 :: HP.ow (rSl rByte) 26 p1860 c1860 s1858.1.2 :: HP.ow R_api_Kid 80 p1861 c1861 s1858.2.1 :: z) ⟨p284, c284, p285, c285, p286, c286, F.sl rfl, H⟩ (fun s1858 a w o p1859 c1859 p1860 c1860 p1861 c1861 F H hm => ?_)
 refine sq (sr (bk [0,0,0] F H rfl ⟨⟨_, Tryz.underlying76⟩, trivial⟩ fun a F => ?_))
 refine nl (cPm F rfl hm (fun hg1862 hm => ?_) (fun hg1862 hm => ?_))
 refine sk (ct (sq (bl (sq (sb [0,0] F H rfl fun a F => ?_)))))
 refine nl (cPm F rfl hm (fun hg1863 hm => ?_) (fun hg1863 hm => ?_))
 refine sr (sv F rfl (y_build F rfl rfl (cs := bcells ((List.replicate 32 0) : List UInt8)) (by kernel_rfl)) fun a F => ?_)
 replace H := H.owNil (rBytesN 32) 25
 replace H := H.owNil (rSl rByte) 26
 refine sv F rfl (y_build F rfl rfl (cs := [.slice none (([] : List (List UInt8))).length 0, .slice none (([] : List (List UInt8))).length 0]) (by kernel_rfl)) fun a F => ?_
 refine s_storeA wkP F rfl rfl agg25 rfl rfl rfl H 11 rfl ((bcells_length _).trans rfl) ((bcells_length _).trans (List.length_replicate (n := 32))) (bcells_flat _) fun w H => ?_
 refine s_storeA wkP F rfl rfl agg51 rfl rfl rfl H 8 rfl rfl rfl (fl rfl) fun w H => ?_
 refine bb [0] F H rfl fun a F => ?_
 replace H := H.nf 12 rfl
 refine nl (wr (tr (br (tr (tr ?_))))); cases hm; refine ⟨_, rfl, ?_⟩; rintro rfl
 refine br (tr ?_)
 replace hm := elimR hm1336
 refine tr ?_
 replace H := H.frz 1 rfl
 replace H := H.frz 1 rfl
 replace H := mk_triremeref08_Blocks H 1 rfl 0 rfl
 cases hm
 refine x_resC3 F rfl (⟨_, rfl, agg25.run_load (H.blk 12 rfl).row ((bcells_length _).trans rfl)⟩) (⟨_, rfl, agg51.run_load (H.blk 9 rfl).row rfl⟩) rfl ?_
 exact ⟨_, rfl, [.slice none (([] : List (List UInt8))).length 0, .slice none (([] : List (List UInt8))).length 0], rfl, rfl, (H.pm 13 [0] rfl:)⟩
 refine sk (ct (sr (s_build0O (R := (rSl rByte)) wkP F rfl rfl rfl elem49 rfl H fun b1864 w a H F => ?_)))
 refine s_build0O (R := R_api_Kid) wkP F rfl rfl rfl elem76 rfl H fun b1865 w a H F => ?_
 refine bb [0,0] F H rfl fun a F => ?_
 replace H := H.nf 12 rfl
 refine nl (sq (sb [0] F H rfl fun a F => ?_))
 refine nl (xm2 12 [2,3,5,6,13,15] [0,2,3,4,5,6,7,8,9,10,11] F H hm rfl rfl (fun r1900 (p1901 : Option Addr) (c1901 : Nat) z => (14, .slice p1901 (r1900).length c1901) :: z) (fun r1900 p1901 c1901 z => HP.ow (rSl rByte) 26 p1901 c1901 r1900 :: z) (fun r1900 hm => ?_) (fun r1900 a w hm p1901 c1901 F H => ?_))
 refine bl ?_
 refine xl2 12 [2,3,5,6,13,15] [0,2,3,4,5,6,7,8,9,10,11] F H hm rfl rfl (fun (s1924 : (List (List UInt8)) × Int) (p1925 : Option Addr) (c1925 : Nat) z => (14, .slice p1925 (s1924.1).length c1925) :: (16, .int .i64 (s1924.2)) :: z) (fun s1924 p1925 c1925 z => HP.ow (rSl rByte) 26 p1925 c1925 s1924.1 :: z) ⟨(some ⟨b1864,0, none⟩),0, F.sl rfl, (H.pm 12 [1,0,2,3,4,5,6,7,8,9,10,11] rfl:)⟩ (fun s1924 a w o p1925 c1925 F H hm => ?_)
 refine sq (sr (bk [0,0,0,0] F H rfl ⟨⟨_, Tryz.underlying76⟩, trivial⟩ fun a F => ?_))
 refine nl (cPm F rfl hm (fun hg1926 hm => ?_) (fun hg1926 hm => ?_))
 refine sk (ct (sq (bl (rl (bb [0,0,0] F H rfl fun a F => ?_)))))
 obtain ⟨x1927, ex1927, hm⟩ := ob hm
 obtain ⟨b1928, hp1928⟩ := H.owP 5 rfl (idxO_some ex1927).2
 obtain ⟨css1929, H⟩ := H.oxOpen 5 rfl
 obtain ⟨cs1929, hcs1929, hcl1929, H⟩ := H.oxEl 5 rfl (idxO_some ex1927).2
 refine sv F rfl (y_idxS F elem76 rfl rfl rfl hp1928 ex1927) fun a F => ?_
 refine bk [0] F H rfl ⟨fld80_0, trivial⟩ fun a F => ?_
 have G := F; replace H := rc_api_Kid (H.pk 0 rfl); obtain ⟨p1930, c1931, hl1932, rfl, J⟩ := H; have H := J; have F := G; clear G J
 refine sv F rfl (y_load1 F plain26 rfl rfl (row_at (v := .slice p1930 (x1927.1).length c1931) (H.oxRow 6 rfl hp1928 hcs1929 hcl1929) (by simp [List.getElem?_append, icells_length, bcells_length, hl1932]))) fun a F => ?_
 refine s_buildC wkP F rfl rfl rfl elem49 zero26 rfl rfl rfl rfl (by simp [Value.cells]) (by decide) H fun b1933 w a H F => ?_
 replace H := H.blkOw1 (R := (rSl rByte)) (x := x1927.1) (fun gg => ⟨_, _, rfl, (gg 1 _ rfl).choose_spec⟩)
 replace H := H.frz 0 rfl
 obtain ⟨x1935, ex1935, hm⟩ := ob hm
 refine s_app wkP F rfl rfl rfl rfl rfl rfl elem49 rfl ex1935 H 2 0 rfl rfl fun p1934 c1934 w a H F => ?_
 refine bb [0] F H rfl fun a F => ?_
 replace H := H.nf 14 rfl
 refine lz ?_
 replace H := H.oxShut 7 rfl
 refine bn (ct (rl (bb [0,0,0] F H rfl fun a F => ?_)))
 replace H := H.nf 14 rfl
 refine lz (ct ?_); cases hm
 exact ⟨_, rfl, ⟨p1934, c1934, F.sl rfl, (H.pm 14 [2,3,4,5,6,7,8,9,10,11,12,13] rfl:)⟩⟩
 refine ex (cx (cx ?_)); cases hm; refine ⟨_, rfl, ?_⟩; rintro rfl
 refine ch (ct ?_)
 exact ⟨p1925, c1925, F.sl rfl, H⟩
 refine ct (sb [0,0] F H rfl fun a F => ?_)
 replace H := H.frz 0 rfl
 obtain ⟨x1936, ex1936, hm⟩ := ob hm
 refine sd F rfl ent33 (w_m_triremeref06_Inner ex1936 (H.pm 12 [0,0,1,2,3,4,5,6,7,8,9,10,11] rfl:):) ?_; rintro _ w a ⟨p1937, c1937, rfl, H⟩ F
 refine bb [0] F H rfl fun a F => ?_
 replace H := H.nf 13 rfl
 refine nb [0] F H rfl fun a F => ?_
 refine nl (sq (sb [0] F H rfl fun a F => ?_))
 refine nl ?_
 refine xr6 13 [2,3,5,13] [7,8,9,10,11,12] F H hm rfl rfl (fun r2026 (p2027 : Option Addr) (c2027 : Nat) (p2028 : Option Addr) (c2028 : Nat) (p2029 : Option Addr) (c2029 : Nat) z => (15, .slice p2029 (r2026.2).length c2029) :: z) (fun r2026 p2027 c2027 p2028 c2028 p2029 c2029 z => HP.blk b9 ([.slice p2027 (r2026.1.1).length c2027, .slice p2028 (r2026.1.2).length c2028]) 51 :: HP.ow (rBytesN 32) 25 p2027 c2027 r2026.1.1 :: HP.ow (rSl rByte) 26 p2028 c2028 r2026.1.2 :: HP.ow R_api_Kid 80 p2029 c2029 r2026.2 :: z) (fun o2026 hm hm2026 => ?_) (fun r2026 a w hm p2027 c2027 p2028 c2028 p2029 c2029 F H => ?_)
 refine bl ?_
 replace H := H.frz 6 rfl
 refine x_loopO _ (fun (s2088 : ((List (List UInt8)) × (List (List UInt8))) × (List T_api_Kid) × Int × (List T_api_Kid) × Int) aa ww => ∃ (p2089 : Option Addr) (c2089 : Nat) (p2090 : Option Addr) (c2090 : Nat) (p2091 : Option Addr) (c2091 : Nat) (p2092 : Option Addr) (c2092 : Nat), Fr ⟨154, []⟩ aa [(2, .pointer (some ⟨b4,0, none⟩)), (3, .pointer (some ⟨b5,0, none⟩)), (5, .pointer (some ⟨b9,0, none⟩)), (6, .slice p2091 (s2088.2.1).length c2091), (7, .slice p1937 (x1936).length c1937), (8, .int .i64 (s2088.2.2.1)), (13, .int .i64 (s1858.2.2)), (15, .slice p2092 (s2088.2.2.2.1).length c2092), (17, .int .i64 (s2088.2.2.2.2))] ∧ St w0 ww (HP.sl (rInt .i64) p1937 c1937 x1936 :: HP.blk b9 ([.slice p2089 (s2088.1.1).length c2089, .slice p2090 (s2088.1.2).length c2090]) 51 :: HP.ow (rSl rByte) 26 none 0 ([] : List (List UInt8)) :: HP.ow (rBytesN 32) 25 none 0 ([] : List (List UInt8)) :: HP.blk b5 ([.slice none (([] : List (List UInt8))).length 0, .slice none (([] : List (List UInt8))).length 0]) 51 :: HP.ow (rSl rByte) 26 none 0 ([] : List (List UInt8)) :: HP.ow (rBytesN 32) 25 none 0 ([] : List (List UInt8)) :: HP.blk b4 (bcells (List.replicate 32 0)) 25 :: HP.ow (rBytesN 32) 25 p2089 c2089 s2088.1.1 :: HP.ow (rSl rByte) 26 p2090 c2090 s2088.1.2 :: HP.sl R_api_Kid p2091 c2091 s2088.2.1 :: HP.ow R_api_Kid 80 p2092 c2092 s2088.2.2.2.1 :: l)) hm ⟨p1859, c1859, p1860, c1860, p1861, c1861, (some ⟨b1865,0, none⟩),0, F.sl rfl, (H.pm 13 [1,4,7,8,9,10,11,12,5,6,0,3] rfl:)⟩ ?_
 clear F H hm
 rintro s2088 a w o ⟨p2089, c2089, p2090, c2090, p2091, c2091, p2092, c2092, F, H⟩ hm
 refine sq (sr (bk [0,0,0,0] F H rfl ⟨⟨_, Tryz.underlying77⟩, trivial⟩ fun a F => ?_))
 refine nl (cPm F rfl hm (fun hg2093 hm => ?_) (fun hg2093 hm => ?_))
 refine sk (ct (sq (bl (sb (List.replicate 6 0) F H rfl fun a F => ?_))))
 obtain ⟨x2094, ex2094, hm⟩ := ob hm
 obtain ⟨b2095, o2095, hp2095, cs2096, H⟩ := H.slE 0 rfl ex2094
 obtain rfl := H.rcI 1 rfl
 replace H := H.dp 1 rfl
 refine sv F rfl (y_idxS F elem77 rfl rfl rfl hp2095 ex2094) fun a F => ?_
 refine bk [0,0] F H rfl ⟨rfl, plain3, trivial⟩ fun a F => ?_
 obtain ⟨x2098, ex2098, hm⟩ := ob hm
 have hc2097 := H.slCap 11 rfl
 replace H := H.slSubN 33 rfl 11 rfl ex2098
 refine sv F rfl (y_slLH F elem76 rfl rfl rfl rfl ex2098 hc2097) fun a F => ?_
 replace H := H.owNil R_api_Pair 48
 refine sv F rfl (y_build F rfl rfl (cs := [.int .i64 (s1858.2.2), .slice none (([] : List T_api_Pair)).length 0, .slice (shp p2091 c2091 (s2088.2.2.1 : Int).toNat 33) (x2098).length (c2091 - (s2088.2.2.1 : Int).toNat)]) (by kernel_rfl)) fun a F => ?_
 replace H := O_triremeref08_Blocks_s (H.pm 15 [4,11,12,0,1,2,3,5,6,7,8,9,10,13,14] rfl:)
 replace H := H.frz 1 rfl
 replace H := mk_api_Node H s1858.2.2 0 rfl 2 rfl
 obtain ⟨x2099, ex2099, hm⟩ := ob hm
 refine sd F rfl ent32 (w_rbPut ex2099 (H.pm 14 [2,0,0,1,3,4,5,6,7,8,9,10,11,12,13] rfl:):) ?_; rintro _ w a ⟨rfl, hl2100, H⟩ F
 refine bb [0,0,0] F H rfl fun a F => ?_
 refine s_allocA wkP F rfl rfl rfl agz25 rfl H fun b2101 w a H F => ?_
 refine s_storeA wkP F rfl rfl agg25 rfl rfl rfl H 0 rfl ((bcells_length _).trans hl2100) ((bcells_length _).trans (List.length_replicate (n := 32))) (bcells_flat _) fun w H => ?_
 refine bb [0] F H rfl fun a F => ?_
 replace H := H.nf 15 rfl
 refine nl (sq (sb [0,0] F H rfl fun a F => ?_))
 refine nl (cNm F rfl hm (fun hg2102 hm => ?_) (fun hg2102 hm => ?_))
 refine sr (sv F rfl (y_build F rfl rfl (cs := bcells ((List.replicate 32 0) : List UInt8)) (by kernel_rfl)) fun a F => ?_)
 replace H := H.owNil (rBytesN 32) 25
 replace H := H.owNil (rSl rByte) 26
 refine sv F rfl (y_build F rfl rfl (cs := [.slice none (([] : List (List UInt8))).length 0, .slice none (([] : List (List UInt8))).length 0]) (by kernel_rfl)) fun a F => ?_
 refine bb [0] F H rfl fun a F => ?_
 refine s_storeA wkP F rfl rfl agg25 rfl rfl rfl H 14 rfl ((bcells_length _).trans rfl) ((bcells_length _).trans (List.length_replicate (n := 32))) (bcells_flat _) fun w H => ?_
 refine s_storeA wkP F rfl rfl agg51 rfl rfl rfl H 11 rfl rfl rfl (fl rfl) fun w H => ?_
 refine bb [0] F H rfl fun a F => ?_
 replace H := H.nf 17 rfl
 refine nl (wr (tr (br (tr (tr ?_))))); cases hm; refine ⟨_, rfl, ?_⟩; rintro rfl
 refine br (tr ?_)
 replace hm := elimR hm2026
 refine tr (br (tr (tr ?_))); cases hm; refine ⟨_, rfl, ?_⟩; rintro rfl
 refine br (tr ?_)
 replace hm := elimR hm1336
 refine tr ?_
 replace H := H.frz 1 rfl
 replace H := H.frz 1 rfl
 replace H := mk_triremeref08_Blocks H 1 rfl 0 rfl
 cases hm
 refine x_resC3 F rfl (⟨_, rfl, agg25.run_load (H.blk 15 rfl).row ((bcells_length _).trans rfl)⟩) (⟨_, rfl, agg51.run_load (H.blk 12 rfl).row rfl⟩) rfl ?_
 exact ⟨_, rfl, [.slice none (([] : List (List UInt8))).length 0, .slice none (([] : List (List UInt8))).length 0], rfl, rfl, (H.pm 18 [0] rfl:)⟩
 refine sk (ct (sq ?_))
 obtain ⟨x2103, ex2103, hm⟩ := ob hm
 obtain ⟨b2104, o2104, hp2104, cs2105, H⟩ := H.slE 13 rfl ex2103
 have G := F; replace H := rc_api_Kid (H.pk 1 rfl); obtain ⟨p2106, c2107, hl2108, rfl, J⟩ := H; have H := J; have F := G; clear G J
 refine mix_regionK [8,9] [] (scL [0,1,2,3,4,1005,1006,7,2008,2009,10]) [] H rfl rfl (by kernel_rfl) (by kernel_rfl) fun w H => ?_
 refine mb [0,0,0] F H rfl fun a F => ?_
 refine m_pure F rfl rfl rfl rfl (fun u hu => y_idxS F elem76 rfl rfl rfl hp2104 ex2103) fun a F => ?_
 refine mbk [0,1000,2999] F H rfl ⟨fld80_0, rfl, plain26, rfl, (aggn agg25 ((bcells_length _).trans hl2100)), trivial⟩ fun a F => ?_
 refine m_pure F rfl rfl rfl rfl (fun u hu => y_build F rfl rfl (cs := [Value.slice p2106 (x2103.1).length c2107] ++ (bcells x2099.1)) (build_80_0_1 p2106 x2103.1 c2107 x2099.1 hl2100)) fun a F => ?_
 refine m_heavy rfl rfl ?_
 refine s_build1 wkP F rfl rfl rfl agg80 elem76 rfl rfl (by simp only [List.length_append, List.length_cons, List.length_nil, icells_length, bcells_length, hl2100]) (by decide) H fun b2109 w a H F => ?_
 replace H := H.blkOw1 (R := R_api_Kid) (x := (x2103.1, x2099.1)) (fun gg => ⟨_, _, rfl, ⟨_, _, rfl, (gg 1 _ rfl).choose_spec⟩, ⟨rfl, hl2100⟩⟩)
 refine lz ?_; refine ct ⟨⟨_, H⟩, ?_⟩
 refine m_heavy rfl rfl ?_
 replace H := H.frz 0 rfl
 obtain ⟨x2111, ex2111, hm⟩ := ob hm
 refine s_app wkP F rfl rfl rfl rfl rfl rfl elem76 rfl ex2111 H 17 0 rfl rfl fun p2110 c2110 w a H F => ?_
 refine lz ?_; refine ct ⟨⟨_, H⟩, ?_⟩
 refine mb [0] F H rfl fun a F => ?_
 refine m_nil ?_
 refine ct (rl (bb [0,0,0] F H rfl fun a F => ?_))
 obtain ⟨x2112, ex2112, hm⟩ := ob hm
 obtain ⟨cs2113, H⟩ := H.slF 9 rfl hp2095 ex2112
 obtain rfl := H.rcI 1 rfl
 replace H := H.dp 1 rfl
 refine sv F rfl (y_idxS F elem77 rfl rfl rfl hp2095 ex2112) fun a F => ?_
 refine bk [0,0,0] F H rfl ⟨rfl, plain3, trivial⟩ fun a F => ?_
 replace H := H.nf 19 rfl
 refine lz (bn (ct (rl (bb [0,0,0] F H rfl fun a F => ?_))))
 refine lz ?_
 obtain ⟨p2114, c2115, p2116, c2117, H⟩ := O_triremeref08_Blocks_o (H.pk 5 rfl)
 refine ct ?_; cases hm
 exact ⟨_, rfl, ⟨p2114, c2115, p2116, c2117, p2091, c2091, p2110, c2110, F.sl rfl, (H.pm 21 [12,0,13,14,15,16,17,18,1,2,19,20] rfl:)⟩⟩
 refine ex (cx (cx ?_)); cases hm; refine ⟨_, rfl, ?_⟩; rintro rfl
 refine ch (ct ?_)
 exact ⟨_, rfl, p2089, c2089, p2090, c2090, p2092, c2092, F.sl rfl, (H.pm 12 [1,8,9,11,2,3,4,5,6,7] rfl:)⟩
 refine ct (rl (bb [0,0] F H rfl fun a F => ?_))
 refine lz (bn (ct (rl (bb [0,0,0] F H rfl fun a F => ?_))))
 refine lz (ct ?_); cases hm
 exact ⟨_, rfl, ⟨p2027, c2027, p2028, c2028, p2029, c2029, F.sl rfl, H⟩⟩
 refine ex (cx (cx ?_)); cases hm; refine ⟨_, rfl, ?_⟩; rintro rfl
 refine ch (ct ?_)
 exact ⟨_, rfl, p1859, c1859, p1860, c1860, p1861, c1861, F.sl rfl, H⟩
 refine ct (sq ?_)
 obtain ⟨x2118, ex2118, hm⟩ := ob hm
 obtain ⟨b2119, hp2119⟩ := H.owP 3 rfl (idxO_some ex2118).2
 obtain ⟨css2120, H⟩ := H.oxOpen 3 rfl
 obtain ⟨cs2120, hcs2120, hcl2120, H⟩ := H.oxEl 3 rfl (idxO_some ex2118).2
 have G := F; replace H := rc_api_Kid (H.pk 0 rfl); obtain ⟨p2121, c2122, hl2123, rfl, J⟩ := H; have H := J; have F := G; clear G J
 refine mix_regionK [5,6] [] (scL [0,1,2,1003,4,2005,2006,7]) [1] H rfl rfl (by kernel_rfl) (by kernel_rfl) fun w H => ?_
 refine mb [0] F H rfl fun a F => ?_
 refine m_pure F rfl rfl rfl rfl (fun u hu => y_idxS F elem76 rfl rfl rfl hp2119 ex2118) fun a F => ?_
 refine mbk [1] F H rfl ⟨fld80_1, trivial⟩ fun a F => ?_
 refine m_read F rfl rfl rfl rfl (y_loadA F agg25 rfl rfl (row_midE (A := [.slice p2121 (x2118.1).length c2122]) (X := bcells x2118.2) (H.oxRow 4 rfl hp2119 hcs2120 hcl2120) (by simp only [List.length_append, List.length_cons, List.length_nil, icells_length, bcells_length])) ((bcells_length _).trans hl2123)) fun a F => ?_
 refine m_pure F rfl rfl rfl rfl (fun u hu => y_loadA F agg51 rfl rfl ((hu.choose_spec.blk 0 rfl).row) rfl) fun a F => ?_
 refine m_heavy rfl rfl ?_
 refine s_storeA wkP F rfl rfl agg25 rfl rfl rfl H 10 rfl ((bcells_length _).trans hl2123) ((bcells_length _).trans (List.length_replicate (n := 32))) (bcells_flat _) fun w H => ?_
 refine lz ?_; refine ct ⟨⟨_, (H.pm 11 [1,0,2,3,4,5,6,7,8,9,10] rfl:)⟩, ?_⟩
 refine m_heavy rfl rfl ?_
 refine s_storeA wkP F rfl rfl agg51 rfl rfl rfl H 7 rfl rfl rfl (fl rfl) fun w H => ?_
 refine lz ?_; refine ct ⟨⟨_, (H.pm 11 [1,0,2,3,4,5,6,7,8,9,10] rfl:)⟩, ?_⟩
 refine mb [0] F H rfl fun a F => ?_
 refine m_nil ?_
 replace H := H.oxShut 4 rfl
 refine ct (wr ?_)
 replace H := H.frz 2 rfl
 replace H := H.frz 3 rfl
 replace H := mk_triremeref08_Blocks H 1 rfl 0 rfl
 cases hm
 refine x_resC3 F rfl (⟨_, rfl, agg25.run_load (H.blk 11 rfl).row ((bcells_length _).trans hl2123)⟩) (⟨_, rfl, agg51.run_load (H.blk 8 rfl).row rfl⟩) rfl ?_
 exact ⟨_, rfl, [.slice p1337 (r1336.1.1).length c1337, .slice p1338 (r1336.1.2).length c1338], rfl, hl2123, (H.pm 12 [0] rfl:)⟩
theorem w_m_triremeref05_Less {x0_ : List UInt8} {x1_ : List UInt8}  {w0 w : World} {l : List HP} (hl1 : (x0_).length = 32) (hl2 : (x1_).length = 32) {r : Bool} (hm : m_triremeref05_Less x0_ x1_ = some r) (H : St w0 w (l)) :
  Calls Tryz.prog 34 [.agg (bcells x0_).toArray, .agg (bcells x1_).toArray].toArray w (fun e w' => ∃ v, e = .returned v ∧ v = .bool (r) ∧ St w0 w' (l)) := by
 unfold m_triremeref05_Less at hm
 refine x_enter Tryz.func34 rfl rfl rfl ?_
 intro a F
 refine sr (s_boxA wkP F rfl rfl rfl rfl rfl H fun b3 w a H F => ?_)
 refine s_boxA wkP F rfl rfl rfl rfl rfl H fun b4 w a H F => ?_
 refine bb [0] F H rfl fun a F => ?_
 replace H := H.nf 2 rfl
 refine nl (sq (sb [0] F H rfl fun a F => ?_))
 refine nl (xr0 2 [] [0,1] F H hm rfl rfl (fun r24 z => z) (fun r24 z => z) (fun o24 hm hm24 => ?_) (fun r24 a w hm F H => ?_))
 refine bl (xl0 2 [2,3] [0,1] F H hm rfl rfl (fun (s37 : Int) z => (5, .int .i64 (s37)) :: z) (fun s37 z => z) ⟨F.sl rfl, H⟩ (fun s37 a w o F H hm => ?_))
 refine sq (sb [0,0] F H rfl fun a F => ?_)
 refine nl (cPm F rfl hm (fun hg38 hm => ?_) (fun hg38 hm => ?_))
 refine sk (ct (sq (bl (sq ?_))))
 obtain ⟨x39, ex39, hm⟩ := ob hm
 obtain ⟨x40, ex40, hm⟩ := ob hm
 refine qr H (by kernel_rfl) (by kernel_rfl) ?_
 refine qb [0] F rfl fun a F => ?_
 refine qv F rfl (fun u hu => y_idxA F arr25 rfl rfl rfl ex39 hl1) fun a F => ?_
 refine qv F rfl (fun u hu => y_load1 F plain5 rfl rfl (row_ix ((hu.blk 1 rfl).row) (bcells_idx ex39))) fun a F => ?_
 refine qb [0] F rfl fun a F => ?_
 refine qv F rfl (fun u hu => y_idxA F arr25 rfl rfl rfl ex40 hl2) fun a F => ?_
 refine qv F rfl (fun u hu => y_load1 F plain5 rfl rfl (row_ix ((hu.blk 0 rfl).row) (bcells_idx ex40))) fun a F => ?_
 refine qb [0] F rfl fun a F => ?_
 refine q_nil fun w H => ?_
 refine ct (cNm F rfl hm (fun hg41 hm => ?_) (fun hg41 hm => ?_))
 refine sq ?_
 obtain ⟨x42, ex42, hm⟩ := ob hm
 obtain ⟨x43, ex43, hm⟩ := ob hm
 refine qr H (by kernel_rfl) (by kernel_rfl) ?_
 refine qb [0] F rfl fun a F => ?_
 refine qv F rfl (fun u hu => y_idxA F arr25 rfl rfl rfl ex42 hl1) fun a F => ?_
 refine qv F rfl (fun u hu => y_load1 F plain5 rfl rfl (row_ix ((hu.blk 1 rfl).row) (bcells_idx ex42))) fun a F => ?_
 refine qb [0] F rfl fun a F => ?_
 refine qv F rfl (fun u hu => y_idxA F arr25 rfl rfl rfl ex43 hl2) fun a F => ?_
 refine qv F rfl (fun u hu => y_load1 F plain5 rfl rfl (row_ix ((hu.blk 0 rfl).row) (bcells_idx ex43))) fun a F => ?_
 refine qb [0,0] F rfl fun a F => ?_
 refine q_nil fun w H => ?_
 refine ct (wr (br (tr (tr ?_)))); cases hm; refine ⟨_, rfl, ?_⟩; rintro rfl
 refine br (tr ?_)
 replace hm := elimR hm24
 refine tr ?_
 cases hm
 refine x_ret1 F rfl rfl ?_
 exact ⟨_, rfl, rfl, (H.pm 2 [] rfl:)⟩
 refine sk (bn (ct (rl (bb [0,0,0] F H rfl fun a F => ?_))))
 refine lz (ct ?_); cases hm
 exact ⟨_, rfl, ⟨F.sl rfl, H⟩⟩
 refine ex (cx (cx ?_)); cases hm; refine ⟨_, rfl, ?_⟩; rintro rfl
 refine ch (ct ?_)
 exact ⟨_, rfl, F.cut _ trivial, H⟩
 refine ct (sb [0] F H rfl fun a F => ?_)
 refine nl (wr ?_)
 cases hm
 refine x_ret1 F rfl rfl ?_
 exact ⟨_, rfl, rfl, (H.pm 2 [] rfl:)⟩
theorem ent34 : En Tryz.prog 34 := enters Tryz.func34 (by kernel_rfl) rfl
theorem key25 : KeyA Tryz.prog 25 32 := KeyA.make (by kernel_rfl) (by kernel_rfl) Tryz.underlying25 Tryz.underlying5 (by kernel_rfl) (by kernel_rfl) (by kernel_rfl)
theorem w_m_triremeref05_Sorted {x0_ : List (List UInt8)} {p1 : Option Addr} {c1 : Nat} {w0 w : World} {l : List HP}  {r : (List (List UInt8))} (hm : m_triremeref05_Sorted x0_ = some r) (H : St w0 w (HP.sl (rBytesN 32) p1 c1 x0_ :: l)) :
  Calls Tryz.prog 18 [.slice p1 (x0_).length c1].toArray w (fun e w' => ∃ v, e = .returned v ∧ ∃ (p2 : Option Addr) (c2 : Nat), v = .slice p2 (r).length c2 ∧ St w0 w' (HP.sl (rBytesN 32) p2 c2 r :: l)) := by
 unfold m_triremeref05_Sorted at hm
 refine x_enter Tryz.func18 rfl rfl rfl ?_
 intro a F
 refine sb [0] F H rfl fun a F => ?_
 refine nl (sr (s_build0O (R := (rBytesN 32)) wkP F rfl rfl rfl elem41 rfl H fun b3 w a H F => ?_))
 refine bb [0] F H rfl fun a F => ?_
 replace H := H.nf 2 rfl
 refine nl (sq (sb [0] F H rfl fun a F => ?_))
 refine nl (xm2 2 [] [] F H hm rfl rfl (fun r1769 (p1770 : Option Addr) (c1770 : Nat) z => (3, .slice p1770 (r1769).length c1770) :: z) (fun r1769 p1770 c1770 z => HP.ow (rBytesN 32) 25 p1770 c1770 r1769 :: z) (fun r1769 hm => ?_) (fun r1769 a w hm p1770 c1770 F H => ?_))
 refine bl (xl2 2 [0] [1] F H hm rfl rfl (fun (s2947 : (List (List UInt8)) × Int) (p2948 : Option Addr) (c2948 : Nat) z => (3, .slice p2948 (s2947.1).length c2948) :: (4, .int .i64 (s2947.2)) :: z) (fun s2947 p2948 c2948 z => HP.ow (rBytesN 32) 25 p2948 c2948 s2947.1 :: z) ⟨(some ⟨b3, 0, none⟩), 0, F.sl rfl, H⟩ (fun s2947 a w o p2948 c2948 F H hm => ?_))
 refine sq (sr (bk [0,0,0,0] F H rfl ⟨⟨_, Tryz.underlying41⟩, trivial⟩ fun a F => ?_))
 refine nl (cPm F rfl hm (fun hg2949 hm => ?_) (fun hg2949 hm => ?_))
 refine sk (ct (sq (xm2 2 [0,4] [1] F H hm rfl rfl (fun r3242 (p3243 : Option Addr) (c3243 : Nat) z => (3, .slice p3243 (r3242).length c3243) :: z) (fun r3242 p3243 c3243 z => HP.ow (rBytesN 32) 25 p3243 c3243 r3242 :: z) (fun r3242 hm => ?_) (fun r3242 a w hm p3243 c3243 F H => ?_))))
 refine bl (sb [0] F H rfl fun a F => ?_)
 refine nl (sq (xm0 2 [0,3,4] [0,1] F H hm rfl rfl (fun r3278 z => (5, .int .i64 (r3278)) :: z) (fun r3278 z => z) (fun r3278 hm => ?_) (fun r3278 a w hm F H => ?_)))
 refine bl (xl0 2 [0,3,4] [0,1] F H hm rfl rfl (fun (s3301 : Int) z => (5, .int .i64 (s3301)) :: z) (fun s3301 z => z) ⟨F.sl rfl, H⟩ (fun s3301 a w o F H hm => ?_))
 refine sq (sq ?_)
 by_cases hg3302 : s3301 < ((s2947.1).length : Int)
 replace hm := ifT hg3302 hm
 obtain ⟨x3303, ex3303, hm⟩ := ob hm
 obtain ⟨b3304, hp3304⟩ := H.owP 0 rfl (idxO_some ex3303).2
 obtain ⟨css3305, H⟩ := H.oxOpen 0 rfl
 obtain ⟨cs3305, hcs3305, hcl3305, H⟩ := H.oxEl 0 rfl (idxO_some ex3303).2
 have G := F; obtain ⟨rfl, hl3306⟩ := H.rcBN 0 rfl; have F := G; clear G
 replace H := H.dp 0 rfl
 obtain ⟨x3307, ex3307, hm⟩ := ob hm
 obtain ⟨b3308, o3308, hp3308, cs3309, H⟩ := H.slE 1 rfl ex3307
 have G := F; obtain ⟨rfl, hl3310⟩ := H.rcBN 1 rfl; have F := G; clear G
 replace H := H.dp 1 rfl
 obtain ⟨x3311, ex3311, hm⟩ := ob hm
 refine qr H (by kernel_rfl) (by kernel_rfl) ?_
 refine qbk (List.replicate 5 0) F rfl ⟨⟨_, Tryz.underlying41⟩, trivial⟩ fun a F => ?_
 replace F := F.bT 19 hg3302 rfl
 refine qb [0,0] F rfl fun a F => ?_
 refine qg_on F rfl rfl rfl rfl ?_
 refine qv F rfl (fun u hu => y_idxS F elem41 rfl rfl rfl hp3304 ex3303) fun a F => ?_
 refine qg_on F rfl rfl rfl rfl ?_
 refine qv F rfl (fun u hu => y_loadA F agg25 rfl rfl (hu.oxRow 1 rfl hp3304 hcs3305 hcl3305) ((bcells_length _).trans hl3306)) fun a F => ?_
 refine qb [0,0] F rfl fun a F => ?_
 refine qg_on F rfl rfl rfl rfl ?_
 refine qv F rfl (fun u hu => y_idxS F elem41 rfl rfl rfl hp3308 ex3307) fun a F => ?_
 refine qbk [999] F rfl ⟨rfl, (aggn agg25 ((bcells_length _).trans hl3310)), trivial⟩ fun a F => ?_
 refine qg_on F rfl rfl rfl rfl ?_
 refine q_call F rfl rfl rfl (fun u hu => y_call F rfl rfl ent34) (fun u hu => (w_m_triremeref05_Less hl3306 hl3310 ex3311 hu).mono fun e u2 he => by obtain ⟨v, rfl, rfl, H⟩ := he; exact ⟨rfl, H⟩) fun a F => ?_
 refine qb [0] F rfl fun a F => ?_
 refine q_nil fun w H => ?_
 replace H := H.oxShut 1 rfl
 refine ct (cB F rfl (fun hg3312 => ?_) (fun hg3312 => ?_))
 replace hm := ifT hg3312 hm
 refine sk (ct (bl (rl (bb [0,0,0] F H rfl fun a F => ?_))))
 replace H := H.nf 3 rfl
 refine lz (bn (ct ?_)); cases hm
 exact ⟨_, rfl, ⟨F.sl rfl, (H.pm 3 [1,2] rfl:)⟩⟩
 replace hm := ifF (nT hg3312) hm
 refine ex (cx (cx ?_)); cases hm; refine ⟨_, rfl, ?_⟩; rintro rfl
 refine ch (ct ?_)
 exact ⟨F.sl rfl, (H.pm 3 [1,2] rfl:)⟩
 replace hm := ifF hg3302 hm
 refine qr H (by kernel_rfl) (by kernel_rfl) ?_
 refine qbk (List.replicate 5 0) F rfl ⟨⟨_, Tryz.underlying41⟩, trivial⟩ fun a F => ?_
 replace F := F.bF 19 hg3302 rfl
 refine qb (List.replicate 10 0) F rfl fun a F => ?_
 refine q_nil fun w H => ?_
 refine ct (cF F rfl ?_)
 refine ex (cx (cx ?_)); cases hm; refine ⟨_, rfl, ?_⟩; rintro rfl
 refine ch (ct ?_)
 exact ⟨F.sl rfl, H⟩
 refine ct (sq (sq ?_))
 by_cases hg3313 : r3278 < ((s2947.1).length : Int)
 replace hm := ifT hg3313 hm
 obtain ⟨x3314, ex3314, hm⟩ := ob hm
 obtain ⟨b3315, hp3315⟩ := H.owP 0 rfl (idxO_some ex3314).2
 obtain ⟨css3316, H⟩ := H.oxOpen 0 rfl
 obtain ⟨cs3316, hcs3316, hcl3316, H⟩ := H.oxEl 0 rfl (idxO_some ex3314).2
 have G := F; obtain ⟨rfl, hl3317⟩ := H.rcBN 0 rfl; have F := G; clear G
 replace H := H.dp 0 rfl
 obtain ⟨x3318, ex3318, hm⟩ := ob hm
 obtain ⟨b3319, o3319, hp3319, cs3320, H⟩ := H.slE 1 rfl ex3318
 have G := F; obtain ⟨rfl, hl3321⟩ := H.rcBN 1 rfl; have F := G; clear G
 replace H := H.dp 1 rfl
 refine qr H (by kernel_rfl) (by kernel_rfl) ?_
 refine qbk (List.replicate 5 0) F rfl ⟨⟨_, Tryz.underlying41⟩, trivial⟩ fun a F => ?_
 replace F := F.bT 36 hg3313 rfl
 refine qb [0,0] F rfl fun a F => ?_
 refine qg_on F rfl rfl rfl rfl ?_
 refine qv F rfl (fun u hu => y_idxS F elem41 rfl rfl rfl hp3315 ex3314) fun a F => ?_
 refine qg_on F rfl rfl rfl rfl ?_
 refine qv F rfl (fun u hu => y_loadA F agg25 rfl rfl (hu.oxRow 1 rfl hp3315 hcs3316 hcl3316) ((bcells_length _).trans hl3317)) fun a F => ?_
 refine qb [0,0] F rfl fun a F => ?_
 refine qg_on F rfl rfl rfl rfl ?_
 refine qv F rfl (fun u hu => y_idxS F elem41 rfl rfl rfl hp3319 ex3318) fun a F => ?_
 refine qbk [999] F rfl ⟨rfl, (aggn agg25 ((bcells_length _).trans hl3321)), trivial⟩ fun a F => ?_
 refine qg_on F rfl rfl rfl rfl ?_
 refine qv F rfl (fun u hu => y_eqlA F key25 rfl rfl rfl hl3317 hl3321) fun a F => ?_
 refine qb [0] F rfl fun a F => ?_
 refine q_nil fun w H => ?_
 replace H := H.oxShut 1 rfl
 refine ct (cPm F rfl hm (fun hg3322 hm => ?_) (fun hg3322 hm => ?_))
 refine ex (cx (ch ?_))
 cases hm
 refine ct ?_
 exact ⟨p2948, c2948, F.sl rfl, (H.pm 3 [1,2] rfl:)⟩
 refine sk (ct (sb [0,0,0] F H rfl fun a F => ?_))
 obtain ⟨x3323, ex3323, hm⟩ := ob hm
 obtain ⟨cs3324, H⟩ := H.slF 2 rfl hp3319 ex3323
 have G := F; obtain ⟨rfl, hl3325⟩ := H.rcBN 1 rfl; have F := G; clear G
 replace H := H.dp 1 rfl
 refine sv F rfl (y_idxS F elem41 rfl rfl rfl hp3319 ex3323) fun a F => ?_
 refine bk [999] F H rfl ⟨rfl, (aggn agg25 ((bcells_length _).trans hl3325)), trivial⟩ fun a F => ?_
 refine s_build1 wkP F rfl rfl rfl agg25 elem41 rfl rfl ((bcells_length _).trans hl3325) (by decide) H fun b3326 w a H F => ?_
 replace H := H.blkOw1 (R := (rBytesN 32)) (x := x3323) (fun gg => ⟨rfl, hl3325⟩)
 replace H := H.frz 0 rfl
 obtain ⟨x3328, ex3328, hm⟩ := ob hm
 refine s_app wkP F rfl rfl rfl rfl rfl rfl elem41 rfl ex3328 H 3 0 rfl rfl fun p3327 c3327 w a H F => ?_
 refine bb [0] F H rfl fun a F => ?_
 replace H := H.nf 5 rfl
 refine nl (sr (bk [0,0,0,0] F H rfl ⟨⟨_, Tryz.underlying41⟩, trivial⟩ fun a F => ?_))
 refine nl (xm2 5 [0,4] [1,2,4] F H hm rfl rfl (fun r3378 (p3379 : Option Addr) (c3379 : Nat) z => (3, .slice p3379 (r3378).length c3379) :: z) (fun r3378 p3379 c3379 z => HP.ow (rBytesN 32) 25 p3379 c3379 r3378 :: z) (fun r3378 hm => ?_) (fun r3378 a w hm p3379 c3379 F H => ?_))
 refine bl (xl2 5 [0,4,5] [1,2,4] F H hm rfl rfl (fun (s3412 : (List (List UInt8)) × Int) (p3413 : Option Addr) (c3413 : Nat) z => (3, .slice p3413 (s3412.1).length c3413) :: (6, .int .i64 (s3412.2)) :: z) (fun s3412 p3413 c3413 z => HP.ow (rBytesN 32) 25 p3413 c3413 s3412.1 :: z) ⟨p3327, c3327, F.sl rfl, (H.pm 5 [3,1,2,4] rfl:)⟩ (fun s3412 a w o p3413 c3413 F H hm => ?_))
 refine sq (sb [0,0,0] F H rfl fun a F => ?_)
 refine nl (cPm F rfl hm (fun hg3414 hm => ?_) (fun hg3414 hm => ?_))
 refine sk (ct (sq (bl (sb [0,0] F H rfl fun a F => ?_))))
 obtain ⟨x3415, ex3415, hm⟩ := ob hm
 obtain ⟨b3416, hp3416⟩ := H.owP 0 rfl (idxO_some ex3415).2
 obtain ⟨css3417, H⟩ := H.oxOpen 0 rfl
 obtain ⟨cs3417, hcs3417, hcl3417, H⟩ := H.oxEl 0 rfl (idxO_some ex3415).2
 have G := F; obtain ⟨rfl, hl3418⟩ := H.rcBN 0 rfl; have F := G; clear G
 replace H := H.dp 0 rfl
 refine sv F rfl (y_idxS F elem41 rfl rfl rfl hp3416 ex3415) fun a F => ?_
 refine sv F rfl (y_loadA F agg25 rfl rfl (H.oxRow 0 rfl hp3416 hcs3417 hcl3417) ((bcells_length _).trans hl3418)) fun a F => ?_
 refine s_allocA wkP F rfl rfl rfl agz25 rfl H fun b3419 w a H F => ?_
 refine s_storeA wkP F rfl rfl agg25 rfl rfl rfl H 0 rfl ((bcells_length _).trans hl3418) ((bcells_length _).trans (List.length_replicate (n := 32))) (bcells_flat _) fun w H => ?_
 replace H := H.nf 5 rfl
 refine nl ?_
 replace H := H.oxShut 1 rfl
 refine sb (List.replicate 5 0) F H rfl fun a F => ?_
 obtain ⟨x3420, ex3420, hm⟩ := ob hm
 obtain ⟨css3421, H⟩ := H.oxOpen 1 rfl
 obtain ⟨cs3421, hcs3421, hcl3421, H⟩ := H.oxEl 1 rfl (idxO_some ex3420).2
 have G := F; obtain ⟨rfl, hl3422⟩ := H.rcBN 0 rfl; have F := G; clear G
 replace H := H.dp 0 rfl
 refine sv F rfl (y_idxS F elem41 rfl rfl rfl hp3416 ex3420) fun a F => ?_
 refine sv F rfl (y_loadA F agg25 rfl rfl (H.oxRow 1 rfl hp3416 hcs3421 hcl3421) ((bcells_length _).trans hl3422)) fun a F => ?_
 obtain ⟨x3423, ex3423, hm⟩ := ob hm
 obtain ⟨cs3424, hcs3424, hcl3424, H⟩ := H.oxEl 1 rfl (idxO_some ex3423).2
 have G := F; obtain ⟨rfl, hl3425⟩ := H.rcBN 0 rfl; have F := G; clear G
 replace H := H.dp 0 rfl
 refine sv F rfl (y_idxS F elem41 rfl rfl rfl hp3416 ex3423) fun a F => ?_
 replace H := H.oxShut 1 rfl
 refine s_owSetA wkP F rfl rfl agg25 rfl rfl rfl rfl H 1 rfl hp3416 ex3423 (zz := x3420) (fun gg => ⟨rfl, hl3422⟩) (bcells_flat _) ((bcells_length _).trans hl3422) fun w H => ?_
 replace H : St w0 w (HP.blk b3419 (bcells x3415) 25 :: HP.ow (rBytesN 32) 25 p3413 c3413 ((s3412.1).set (s3412.2 : Int).toNat x3420) :: HP.row b3319 (o3319 + (s2947.2 : Int).toNat * 32) (bcells x3323) :: HP.row b3319 (o3319 + (s2947.2 : Int).toNat * 32) (bcells x3318) :: HP.sl (rBytesN 32) p1 c1 x0_ :: l) := (by have h := H; first | exact h | (simp only [List.length_set] at h ⊢; exact h))
 replace F := F.bool (k := 3) (u := .slice p3413 ((s3412.1).set (s3412.2 : Int).toNat x3420).length c3413) rfl (by simp only [List.length_set])
 replace F := F.bool (k := 62) (u := .slice p3413 ((s3412.1).set (s3412.2 : Int).toNat x3420).length c3413) rfl (by simp only [List.length_set])
 replace F := F.bool (k := 66) (u := .slice p3413 ((s3412.1).set (s3412.2 : Int).toNat x3420).length c3413) rfl (by simp only [List.length_set])
 replace F := F.bool (k := 68) (u := .slice p3413 ((s3412.1).set (s3412.2 : Int).toNat x3420).length c3413) rfl (by simp only [List.length_set])
 refine nl (rl (bk [0,0,0,999] F H rfl ⟨rfl, (aggn agg25 ((bcells_length _).trans hl3418)), trivial⟩ fun a F => ?_))
 obtain ⟨x3426, ex3426, hm⟩ := ob hm
 obtain ⟨css3427, H⟩ := H.oxOpen 1 rfl
 obtain ⟨cs3427, hcs3427, hcl3427, H⟩ := H.oxEl 1 rfl (idxO_some ex3426).2
 have G := F; obtain ⟨rfl, hl3428⟩ := H.rcBN 0 rfl; have F := G; clear G
 replace H := H.dp 0 rfl
 refine sv F rfl (y_idxS F elem41 rfl rfl rfl hp3416 ex3426) fun a F => ?_
 replace H := H.oxShut 1 rfl
 refine s_owSetA wkP F rfl rfl agg25 rfl rfl rfl rfl H 1 rfl hp3416 ex3426 (zz := x3415) (fun gg => ⟨rfl, hl3418⟩) (bcells_flat _) ((bcells_length _).trans hl3418) fun w H => ?_
 replace H : St w0 w (HP.blk b3419 (bcells x3415) 25 :: HP.ow (rBytesN 32) 25 p3413 c3413 (((s3412.1).set (s3412.2 : Int).toNat x3420).set (IntKind.i64.wrap (s3412.2 - 1) : Int).toNat x3415) :: HP.row b3319 (o3319 + (s2947.2 : Int).toNat * 32) (bcells x3323) :: HP.row b3319 (o3319 + (s2947.2 : Int).toNat * 32) (bcells x3318) :: HP.sl (rBytesN 32) p1 c1 x0_ :: l) := (by have h := H; first | exact h | (simp only [List.length_set] at h ⊢; exact h))
 replace F := F.bool (k := 3) (u := .slice p3413 (((s3412.1).set (s3412.2 : Int).toNat x3420).set (IntKind.i64.wrap (s3412.2 - 1) : Int).toNat x3415).length c3413) rfl (by simp only [List.length_set])
 replace F := F.bool (k := 62) (u := .slice p3413 (((s3412.1).set (s3412.2 : Int).toNat x3420).set (IntKind.i64.wrap (s3412.2 - 1) : Int).toNat x3415).length c3413) rfl (by simp only [List.length_set])
 replace F := F.bool (k := 66) (u := .slice p3413 (((s3412.1).set (s3412.2 : Int).toNat x3420).set (IntKind.i64.wrap (s3412.2 - 1) : Int).toNat x3415).length c3413) rfl (by simp only [List.length_set])
 replace F := F.bool (k := 68) (u := .slice p3413 (((s3412.1).set (s3412.2 : Int).toNat x3420).set (IntKind.i64.wrap (s3412.2 - 1) : Int).toNat x3415).length c3413) rfl (by simp only [List.length_set])
 replace F := F.bool (k := 74) (u := .slice p3413 (((s3412.1).set (s3412.2 : Int).toNat x3420).set (IntKind.i64.wrap (s3412.2 - 1) : Int).toNat x3415).length c3413) rfl (by simp only [List.length_set])
 refine lz (bn (ct (rl (bb [0,0,0] F H rfl fun a F => ?_))))
 refine lz (ct ?_); cases hm
 exact ⟨_, rfl, ⟨p3413, c3413, F.sl rfl, (H.pm 5 [1,2,3,4] rfl:)⟩⟩
 refine ex (cx (cx ?_)); cases hm; refine ⟨_, rfl, ?_⟩; rintro rfl
 refine ch (ct ?_)
 exact ⟨p3413, c3413, F.sl rfl, H⟩
 refine bn ?_
 cases hm
 refine ct ?_
 exact ⟨p3379, c3379, F.sl rfl, (H.pm 4 [0,3] rfl:)⟩
 replace hm := ifF hg3313 hm
 refine qr H (by kernel_rfl) (by kernel_rfl) ?_
 refine qbk (List.replicate 5 0) F rfl ⟨⟨_, Tryz.underlying41⟩, trivial⟩ fun a F => ?_
 replace F := F.bF 36 hg3313 rfl
 refine qb (List.replicate 10 0) F rfl fun a F => ?_
 refine q_nil fun w H => ?_
 refine ct (cF F rfl ?_)
 refine sk (ct (sb [0,0,0] F H rfl fun a F => ?_))
 obtain ⟨x3429, ex3429, hm⟩ := ob hm
 obtain ⟨b3430, o3430, hp3430, cs3431, H⟩ := H.slE 1 rfl ex3429
 have G := F; obtain ⟨rfl, hl3432⟩ := H.rcBN 1 rfl; have F := G; clear G
 replace H := H.dp 1 rfl
 refine sv F rfl (y_idxS F elem41 rfl rfl rfl hp3430 ex3429) fun a F => ?_
 refine bk [999] F H rfl ⟨rfl, (aggn agg25 ((bcells_length _).trans hl3432)), trivial⟩ fun a F => ?_
 refine s_build1 wkP F rfl rfl rfl agg25 elem41 rfl rfl ((bcells_length _).trans hl3432) (by decide) H fun b3433 w a H F => ?_
 replace H := H.blkOw1 (R := (rBytesN 32)) (x := x3429) (fun gg => ⟨rfl, hl3432⟩)
 replace H := H.frz 0 rfl
 obtain ⟨x3435, ex3435, hm⟩ := ob hm
 refine s_app wkP F rfl rfl rfl rfl rfl rfl elem41 rfl ex3435 H 2 0 rfl rfl fun p3434 c3434 w a H F => ?_
 refine bb [0] F H rfl fun a F => ?_
 replace H := H.nf 4 rfl
 refine nl (sr (bk [0,0,0,0] F H rfl ⟨⟨_, Tryz.underlying41⟩, trivial⟩ fun a F => ?_))
 refine nl (xm2 4 [0,4] [1,3] F H hm rfl rfl (fun r3485 (p3486 : Option Addr) (c3486 : Nat) z => (3, .slice p3486 (r3485).length c3486) :: z) (fun r3485 p3486 c3486 z => HP.ow (rBytesN 32) 25 p3486 c3486 r3485 :: z) (fun r3485 hm => ?_) (fun r3485 a w hm p3486 c3486 F H => ?_))
 refine bl (xl2 4 [0,4,5] [1,3] F H hm rfl rfl (fun (s3519 : (List (List UInt8)) × Int) (p3520 : Option Addr) (c3520 : Nat) z => (3, .slice p3520 (s3519.1).length c3520) :: (6, .int .i64 (s3519.2)) :: z) (fun s3519 p3520 c3520 z => HP.ow (rBytesN 32) 25 p3520 c3520 s3519.1 :: z) ⟨p3434, c3434, F.sl rfl, (H.pm 4 [2,1,3] rfl:)⟩ (fun s3519 a w o p3520 c3520 F H hm => ?_))
 refine sq (sb [0,0,0] F H rfl fun a F => ?_)
 refine nl (cPm F rfl hm (fun hg3521 hm => ?_) (fun hg3521 hm => ?_))
 refine sk (ct (sq (bl (sb [0,0] F H rfl fun a F => ?_))))
 obtain ⟨x3522, ex3522, hm⟩ := ob hm
 obtain ⟨b3523, hp3523⟩ := H.owP 0 rfl (idxO_some ex3522).2
 obtain ⟨css3524, H⟩ := H.oxOpen 0 rfl
 obtain ⟨cs3524, hcs3524, hcl3524, H⟩ := H.oxEl 0 rfl (idxO_some ex3522).2
 have G := F; obtain ⟨rfl, hl3525⟩ := H.rcBN 0 rfl; have F := G; clear G
 replace H := H.dp 0 rfl
 refine sv F rfl (y_idxS F elem41 rfl rfl rfl hp3523 ex3522) fun a F => ?_
 refine sv F rfl (y_loadA F agg25 rfl rfl (H.oxRow 0 rfl hp3523 hcs3524 hcl3524) ((bcells_length _).trans hl3525)) fun a F => ?_
 refine s_allocA wkP F rfl rfl rfl agz25 rfl H fun b3526 w a H F => ?_
 refine s_storeA wkP F rfl rfl agg25 rfl rfl rfl H 0 rfl ((bcells_length _).trans hl3525) ((bcells_length _).trans (List.length_replicate (n := 32))) (bcells_flat _) fun w H => ?_
 replace H := H.nf 4 rfl
 refine nl ?_
 replace H := H.oxShut 1 rfl
 refine sb (List.replicate 5 0) F H rfl fun a F => ?_
 obtain ⟨x3527, ex3527, hm⟩ := ob hm
 obtain ⟨css3528, H⟩ := H.oxOpen 1 rfl
 obtain ⟨cs3528, hcs3528, hcl3528, H⟩ := H.oxEl 1 rfl (idxO_some ex3527).2
 have G := F; obtain ⟨rfl, hl3529⟩ := H.rcBN 0 rfl; have F := G; clear G
 replace H := H.dp 0 rfl
 refine sv F rfl (y_idxS F elem41 rfl rfl rfl hp3523 ex3527) fun a F => ?_
 refine sv F rfl (y_loadA F agg25 rfl rfl (H.oxRow 1 rfl hp3523 hcs3528 hcl3528) ((bcells_length _).trans hl3529)) fun a F => ?_
 obtain ⟨x3530, ex3530, hm⟩ := ob hm
 obtain ⟨cs3531, hcs3531, hcl3531, H⟩ := H.oxEl 1 rfl (idxO_some ex3530).2
 have G := F; obtain ⟨rfl, hl3532⟩ := H.rcBN 0 rfl; have F := G; clear G
 replace H := H.dp 0 rfl
 refine sv F rfl (y_idxS F elem41 rfl rfl rfl hp3523 ex3530) fun a F => ?_
 replace H := H.oxShut 1 rfl
 refine s_owSetA wkP F rfl rfl agg25 rfl rfl rfl rfl H 1 rfl hp3523 ex3530 (zz := x3527) (fun gg => ⟨rfl, hl3529⟩) (bcells_flat _) ((bcells_length _).trans hl3529) fun w H => ?_
 replace H : St w0 w (HP.blk b3526 (bcells x3522) 25 :: HP.ow (rBytesN 32) 25 p3520 c3520 ((s3519.1).set (s3519.2 : Int).toNat x3527) :: HP.row b3430 (o3430 + (s2947.2 : Int).toNat * 32) (bcells x3429) :: HP.sl (rBytesN 32) p1 c1 x0_ :: l) := (by have h := H; first | exact h | (simp only [List.length_set] at h ⊢; exact h))
 replace F := F.bool (k := 3) (u := .slice p3520 ((s3519.1).set (s3519.2 : Int).toNat x3527).length c3520) rfl (by simp only [List.length_set])
 replace F := F.bool (k := 62) (u := .slice p3520 ((s3519.1).set (s3519.2 : Int).toNat x3527).length c3520) rfl (by simp only [List.length_set])
 replace F := F.bool (k := 66) (u := .slice p3520 ((s3519.1).set (s3519.2 : Int).toNat x3527).length c3520) rfl (by simp only [List.length_set])
 replace F := F.bool (k := 68) (u := .slice p3520 ((s3519.1).set (s3519.2 : Int).toNat x3527).length c3520) rfl (by simp only [List.length_set])
 refine nl (rl (bk [0,0,0,999] F H rfl ⟨rfl, (aggn agg25 ((bcells_length _).trans hl3525)), trivial⟩ fun a F => ?_))
 obtain ⟨x3533, ex3533, hm⟩ := ob hm
 obtain ⟨css3534, H⟩ := H.oxOpen 1 rfl
 obtain ⟨cs3534, hcs3534, hcl3534, H⟩ := H.oxEl 1 rfl (idxO_some ex3533).2
 have G := F; obtain ⟨rfl, hl3535⟩ := H.rcBN 0 rfl; have F := G; clear G
 replace H := H.dp 0 rfl
 refine sv F rfl (y_idxS F elem41 rfl rfl rfl hp3523 ex3533) fun a F => ?_
 replace H := H.oxShut 1 rfl
 refine s_owSetA wkP F rfl rfl agg25 rfl rfl rfl rfl H 1 rfl hp3523 ex3533 (zz := x3522) (fun gg => ⟨rfl, hl3525⟩) (bcells_flat _) ((bcells_length _).trans hl3525) fun w H => ?_
 replace H : St w0 w (HP.blk b3526 (bcells x3522) 25 :: HP.ow (rBytesN 32) 25 p3520 c3520 (((s3519.1).set (s3519.2 : Int).toNat x3527).set (IntKind.i64.wrap (s3519.2 - 1) : Int).toNat x3522) :: HP.row b3430 (o3430 + (s2947.2 : Int).toNat * 32) (bcells x3429) :: HP.sl (rBytesN 32) p1 c1 x0_ :: l) := (by have h := H; first | exact h | (simp only [List.length_set] at h ⊢; exact h))
 replace F := F.bool (k := 3) (u := .slice p3520 (((s3519.1).set (s3519.2 : Int).toNat x3527).set (IntKind.i64.wrap (s3519.2 - 1) : Int).toNat x3522).length c3520) rfl (by simp only [List.length_set])
 replace F := F.bool (k := 62) (u := .slice p3520 (((s3519.1).set (s3519.2 : Int).toNat x3527).set (IntKind.i64.wrap (s3519.2 - 1) : Int).toNat x3522).length c3520) rfl (by simp only [List.length_set])
 replace F := F.bool (k := 66) (u := .slice p3520 (((s3519.1).set (s3519.2 : Int).toNat x3527).set (IntKind.i64.wrap (s3519.2 - 1) : Int).toNat x3522).length c3520) rfl (by simp only [List.length_set])
 replace F := F.bool (k := 68) (u := .slice p3520 (((s3519.1).set (s3519.2 : Int).toNat x3527).set (IntKind.i64.wrap (s3519.2 - 1) : Int).toNat x3522).length c3520) rfl (by simp only [List.length_set])
 replace F := F.bool (k := 74) (u := .slice p3520 (((s3519.1).set (s3519.2 : Int).toNat x3527).set (IntKind.i64.wrap (s3519.2 - 1) : Int).toNat x3522).length c3520) rfl (by simp only [List.length_set])
 refine lz (bn (ct (rl (bb [0,0,0] F H rfl fun a F => ?_))))
 refine lz (ct ?_); cases hm
 exact ⟨_, rfl, ⟨p3520, c3520, F.sl rfl, (H.pm 4 [1,2,3] rfl:)⟩⟩
 refine ex (cx (cx ?_)); cases hm; refine ⟨_, rfl, ?_⟩; rintro rfl
 refine ch (ct ?_)
 exact ⟨p3520, c3520, F.sl rfl, H⟩
 refine bn ?_
 cases hm
 refine ct ?_
 exact ⟨p3486, c3486, F.sl rfl, (H.pm 3 [0,2] rfl:)⟩
 refine ct (rl (bb [0,0,0] F H rfl fun a F => ?_))
 refine lz (ct ?_); cases hm
 exact ⟨_, rfl, ⟨p3243, c3243, F.sl rfl, H⟩⟩
 refine ex (cx (cx ?_)); cases hm; refine ⟨_, rfl, ?_⟩; rintro rfl
 refine ch (ct ?_)
 exact ⟨p2948, c2948, F.sl rfl, (H.pm 2 [0] rfl:)⟩
 refine ct (sb [0,0] F H rfl fun a F => ?_)
 refine nl (wr ?_)
 replace H := H.frz 0 rfl
 cases hm
 refine x_ret1 F rfl rfl ?_
 exact ⟨_, rfl, p1770, c1770, rfl, H⟩
theorem w_m_triremeref05_Same {x0_ : List (List UInt8)} {x1_ : List (List UInt8)} {p1 : Option Addr} {c1 : Nat} {p2 : Option Addr} {c2 : Nat} {w0 w : World} {l : List HP}  {r : Bool} (hm : m_triremeref05_Same x0_ x1_ = some r) (H : St w0 w (HP.sl (rBytesN 32) p1 c1 x0_ :: HP.sl (rBytesN 32) p2 c2 x1_ :: l)) :
  Calls Tryz.prog 17 [.slice p1 (x0_).length c1, .slice p2 (x1_).length c2].toArray w (fun e w' => ∃ v, e = .returned v ∧ v = .bool (r) ∧ St w0 w' (l)) := by
 unfold m_triremeref05_Same at hm
 refine x_enter Tryz.func17 rfl rfl rfl ?_
 intro a F
 refine sb [0] F H rfl fun a F => ?_
 refine nl (sq (sr (bk (List.replicate 5 0) F H rfl ⟨⟨_, Tryz.underlying41⟩, ⟨_, Tryz.underlying41⟩, trivial⟩ fun a F => ?_)))
 refine nl (cNm F rfl hm (fun hg3 hm => ?_) (fun hg3 hm => ?_))
 refine sb [0] F H rfl fun a F => ?_
 refine nl (wr (tr ?_))
 cases hm
 refine x_ret1 F rfl rfl ?_
 exact ⟨_, rfl, rfl, (H.pm 2 [] rfl:)⟩
 refine sk (ct (sq (sb [0] F H rfl fun a F => ?_)))
 refine nl (xr0 2 [] [] F H hm rfl rfl (fun r35 z => z) (fun r35 z => z) (fun o35 hm hm35 => ?_) (fun r35 a w hm F H => ?_))
 refine bl (xl0 2 [0,1] [0,1] F H hm rfl rfl (fun (s56 : Int) z => (5, .int .i64 (s56)) :: z) (fun s56 z => z) ⟨F.sl rfl, H⟩ (fun s56 a w o F H hm => ?_))
 refine sq (sr (bk [0,0,0,0] F H rfl ⟨⟨_, Tryz.underlying41⟩, trivial⟩ fun a F => ?_))
 refine nl (cPm F rfl hm (fun hg57 hm => ?_) (fun hg57 hm => ?_))
 refine sk (ct (sq (bl (sq ?_))))
 obtain ⟨x58, ex58, hm⟩ := ob hm
 obtain ⟨b59, o59, hp59, cs60, H⟩ := H.slE 0 rfl ex58
 have G := F; obtain ⟨rfl, hl61⟩ := H.rcBN 1 rfl; have F := G; clear G
 replace H := H.dp 1 rfl
 obtain ⟨x62, ex62, hm⟩ := ob hm
 obtain ⟨b63, o63, hp63⟩ := H.slP 2 rfl (idxO_some ex62).2
 obtain ⟨cs64, hcl64, H⟩ := H.slEl 2 rfl hp63 (idxO_some ex62).2
 have G := F; obtain ⟨rfl, hl65⟩ := H.rcBN 1 rfl; have F := G; clear G
 replace H := H.dp 1 rfl
 clear hcl64
 refine qr H (by kernel_rfl) (by kernel_rfl) ?_
 refine qb [0,0] F rfl fun a F => ?_
 refine qv F rfl (fun u hu => y_idxS F elem41 rfl rfl rfl hp59 ex58) fun a F => ?_
 refine qbk [1999,0,0] F rfl ⟨rfl, (aggn agg25 ((bcells_length _).trans hl61)), trivial⟩ fun a F => ?_
 refine qv F rfl (fun u hu => y_idxS F elem41 rfl rfl rfl hp63 ex62) fun a F => ?_
 refine qbk [999] F rfl ⟨rfl, (aggn agg25 ((bcells_length _).trans hl65)), trivial⟩ fun a F => ?_
 refine qv F rfl (fun u hu => y_neqA F key25 rfl rfl rfl hl61 hl65) fun a F => ?_
 refine q_nil fun w H => ?_
 refine ct (cNm F rfl hm (fun hg66 hm => ?_) (fun hg66 hm => ?_))
 refine sb [0] F H rfl fun a F => ?_
 refine nl (wr (br (tr (tr ?_)))); cases hm; refine ⟨_, rfl, ?_⟩; rintro rfl
 refine br (tr ?_)
 replace hm := elimR hm35
 refine tr ?_
 cases hm
 refine x_ret1 F rfl rfl ?_
 exact ⟨_, rfl, rfl, (H.pm 4 [] rfl:)⟩
 refine sk (bn (ct (rl (bb [0,0,0] F H rfl fun a F => ?_))))
 refine lz (ct ?_); cases hm
 exact ⟨_, rfl, ⟨F.sl rfl, (H.pm 4 [2,3] rfl:)⟩⟩
 refine ex (cx (cx ?_)); cases hm; refine ⟨_, rfl, ?_⟩; rintro rfl
 refine ch (ct ?_)
 exact ⟨_, rfl, F.cut _ trivial, (H.pm 2 [] rfl:)⟩
 refine ct (sb [0] F H rfl fun a F => ?_)
 refine nl (wr ?_)
 cases hm
 refine x_ret1 F rfl rfl ?_
 exact ⟨_, rfl, rfl, H⟩
theorem w_rGreatBag {bag : (List UInt8) → Option (List UInt8)} {q1 : Option Nat} {w0 w : World} {l : List HP}  {r : Bool} (hm : rGreatBag bag = some r) (H : St w0 w (HP.fm q1 hv false (rSl rByte) (fun l => l.length = 32) bag :: l)) :
  Calls Tryz.prog 5 [.map q1].toArray w (fun e w' => ∃ v, e = .returned v ∧ v = .bool (r) ∧ St w0 w' (l)) := by
 unfold rGreatBag at hm
 refine x_enter Tryz.func5 rfl rfl rfl ?_
 intro a F
 refine sb [0] F H rfl fun a F => ?_
 refine nb [0] F H rfl fun a F => ?_
 refine nl (sq (sb [0] F H rfl fun a F => ?_))
 obtain ⟨raw2, cl2, es2, hM2, hE2, H⟩ := H.fmRng 0 rfl
 refine s_rngF wkP F rfl rfl rfl Tryz.underlying23 rfl H 1 rfl rfl fun r2 w a H F => ?_
 replace H := H.nf 4 rfl
 refine nl (bl ?_)
 have hmM13 := hm; clear hm
 refine x_loopM es2 hmM13 (fun (s13 : Int) vis13 aa ww => Fr ⟨26, []⟩ aa [(3, .int .i64 (s13)), (7, .pointer (some ⟨r2, 0, none⟩))] ∧ St w0 ww (HP.obj r2 (mit q1 cl2 (bornsOf raw2 (vis13))) :: HP.es (rSl rByte) (fun l => l.length = 32) es2 bag :: HP.mof q1 raw2 cl2 :: HP.fm q1 hv false (rSl rByte) (fun l => l.length = 32) bag :: l)) ⟨F.sl rfl, H⟩ ?_
 clear F H
 rintro s13 vis13 a w hr13 ⟨F, H⟩
 refine sr (s_nxtF wkP F rfl rfl rfl rfl rfl hM2 hr13.ok H 2 0 rfl rfl rfl (fun hall14 w a H F => ?_) (fun q14 k14 cs14 v14 hq14 hn14 w a H F => ?_))
 have hm := elimL (hr13.done hE2 hall14 hmM13)
 refine bb [0] F H rfl fun a F => ?_
 refine nl (sq (cF F rfl ?_))
 refine ex (cx (cx ?_))
 replace H := H.dp 1 rfl
 replace H := H.dp 1 rfl
 replace H := H.dp 0 rfl
 refine ch (ct (sb [0,0,0] F H rfl fun a F => ?_))
 replace H := H.nf 1 rfl
 refine nl (wr ?_)
 cases hm
 refine x_ret1 F rfl rfl ?_
 exact ⟨_, rfl, rfl, (H.pm 1 [] rfl:)⟩
 obtain ⟨o14, hm, hs14, hx14⟩ := hr13.step hE2 hq14 hn14 hmM13
 refine bb [0] F H rfl fun a F => ?_
 refine nl (sq (cT F rfl ?_))
 refine sk (ct (bl (sr ?_)))
 obtain ⟨hk15, H⟩ := H.esEl 1 rfl hq14
 have G := F; obtain ⟨p16, c16, rfl, H⟩ := H.rcSl 0 rfl; have F := G; clear G
 replace H := H.dp 1 rfl
 refine sv F rfl (y_entF (agg := false) (ek := hv) F rfl rfl hM2 hq14 H 3 1 rfl rfl rfl) fun a F => ?_
 refine bb [0,0] F H rfl fun a F => ?_
 refine nl (sq (sr (bk [0,0,0,0] F H rfl ⟨⟨_, Tryz.underlying26⟩, trivial⟩ fun a F => ?_)))
 rcases spP 15 F rfl hm with ⟨hg17, hm, F⟩ | ⟨hg17, hm, F⟩
 refine bb [0,0,0] F H rfl fun a F => ?_
 refine nl (cT F rfl ?_)
 refine sb [0] F H rfl fun a F => ?_
 refine nl (wr (tr (br (tr ?_)))); cases hm; obtain rfl := elimS (hx14 _ rfl)
 replace H := H.dp 2 rfl
 replace H := H.dp 2 rfl
 replace H := H.dp 1 rfl
 refine br (tr (x_ret1 F rfl rfl ?_))
 exact ⟨_, rfl, rfl, (H.pm 2 [] rfl:)⟩
 refine bb [0,0,0] F H rfl fun a F => ?_
 refine nl (cPm F rfl hm (fun hg18 hm => ?_) (fun hg18 hm => ?_))
 refine sb [0] F H rfl fun a F => ?_
 refine nl (wr (tr (br (tr ?_)))); cases hm; obtain rfl := elimS (hx14 _ rfl)
 replace H := H.dp 2 rfl
 replace H := H.dp 2 rfl
 replace H := H.dp 1 rfl
 refine br (tr (x_ret1 F rfl rfl ?_))
 exact ⟨_, rfl, rfl, (H.pm 2 [] rfl:)⟩
 refine sk (ct (rl (bk (List.replicate 6 0) F H rfl ⟨⟨_, Tryz.underlying26⟩, trivial⟩ fun a F => ?_)))
 refine lz (bn (ct ?_)); cases hm
 exact ⟨_, q14, hs14 _ rfl, ⟨F.sl rfl, (H.pm 5 [1,2,3,4] rfl:)⟩⟩
theorem w_rCopyBag {bag : (List UInt8) → Option (List UInt8)} {q1 : Option Nat} {w0 w : World} {l : List HP}  {r : ((List UInt8) → Option (List UInt8))} (hm : rCopyBag bag = some r) (H : St w0 w (HP.fm q1 hv false (rSl rByte) (fun l => l.length = 32) bag :: l)) :
  Calls Tryz.prog 6 [.map q1].toArray w (fun e w' => ∃ v, e = .returned v ∧ ∃ (q2 : Option Nat), v = .map q2 ∧ St w0 w' (HP.mm q2 hv false (rSl rByte) (fun l => l.length = 32) r :: l)) := by
 unfold rCopyBag at hm
 refine x_enter Tryz.func6 rfl rfl rfl ?_
 intro a F
 refine sb [0] F H rfl fun a F => ?_
 refine nl (sr (s_mmNew hv false (rSl rByte) (fun l => l.length = 32) wkP F rfl rfl rfl rfl H fun m3 w a H F => ?_))
 refine bb [0] F H rfl fun a F => ?_
 replace H := H.nf 2 rfl
 refine nl (sq (sb [0] F H rfl fun a F => ?_))
 obtain ⟨raw4, cl4, es4, hM4, hE4, H⟩ := H.fmRng 1 rfl
 refine s_rngF wkP F rfl rfl rfl Tryz.underlying23 rfl H 1 rfl rfl fun r4 w a H F => ?_
 replace H := H.nf 5 rfl
 refine nl (xm0 5 [3] [4] F H hm rfl rfl (fun r27 z => z) (fun r27 z => HP.mm (some m3) hv false (rSl rByte) (fun l => l.length = 32) r27 :: z) (fun r27 hm => ?_) (fun r27 a w hm F H => ?_))
 refine bl ?_
 have hmM42 := hm; clear hm
 refine x_loopM es4 hmM42 (fun (s42 : ((List UInt8) → Option (List UInt8))) vis42 aa ww => Fr ⟨20, []⟩ aa [(3, .map (some m3)), (8, .pointer (some ⟨r4, 0, none⟩))] ∧ St w0 ww (HP.obj r4 (mit q1 cl4 (bornsOf raw4 (vis42))) :: HP.es (rSl rByte) (fun l => l.length = 32) es4 bag :: HP.mof q1 raw4 cl4 :: HP.mm (some m3) hv false (rSl rByte) (fun l => l.length = 32) s42 :: HP.fm q1 hv false (rSl rByte) (fun l => l.length = 32) bag :: l)) ⟨F.sl rfl, H⟩ ?_
 clear F H
 rintro s42 vis42 a w hr42 ⟨F, H⟩
 refine sr (s_nxtF wkP F rfl rfl rfl rfl rfl hM4 hr42.ok H 2 0 rfl rfl rfl (fun hall43 w a H F => ?_) (fun q43 k43 cs43 v43 hq43 hn43 w a H F => ?_))
 have hm := elimL (hr42.done hE4 hall43 hmM42)
 refine bb [0] F H rfl fun a F => ?_
 refine nl (sq (cF F rfl ?_))
 refine ex (cx (cx ?_))
 replace H := H.dp 1 rfl
 replace H := H.dp 1 rfl
 replace H := H.dp 0 rfl
 refine ch ?_
 cases hm
 refine ct ?_
 exact ⟨F.sl rfl, H⟩
 obtain ⟨o43, hm, hs43, hx43⟩ := hr42.step hE4 hq43 hn43 hmM42
 refine bb [0] F H rfl fun a F => ?_
 refine nl (sq (cT F rfl ?_))
 refine sk (ct (bl (sr ?_)))
 obtain ⟨hk44, H⟩ := H.esEl 1 rfl hq43
 have G := F; obtain ⟨p45, c45, rfl, H⟩ := H.rcSl 0 rfl; have F := G; clear G
 replace H := H.dp 1 rfl
 refine sv F rfl (y_entF (agg := false) (ek := hv) F rfl rfl hM4 hq43 H 3 1 rfl rfl rfl) fun a F => ?_
 refine bb [0,0] F H rfl fun a F => ?_
 refine s_allocA wkP F rfl rfl rfl agz25 rfl H fun b46 w a H F => ?_
 refine s_storeA wkP F rfl rfl agg25 rfl rfl rfl H 0 rfl ((bcells_length _).trans hk44) ((bcells_length _).trans (List.length_replicate (n := 32))) (bcells_flat _) fun w H => ?_
 refine bb [0] F H rfl fun a F => ?_
 replace H := H.nf 7 rfl
 refine nl (mix_regionK [2,4,5] [5] (scL [0,1,3,2002,2004,3005]) [0] H rfl rfl (by kernel_rfl) (by kernel_rfl) fun w H => ?_)
 refine mb [0] F H rfl fun a F => ?_
 refine m_pure F rfl rfl rfl rfl (fun u hu => y_loadA F agg25 rfl rfl ((hu.choose_spec.blk 0 rfl).row) ((bcells_length _).trans hk44)) fun a F => ?_
 refine mb [0] F H rfl fun a F => ?_
 refine m_heavy rfl rfl ?_
 refine s_build0O (R := rByte) wkP F rfl rfl rfl elem26 rfl H fun b47 w a H F => ?_
 refine lz ?_; refine ct ⟨⟨_, (H.pm 8 [1,0,2,3,4,5,6,7] rfl:)⟩, ?_⟩
 refine m_heavy rfl rfl ?_
 obtain ⟨x49, ex49, hm⟩ := ob hm
 refine s_app wkP F rfl rfl rfl rfl rfl rfl elem26 rfl ex49 H 0 2 rfl rfl fun p48 c48 w a H F => ?_
 refine lz ?_; refine ct ⟨⟨_, (H.pm 8 [1,0,2,3,4,5,6,7] rfl:)⟩, ?_⟩
 refine m_last rfl rfl ?_
 replace H := H.frz 0 rfl
 refine s_mmSet wkP F rfl rfl Tryz.underlying23 (keyH key25) rfl H 6 rfl rfl (k := k43) rfl (cs := [.slice p48 (x49).length c48]) rfl hk44 (v := x49) (fun gg => ⟨_, _, rfl, (gg 0 _ rfl).choose_spec⟩) fun w H => ?_
 refine lz ?_; refine ct ?_
 refine m_nil ?_
 refine bn (ct ?_); cases hm
 exact ⟨_, q43, hs43 _ rfl, ⟨F.sl rfl, (H.pm 8 [3,4,5,6,7] rfl:)⟩⟩
 refine ct (sb [0,0] F H rfl fun a F => ?_)
 refine nl (wr ?_)
 cases hm
 refine x_ret1 F rfl rfl ?_
 exact ⟨_, rfl, (some m3), rfl, (H.pm 2 [0] rfl:)⟩
theorem w_rSameBag {a_ : (List UInt8) → Option (List UInt8)} {b_ : (List UInt8) → Option (List UInt8)} {q1 : Option Nat} {q2 : Option Nat} {w0 w : World} {l : List HP}  {r : Bool} (hm : rSameBag a_ b_ = some r) (H : St w0 w (HP.mm q1 hv false (rSl rByte) (fun l => l.length = 32) a_ :: HP.fm q2 hv false (rSl rByte) (fun l => l.length = 32) b_ :: l)) :
  Calls Tryz.prog 13 [.map q1, .map q2].toArray w (fun e w' => ∃ v, e = .returned v ∧ v = .bool (r) ∧ St w0 w' (HP.mm q1 hv false (rSl rByte) (fun l => l.length = 32) a_ :: l)) := by
 unfold rSameBag at hm
 refine x_enter Tryz.func13 rfl rfl rfl ?_
 intro a F
 refine sb [0] F H rfl fun a F => ?_
 refine nl (sq (sb [0] F H rfl fun a F => ?_))
 refine sv F rfl (y_mmLen F rfl Tryz.underlying23 H 0 rfl rfl) fun a F => ?_
 refine bb [0] F H rfl fun a F => ?_
 refine sv F rfl (y_fmLen F rfl Tryz.underlying23 H 1 rfl rfl) fun a F => ?_
 refine bb [0] F H rfl fun a F => ?_
 refine nl (cNm F rfl hm (fun hg3 hm => ?_) (fun hg3 hm => ?_))
 refine sb [0] F H rfl fun a F => ?_
 refine nl (wr (tr ?_))
 cases hm
 refine x_ret1 F rfl rfl ?_
 exact ⟨_, rfl, rfl, (H.pm 2 [0] rfl:)⟩
 refine sk (ct (sq (sb [0] F H rfl fun a F => ?_)))
 obtain ⟨raw4, cl4, es4, hM4, hE4, H⟩ := H.moOpen 0 rfl
 refine s_rngM wkP F rfl rfl rfl Tryz.underlying23 rfl H 1 rfl rfl fun r4 w a H F => ?_
 replace H := H.nf 4 rfl
 refine nl (bl ?_)
 have hmM21 := hm; clear hm
 refine x_loopM es4 hmM21 (fun (s21 : Unit) vis21 aa ww => Fr ⟨36, []⟩ aa [(1, .map q2), (15, .pointer (some ⟨r4, 0, none⟩))] ∧ St w0 ww (HP.obj r4 (mit q1 cl4 (bornsOf raw4 (vis21))) :: HP.es (rSl rByte) (fun l => l.length = 32) es4 a_ :: HP.mo q1 raw4 cl4 :: HP.fm q2 hv false (rSl rByte) (fun l => l.length = 32) b_ :: l)) ⟨F.sl rfl, H⟩ ?_
 clear F H
 rintro s21 vis21 a w hr21 ⟨F, H⟩
 refine sr (s_nxtM wkP F rfl rfl rfl rfl rfl hM4 hr21.ok H 2 0 rfl rfl rfl (fun hall22 w a H F => ?_) (fun q22 k22 cs22 v22 hq22 hn22 w a H F => ?_))
 have hm := elimL (hr21.done hE4 hall22 hmM21)
 refine bb [0] F H rfl fun a F => ?_
 refine nl (sq (cF F rfl ?_))
 refine ex (cx (cx ?_))
 replace H := H.moMm 2 1 hM4 rfl rfl
 refine ch (ct (sb [0] F H rfl fun a F => ?_))
 replace H := H.nf 4 rfl
 refine nl (wr ?_)
 cases hm
 refine x_ret1 F rfl rfl ?_
 exact ⟨_, rfl, rfl, (H.pm 4 [2] rfl:)⟩
 obtain ⟨o22, hm, hs22, hx22⟩ := hr21.step hE4 hq22 hn22 hmM21
 refine bb [0] F H rfl fun a F => ?_
 refine nl (sq (cT F rfl ?_))
 refine sk (ct (bl (sr ?_)))
 obtain ⟨hk23, H⟩ := H.esEl 1 rfl hq22
 have G := F; obtain ⟨p24, c24, rfl, H⟩ := H.rcSl 0 rfl; have F := G; clear G
 replace H := H.dp 1 rfl
 refine sv F rfl (y_entM (agg := false) (ek := hv) F rfl rfl hM4 hq22 H 3 1 rfl rfl rfl) fun a F => ?_
 refine bb [0,0] F H rfl fun a F => ?_
 refine s_allocA wkP F rfl rfl rfl agz25 rfl H fun b25 w a H F => ?_
 refine s_storeA wkP F rfl rfl agg25 rfl rfl rfl H 0 rfl ((bcells_length _).trans hk23) ((bcells_length _).trans (List.length_replicate (n := 32))) (bcells_flat _) fun w H => ?_
 refine bb [0] F H rfl fun a F => ?_
 replace H := H.nf 6 rfl
 refine nl (sr (bk [0,999] F H rfl ⟨rfl, (aggn agg25 ((bcells_length _).trans hk23)), trivial⟩ fun a F => ?_))
 obtain ⟨es26, H⟩ := H.fmOpen 5 rfl
 obtain ⟨cs26, hcs26, H⟩ := H.fmGet 0 rfl k22 (zc := [Value.slice none 0 0]) (z0 := []) (fun _ => rSl_nil _ _)
 have G := F; obtain ⟨p27, c27, rfl, H⟩ := H.rcSl 0 rfl; have F := G; clear G
 replace H := H.dp 1 rfl
 refine sv F rfl (y_fmGet2 (agg := false) (zc := [Value.slice none 0 0]) F Tryz.underlying23 (keyH key25) (fun w => zero26.run w) rfl H 1 rfl rfl (k := k22) rfl hk23 hcs26) fun a F => ?_
 refine bb (List.replicate 5 0) F H rfl fun a F => ?_
 refine nb [0,0,0] F H rfl fun a F => ?_
 by_cases hg28 : (!((b_ k22).isSome)) = true
 replace hm := ifT hg28 hm
 replace F := F.vT 29 hg28 rfl
 refine bb (List.replicate 6 0) F H rfl fun a F => ?_
 refine nl (cT F rfl ?_)
 refine sb [0] F H rfl fun a F => ?_
 refine nl (wr (br (tr ?_))); cases hm; obtain rfl := elimS (hx22 _ rfl)
 replace H := H.moMm 6 5 hM4 rfl rfl
 refine br (tr (x_ret1 F rfl rfl ?_))
 exact ⟨_, rfl, rfl, (H.pm 8 [6] rfl:)⟩
 replace hm := ifF hg28 hm
 replace F := F.vF 29 hg28 rfl
 refine bb [0] F H rfl fun a F => ?_
 refine g_onP F rfl rfl rfl rfl ?_
 refine sv F rfl (y_b2s F Tryz.underlying26 Tryz.underlying9 Tryz.underlying5 rfl rfl (H) 3 rfl) fun a F => ?_
 refine bb [0] F H rfl fun a F => ?_
 refine g_onP F rfl rfl rfl rfl ?_
 refine sv F rfl (y_b2s F Tryz.underlying26 Tryz.underlying9 Tryz.underlying5 rfl rfl (H) 0 rfl) fun a F => ?_
 refine g_onP F rfl rfl rfl rfl ?_
 refine sv F rfl (y_neT (l := v22) (m := ((b_ k22).getD [])) F rfl rfl rfl) fun a F => ?_
 refine bb [0] F H rfl fun a F => ?_
 refine nl (cNm F rfl hm (fun hg29 hm => ?_) (fun hg29 hm => ?_))
 refine sb [0] F H rfl fun a F => ?_
 refine nl (wr (br (tr ?_))); cases hm; obtain rfl := elimS (hx22 _ rfl)
 replace H := H.moMm 6 5 hM4 rfl rfl
 refine br (tr (x_ret1 F rfl rfl ?_))
 exact ⟨_, rfl, rfl, (H.pm 8 [6] rfl:)⟩
 refine sk (bn (ct ?_)); cases hm
 exact ⟨_, q22, hs22 _ rfl, ⟨F.sl rfl, (H.pm 8 [4,5,6,7] rfl:)⟩⟩
theorem w_m_triremeref08_From {x0_ : List T_api_Pair} {x1_ : List UInt8} {x2_ : Int} {p1 : Option Addr} {c1 : Nat} {p2 : Option Addr} {c2 : Nat} {w0 w : World} {l : List HP}  {r : (List T_api_Pair)} (hm : m_triremeref08_From x0_ x1_ x2_ = some r) (H : St w0 w (HP.sl R_api_Pair p1 c1 x0_ :: HP.sl rByte p2 c2 x1_ :: l)) :
  Calls Tryz.prog 14 [.slice p1 (x0_).length c1, .slice p2 (x1_).length c2, .int .i64 (x2_)].toArray w (fun e w' => ∃ v, e = .returned v ∧ ∃ (p3 : Option Addr) (c3 : Nat), v = .slice p3 (r).length c3 ∧ St w0 w' (HP.sl R_api_Pair p3 c3 r :: l)) := by
 unfold m_triremeref08_From at hm
 refine x_enter Tryz.func14 rfl rfl rfl ?_
 intro a F
 refine sb [0] F H rfl fun a F => ?_
 refine nl (sr (s_build0O (R := R_api_Pair) wkP F rfl rfl rfl elem32 rfl H fun b4 w a H F => ?_))
 refine bb [0] F H rfl fun a F => ?_
 replace H := H.nf 3 rfl
 refine nl (sq (sb [0] F H rfl fun a F => ?_))
 refine nl (xm2 3 [] [] F H hm rfl rfl (fun r150 (p151 : Option Addr) (c151 : Nat) z => (7, .slice p151 (r150).length c151) :: z) (fun r150 p151 c151 z => HP.ow R_api_Pair 48 p151 c151 r150 :: z) (fun r150 hm => ?_) (fun r150 a w hm p151 c151 F H => ?_))
 refine bl (xl2 3 [0,1,2] [1,2] F H hm rfl rfl (fun (s248 : (List T_api_Pair) × Int) (p249 : Option Addr) (c249 : Nat) z => (7, .slice p249 (s248.1).length c249) :: (8, .int .i64 (s248.2)) :: z) (fun s248 p249 c249 z => HP.ow R_api_Pair 48 p249 c249 s248.1 :: z) ⟨(some ⟨b4, 0, none⟩), 0, F.sl rfl, H⟩ (fun s248 a w o p249 c249 F H hm => ?_))
 refine sq (sr (bk [0,0,0,0] F H rfl ⟨⟨_, Tryz.underlying32⟩, trivial⟩ fun a F => ?_))
 refine nl (cPm F rfl hm (fun hg250 hm => ?_) (fun hg250 hm => ?_))
 refine sk (ct (sq (xm2 3 [0,1,2,8] [1,2] F H hm rfl rfl (fun r273 (p274 : Option Addr) (c274 : Nat) z => (7, .slice p274 (r273).length c274) :: z) (fun r273 p274 c274 z => HP.ow R_api_Pair 48 p274 c274 r273 :: z) (fun r273 hm => ?_) (fun r273 a w hm p274 c274 F H => ?_))))
 refine bl (sq ?_)
 obtain ⟨x275, ex275, hm⟩ := ob hm
 obtain ⟨b276, o276, hp276, cs277, H⟩ := H.slE 1 rfl ex275
 have G := F; replace H := rc_api_Pair (H.pk 1 rfl); obtain ⟨p278, c279, p280, c281, rfl, J⟩ := H; have H := J; have F := G; clear G J
 by_cases hg282 : (geqB x275.1 x1_) = true
 replace hm := ifT hg282 hm
 refine qr H (by kernel_rfl) (by kernel_rfl) ?_
 refine qb [0,0] F rfl fun a F => ?_
 refine qv F rfl (fun u hu => y_idxS F elem32 rfl rfl rfl hp276 ex275) fun a F => ?_
 refine qbk [0,2000] F rfl ⟨fld48_0, rfl, plain26, trivial⟩ fun a F => ?_
 refine qv F rfl (fun u hu => y_b2s F Tryz.underlying26 Tryz.underlying9 Tryz.underlying5 rfl rfl (hu) 0 rfl) fun a F => ?_
 refine qb [0] F rfl fun a F => ?_
 refine qv F rfl (fun u hu => y_b2s F Tryz.underlying26 Tryz.underlying9 Tryz.underlying5 rfl rfl (hu) 5 rfl) fun a F => ?_
 refine qv F rfl (fun u hu => y_geqT (l := x275.1) (m := x1_) F rfl rfl rfl) fun a F => ?_
 refine qb [0] F rfl fun a F => ?_
 replace F := F.vT 25 hg282 rfl
 refine qbk (List.replicate 5 0) F rfl ⟨⟨_, Tryz.underlying32⟩, trivial⟩ fun a F => ?_
 refine q_nil fun w H => ?_
 refine ct (xm2 6 [0,1,2,8] [2,4,5] F H hm rfl rfl (fun r289 (p290 : Option Addr) (c290 : Nat) z => (7, .slice p290 (r289).length c290) :: z) (fun r289 p290 c290 z => HP.ow R_api_Pair 48 p290 c290 r289 :: z) (fun r289 hm => ?_) (fun r289 a w hm p290 c290 F H => ?_))
 refine cPm F rfl hm (fun hg291 hm => ?_) (fun hg291 hm => ?_)
 refine rl (bb [0,0,0] F H rfl fun a F => ?_)
 obtain ⟨x292, ex292, hm⟩ := ob hm
 obtain ⟨cs293, H⟩ := H.slF 4 rfl hp276 ex292
 refine sv F rfl (y_idxS F elem32 rfl rfl rfl hp276 ex292) fun a F => ?_
 refine bk [999] F H rfl ⟨rfl, (aggn agg48 (H.rcLen 1 rfl)), trivial⟩ fun a F => ?_
 refine s_build1 wkP F rfl rfl rfl agg48 elem32 rfl rfl (H.rcLen 1 rfl) (by decide) H fun b294 w a H F => ?_
 replace H := H.blkOw1 (R := R_api_Pair) (x := x292) (fun gg => (gg 2 _ rfl).choose_spec)
 replace H := H.frz 0 rfl
 obtain ⟨x296, ex296, hm⟩ := ob hm
 refine s_app wkP F rfl rfl rfl rfl rfl rfl elem32 rfl ex296 H 6 0 rfl rfl fun p295 c295 w a H F => ?_
 refine bb [0] F H rfl fun a F => ?_
 replace H := H.nf 9 rfl
 refine lz ?_
 cases hm
 refine ct ?_
 exact ⟨p295, c295, F.sl rfl, (H.pm 9 [6,5,7,8] rfl:)⟩
 refine sk ?_
 cases hm
 refine ct ?_
 exact ⟨p249, c249, F.sl rfl, (H.pm 6 [3,2,4,5] rfl:)⟩
 refine bn ?_
 cases hm
 refine ct ?_
 exact ⟨p290, c290, F.sl rfl, (H.pm 4 [0,2,3] rfl:)⟩
 replace hm := ifF hg282 hm
 refine qr H (by kernel_rfl) (by kernel_rfl) ?_
 refine qb [0,0] F rfl fun a F => ?_
 refine qv F rfl (fun u hu => y_idxS F elem32 rfl rfl rfl hp276 ex275) fun a F => ?_
 refine qbk [0,2000] F rfl ⟨fld48_0, rfl, plain26, trivial⟩ fun a F => ?_
 refine qv F rfl (fun u hu => y_b2s F Tryz.underlying26 Tryz.underlying9 Tryz.underlying5 rfl rfl (hu) 0 rfl) fun a F => ?_
 refine qb [0] F rfl fun a F => ?_
 refine qv F rfl (fun u hu => y_b2s F Tryz.underlying26 Tryz.underlying9 Tryz.underlying5 rfl rfl (hu) 5 rfl) fun a F => ?_
 refine qv F rfl (fun u hu => y_geqT (l := x275.1) (m := x1_) F rfl rfl rfl) fun a F => ?_
 refine qb [0] F rfl fun a F => ?_
 replace F := F.vF 25 hg282 rfl
 refine qb (List.replicate 5 0) F rfl fun a F => ?_
 refine q_nil fun w H => ?_
 refine ct (cF F rfl ?_)
 refine sk (bn ?_)
 cases hm
 refine ct ?_
 exact ⟨p249, c249, F.sl rfl, (H.pm 6 [3,4,5] rfl:)⟩
 refine ct (rl (bb [0,0,0] F H rfl fun a F => ?_))
 refine lz (ct ?_); cases hm
 exact ⟨_, rfl, ⟨p274, c274, F.sl rfl, H⟩⟩
 refine ex (cx (cx ?_)); cases hm; refine ⟨_, rfl, ?_⟩; rintro rfl
 refine ch (ct ?_)
 exact ⟨p249, c249, F.sl rfl, (H.pm 3 [0] rfl:)⟩
 refine ct (sb [0,0] F H rfl fun a F => ?_)
 refine nl (wr ?_)
 replace H := H.frz 0 rfl
 cases hm
 refine x_ret1 F rfl rfl ?_
 exact ⟨_, rfl, p151, c151, rfl, H⟩
theorem ent45 : En Tryz.prog 45 := enters Tryz.func45 (by kernel_rfl) rfl
theorem ent22 : En Tryz.prog 22 := enters Tryz.func22 (by kernel_rfl) rfl
theorem w_rCollectS {rec_ : ((List UInt8) → Option (List UInt8)) → (List UInt8) → Int → (List T_api_Pair) → Option ((List T_api_Pair) × Int)} (ih : ∀ {bag : (List UInt8) → Option (List UInt8)} {h : List UInt8} {level : Int} {met : List T_api_Pair} {q1 : Option Nat} {p3 : Option Addr} {c3 : Nat} {w0 w : World} {l : List HP} (hl2 : (h).length = 32) {r : (List T_api_Pair) × Int} (hm : rec_ bag h level met = some r) (H : St w0 w (HP.fm q1 hv false (rSl rByte) (fun l => l.length = 32) bag :: HP.sl R_api_Pair p3 c3 met :: l)), Calls Tryz.prog 22 [.map q1, .agg (bcells h).toArray, .int .i64 (level), .slice p3 (met).length c3].toArray w (fun e w' => ∃ v, e = .returned v ∧ ∃ (p4 : Option Addr) (c4 : Nat), v = .tuple [.slice p4 (r.1).length c4, .int .i64 (r.2)].toArray ∧ St w0 w' (HP.sl R_api_Pair p4 c4 r.1 :: l))) {bag : (List UInt8) → Option (List UInt8)} {h : List UInt8} {level : Int} {met : List T_api_Pair} {q1 : Option Nat} {p3 : Option Addr} {c3 : Nat} {w0 w : World} {l : List HP} (hl2 : (h).length = 32) {r : (List T_api_Pair) × Int} (hm : rCollectS rec_ bag h level met = some r) (H : St w0 w (HP.fm q1 hv false (rSl rByte) (fun l => l.length = 32) bag :: HP.sl R_api_Pair p3 c3 met :: l)) :
  Calls Tryz.prog 22 [.map q1, .agg (bcells h).toArray, .int .i64 (level), .slice p3 (met).length c3].toArray w (fun e w' => ∃ v, e = .returned v ∧ ∃ (p4 : Option Addr) (c4 : Nat), v = .tuple [.slice p4 (r.1).length c4, .int .i64 (r.2)].toArray ∧ St w0 w' (HP.sl R_api_Pair p4 c4 r.1 :: l)) := by
 unfold rCollectS at hm
 refine x_enter Tryz.func22 rfl rfl rfl ?_
 intro a F
 refine sr (s_boxA wkP F rfl rfl rfl rfl rfl H fun b5 w a H F => ?_)
 refine bb [0,0] F H rfl fun a F => ?_
 replace H := H.nf 3 rfl
 refine nl (sr (bk [0,999] F H rfl ⟨rfl, (aggn agg25 ((bcells_length _).trans hl2)), trivial⟩ fun a F => ?_))
 obtain ⟨es6, H⟩ := H.fmOpen 1 rfl
 obtain ⟨cs6, hcs6, H⟩ := H.fmGet 0 rfl h (zc := [Value.slice none 0 0]) (z0 := []) (fun _ => rSl_nil _ _)
 have G := F; obtain ⟨p7, c7, rfl, H⟩ := H.rcSl 0 rfl; have F := G; clear G
 replace H := H.dp 1 rfl
 refine sv F rfl (y_fmGet2 (agg := false) (zc := [Value.slice none 0 0]) F Tryz.underlying23 (keyH key25) (fun w => zero26.run w) rfl H 1 rfl rfl (k := h) rfl hl2 hcs6) fun a F => ?_
 refine bb (List.replicate 5 0) F H rfl fun a F => ?_
 refine nl (sq (sq ?_))
 by_cases hg8 : (!((bag h).isSome)) = true
 replace hm := ifT hg8 hm
 refine qr H (by kernel_rfl) (by kernel_rfl) ?_
 refine qb [0,0,0] F rfl fun a F => ?_
 replace F := F.vT 26 hg8 rfl
 refine qb (List.replicate 5 0) F rfl fun a F => ?_
 refine q_nil fun w H => ?_
 refine ct (cT F rfl ?_)
 refine sr (s_build0O (R := R_api_Pair) wkP F rfl rfl rfl elem32 rfl H fun b9 w a H F => ?_)
 refine bb [0,0] F H rfl fun a F => ?_
 replace H := H.nf 6 rfl
 refine nl (wr (tr ?_))
 replace H := H.frz 0 rfl
 cases hm
 refine x_ret2 F rfl rfl rfl ?_
 exact ⟨_, rfl, (some ⟨b9, 0, none⟩), 0, rfl, (H.pm 6 [0] rfl:)⟩
 replace hm := ifF hg8 hm
 obtain ⟨x10, ex10, hm⟩ := ob hm
 have hl11 : (x10).length = 32 := by obtain ⟨_, _, _, _, _, hx, _⟩ := calls_ex (w_rSum ex10 (H.pm 5 [0,0,1,2,3,4] rfl:)); exact hx
 refine qr H (by kernel_rfl) (by kernel_rfl) ?_
 refine qb [0,0,0] F rfl fun a F => ?_
 replace F := F.vF 26 hg8 rfl
 refine qb [0] F rfl fun a F => ?_
 refine qg_on F rfl rfl rfl rfl ?_
 refine q_call F rfl rfl rfl (fun u hu => y_call F rfl rfl ent20) (fun u hu => (w_rSum ex10 (hu.pm 5 [0,0,1,2,3,4] rfl:)).mono fun e u2 he => by obtain ⟨v, rfl, rfl, _, H⟩ := he; exact ⟨rfl, H⟩) fun a F => ?_
 refine qbk [2999] F rfl ⟨rfl, (aggn agg25 ((bcells_length _).trans hl2)), trivial⟩ fun a F => ?_
 refine qg_on F rfl rfl rfl rfl ?_
 refine qv F rfl (fun u hu => y_neqA F key25 rfl rfl rfl hl11 hl2) fun a F => ?_
 refine qb [0] F rfl fun a F => ?_
 refine q_nil fun w H => ?_
 refine ct (cNm F rfl hm (fun hg12 hm => ?_) (fun hg12 hm => ?_))
 refine sr (s_build0O (R := R_api_Pair) wkP F rfl rfl rfl elem32 rfl H fun b13 w a H F => ?_)
 refine bb [0,0] F H rfl fun a F => ?_
 replace H := H.nf 6 rfl
 refine nl (wr (tr ?_))
 replace H := H.frz 0 rfl
 cases hm
 refine x_ret2 F rfl rfl rfl ?_
 exact ⟨_, rfl, (some ⟨b13, 0, none⟩), 0, rfl, (H.pm 6 [0] rfl:)⟩
 refine sk (ct (sb [0] F H rfl fun a F => ?_))
 obtain ⟨x14, ex14, hm⟩ := ob hm
 refine sd F rfl ent45 (w_m_triremeref07_Read ex14 (H.pm 5 [0,0,1,2,3,4] rfl:):) ?_; rintro _ w a ⟨cs15, rfl, H⟩ F
 refine bb [0,0,0] F H rfl fun a F => ?_
 replace H := H.owNil R_api_Pair 48
 replace H := H.owNil R_api_Kid 80
 refine s_allocA wkP F rfl rfl rfl agz84 rfl H fun b16 w a H F => ?_
 refine s_storeA wkP F rfl rfl agg84 rfl rfl rfl H 0 rfl (H.rcLen 3 rfl) rfl (H.rcFlat 3 rfl) fun w H => ?_
 refine bb [0] F H rfl fun a F => ?_
 replace H := H.nf 9 rfl
 refine nl (sq (sq (xm1 9 [0,2,3,12] [1,2,6,7,8] F H hm rfl rfl (fun r23 (cs24 : List Value) z => (49, .bool (r23.2)) :: z) (fun r23 cs24 z => HP.blk b16 (cs24) 84 :: HP.rc R_api_Node cs24 r23.1 :: z) (fun r23 hm => ?_) (fun r23 a w hm cs24 F H => ?_))))
 refine rl (bb [0,0,0] F H rfl fun a F => ?_)
 rcases spN 40 F rfl hm with ⟨hg25, hm, F⟩ | ⟨hg25, hm, F⟩
 refine bb [0,0,0] F H rfl fun a F => ?_
 rcases spP 43 F rfl hm with ⟨hg26, hm, F⟩ | ⟨hg26, hm, F⟩
 refine bk [0] F H rfl ⟨fld84_0, trivial⟩ fun a F => ?_
 refine g_onP F rfl rfl rfl rfl ?_
 have G := F; replace H := rc_api_Node (H.pk 3 rfl); obtain ⟨p27, c28, p29, c30, rfl, J⟩ := H; have H := J; have F := G; clear G J
 refine bk [2000,0,0,0,0] F H rfl ⟨rfl, plain3, trivial⟩ fun a F => ?_
 refine lz ?_
 cases hm
 refine ct ?_
 replace H := mk_api_Node H x14.1.1 0 rfl 1 rfl
 exact ⟨[.int .i64 (x14.1.1), .slice p27 (x14.1.2.1).length c28, .slice p29 (x14.1.2.2).length c30], F.sl rfl, (H.pm 11 [3,0,4,5,8,9,10] rfl:)⟩
 refine bb (List.replicate 6 0) F H rfl fun a F => ?_
 refine lz ?_
 cases hm
 refine ct ?_
 exact ⟨cs15, F.sl rfl, (H.pm 9 [0,3,1,2,6,7,8] rfl:)⟩
 refine bb (List.replicate 9 0) F H rfl fun a F => ?_
 refine lz ?_
 cases hm
 refine ct ?_
 exact ⟨cs15, F.sl rfl, (H.pm 9 [0,3,1,2,6,7,8] rfl:)⟩
 refine ct (cB F rfl (fun hg31 => ?_) (fun hg31 => ?_))
 replace hm := ifT hg31 hm
 refine sr (s_build0O (R := R_api_Pair) wkP F rfl rfl rfl elem32 rfl H fun b32 w a H F => ?_)
 refine bb [0,0] F H rfl fun a F => ?_
 replace H := H.nf 8 rfl
 refine nl (wr (tr ?_))
 replace H := H.frz 0 rfl
 cases hm
 refine x_ret2 F rfl rfl rfl ?_
 exact ⟨_, rfl, (some ⟨b32, 0, none⟩), 0, rfl, (H.pm 8 [0] rfl:)⟩
 replace hm := ifF (nT hg31) hm
 refine sk (ct (sq (sq (xm1 7 [0,3,12] [2,3,4,5,6] F H hm rfl rfl (fun r39 (cs40 : List Value) z => (63, .bool (r39.2)) :: z) (fun r39 cs40 z => HP.blk b16 (cs40) 84 :: HP.rc R_api_Node cs40 r39.1 :: z) (fun r39 hm => ?_) (fun r39 a w hm cs40 F H => ?_)))))
 refine rl (bk [0] F H rfl ⟨fld84_0, trivial⟩ fun a F => ?_)
 have G := F; replace H := rc_api_Node (H.pk 1 rfl); obtain ⟨p41, c42, p43, c44, rfl, J⟩ := H; have H := J; have F := G; clear G J
 refine bk [2000,0,0] F H rfl ⟨rfl, plain3, trivial⟩ fun a F => ?_
 rcases spP 54 F rfl hm with ⟨hg45, hm, F⟩ | ⟨hg45, hm, F⟩
 refine bk [1,2001,0,0,0,0] F H rfl ⟨fld84_1, rfl, plain32, ⟨_, Tryz.underlying32⟩, trivial⟩ fun a F => ?_
 rcases spP 60 F rfl hm with ⟨hg46, hm, F⟩ | ⟨hg46, hm, F⟩
 refine bb [0,0,0] F H rfl fun a F => ?_
 refine lz ?_
 cases hm
 refine ct ?_
 replace H := mk_api_Node H r23.1.1 0 rfl 1 rfl
 exact ⟨[.int .i64 (r23.1.1), .slice p41 (r23.1.2.1).length c42, .slice p43 (r23.1.2.2).length c44], F.sl rfl, (H.pm 9 [3,0,4,5,6,7,8] rfl:)⟩
 refine bb [0,0,0] F H rfl fun a F => ?_
 refine lz ?_
 cases hm
 refine ct ?_
 replace H := mk_api_Node H r23.1.1 0 rfl 1 rfl
 exact ⟨[.int .i64 (r23.1.1), .slice p41 (r23.1.2.1).length c42, .slice p43 (r23.1.2.2).length c44], F.sl rfl, (H.pm 9 [3,0,4,5,6,7,8] rfl:)⟩
 refine bb (List.replicate 9 0) F H rfl fun a F => ?_
 refine lz ?_
 cases hm
 refine ct ?_
 replace H := mk_api_Node H r23.1.1 0 rfl 1 rfl
 exact ⟨[.int .i64 (r23.1.1), .slice p41 (r23.1.2.1).length c42, .slice p43 (r23.1.2.2).length c44], F.sl rfl, (H.pm 9 [3,0,4,5,6,7,8] rfl:)⟩
 refine ct (cB F rfl (fun hg47 => ?_) (fun hg47 => ?_))
 replace hm := ifT hg47 hm
 refine sr (s_build0O (R := R_api_Pair) wkP F rfl rfl rfl elem32 rfl H fun b48 w a H F => ?_)
 refine bb [0,0] F H rfl fun a F => ?_
 replace H := H.nf 8 rfl
 refine nl (wr (tr ?_))
 replace H := H.frz 0 rfl
 cases hm
 refine x_ret2 F rfl rfl rfl ?_
 exact ⟨_, rfl, (some ⟨b48, 0, none⟩), 0, rfl, (H.pm 8 [0] rfl:)⟩
 replace hm := ifF (nT hg47) hm
 refine sk (ct (sq (sq ?_)))
 have G := F; replace H := rc_api_Node (H.pk 1 rfl); obtain ⟨p49, c50, p51, c52, rfl, J⟩ := H; have H := J; have F := G; clear G J
 by_cases hg53 : 0 < ((r39.1.2.1).length : Int)
 replace hm := ifT hg53 hm
 by_cases hg54 : 0 < ((met).length : Int)
 replace hm := ifT hg54 hm
 obtain ⟨x55, ex55, hm⟩ := ob hm
 obtain ⟨b56, o56, hp56, cs57, H⟩ := H.slE 0 rfl ex55
 have G := F; replace H := rc_api_Pair (H.pk 1 rfl); obtain ⟨p58, c59, p60, c61, rfl, J⟩ := H; have H := J; have F := G; clear G J
 obtain ⟨x62, ex62, hm⟩ := ob hm
 obtain ⟨b63, o63, hp63⟩ := H.slP 10 rfl (idxO_some ex62).2
 obtain ⟨cs64, hcl64, H⟩ := H.slEl 10 rfl hp63 (idxO_some ex62).2
 clear hcl64
 have G := F; replace H := rc_api_Pair (H.pk 1 rfl); obtain ⟨p65, c66, p67, c68, rfl, J⟩ := H; have H := J; have F := G; clear G J
 refine qr H (by kernel_rfl) (by kernel_rfl) ?_
 refine qbk [1,8001,0,0,0] F rfl ⟨fld84_1, rfl, plain32, ⟨_, Tryz.underlying32⟩, trivial⟩ fun a F => ?_
 replace F := F.bT 69 hg53 rfl
 refine qbk (List.replicate 5 0) F rfl ⟨⟨_, Tryz.underlying32⟩, trivial⟩ fun a F => ?_
 replace F := F.bT 74 hg54 rfl
 refine qbk [1,8001] F rfl ⟨fld84_1, rfl, plain32, trivial⟩ fun a F => ?_
 refine qg_on F rfl rfl rfl rfl ?_
 refine qv F rfl (fun u hu => y_idxS F elem32 rfl rfl rfl hp56 ex55) fun a F => ?_
 refine qbk [0,5000] F rfl ⟨fld48_0, rfl, plain26, trivial⟩ fun a F => ?_
 refine qg_on F rfl rfl rfl rfl ?_
 refine qv F rfl (fun u hu => y_b2s F Tryz.underlying26 Tryz.underlying9 Tryz.underlying5 rfl rfl (hu) 3 rfl) fun a F => ?_
 refine qbk [0,0,0,0] F rfl ⟨⟨_, Tryz.underlying32⟩, trivial⟩ fun a F => ?_
 refine qg_on F rfl rfl rfl rfl ?_
 refine qv F rfl (fun u hu => y_idxS F elem32 rfl rfl rfl hp63 ex62) fun a F => ?_
 refine qbk [0,2000] F rfl ⟨fld48_0, rfl, plain26, trivial⟩ fun a F => ?_
 refine qg_on F rfl rfl rfl rfl ?_
 refine qv F rfl (fun u hu => y_b2s F Tryz.underlying26 Tryz.underlying9 Tryz.underlying5 rfl rfl (hu) 0 rfl) fun a F => ?_
 refine qg_on F rfl rfl rfl rfl ?_
 refine qv F rfl (fun u hu => y_leqT (l := x55.1) (m := x62.1) F rfl rfl rfl) fun a F => ?_
 refine qb [0] F rfl fun a F => ?_
 refine q_nil fun w H => ?_
 refine ct (cB F rfl (fun hg69 => ?_) (fun hg69 => ?_))
 replace hm := ifT hg69 hm
 refine sr (s_build0O (R := R_api_Pair) wkP F rfl rfl rfl elem32 rfl H fun b70 w a H F => ?_)
 refine bb [0,0] F H rfl fun a F => ?_
 replace H := H.nf 15 rfl
 refine nl (wr (tr ?_))
 replace H := H.frz 0 rfl
 cases hm
 refine x_ret2 F rfl rfl rfl ?_
 exact ⟨_, rfl, (some ⟨b70, 0, none⟩), 0, rfl, (H.pm 15 [0] rfl:)⟩
 replace hm := ifF (nT hg69) hm
 refine sk (ct (sq (mix_regionK [0,2,5] [] (scL [1,3,4,2000,2002,2005,6]) [8] H rfl rfl (by kernel_rfl) (by kernel_rfl) fun w H => ?_)))
 refine mbk [0,1] F H rfl ⟨fld84_1, trivial⟩ fun a F => ?_
 refine m_pure F rfl rfl rfl rfl (fun u hu => y_load1 F plain32 rfl rfl (row_at (v := .slice p49 (r39.1.2.1).length c50) ((hu.choose_spec.blk 0 rfl).row) rfl)) fun a F => ?_
 refine m_heavy rfl rfl ?_
 refine s_build0O (R := R_api_Pair) wkP F rfl rfl rfl elem32 rfl H fun b71 w a H F => ?_
 refine lz ?_; refine ct ⟨⟨_, (H.pm 15 [9,0,1,2,3,4,5,6,7,8,10,11,12,13,14] rfl:)⟩, ?_⟩
 refine m_heavy rfl rfl ?_
 obtain ⟨x73, ex73, hm⟩ := ob hm
 refine s_app wkP F rfl rfl rfl rfl rfl rfl elem32 rfl ex73 H 0 14 rfl rfl fun p72 c72 w a H F => ?_
 refine lz ?_; refine ct ⟨⟨_, (H.pm 15 [9,0,1,2,3,4,5,6,7,8,10,11,12,13,14] rfl:)⟩, ?_⟩
 refine m_heavy rfl rfl ?_
 obtain ⟨x75, ex75, hm⟩ := ob hm
 refine s_app wkP F rfl rfl rfl rfl rfl rfl elem32 rfl ex75 H 0 7 rfl rfl fun p74 c74 w a H F => ?_
 refine lz ?_; refine ct ⟨⟨_, (H.pm 15 [9,0,1,2,3,4,5,6,7,8,10,11,12,13,14] rfl:)⟩, ?_⟩
 refine mb [0] F H rfl fun a F => ?_
 refine m_nil ?_
 refine ct (sq (sb [0] F H rfl fun a F => ?_))
 replace H := H.nf 15 rfl
 refine nl (xr2 15 [] [3,6,7,8,9,10,11,12,13] F H hm rfl rfl (fun r113 (p114 : Option Addr) (c114 : Nat) z => (14, .slice p114 (r113).length c114) :: z) (fun r113 p114 c114 z => HP.sl R_api_Pair p114 c114 r113 :: z) (fun o113 hm hm113 => ?_) (fun r113 a w hm p114 c114 F H => ?_))
 refine bl ?_
 replace H := H.frz 0 rfl
 refine xl2 15 [0,12] [3,6,7,8,9,10,11,12,13] F H hm rfl rfl (fun (s139 : (List T_api_Pair) × Int) (p140 : Option Addr) (c140 : Nat) z => (14, .slice p140 (s139.1).length c140) :: (15, .int .i64 (s139.2)) :: z) (fun s139 p140 c140 z => HP.sl R_api_Pair p140 c140 s139.1 :: z) ⟨p74, c74, F.sl rfl, (H.pm 15 [0,3,6,7,8,9,10,11,12,13] rfl:)⟩ (fun s139 a w o p140 c140 F H hm => ?_)
 refine sq (sr (bk [0,2,5002,0,0] F H rfl ⟨fld84_2, rfl, plain76, ⟨_, Tryz.underlying76⟩, trivial⟩ fun a F => ?_))
 refine nl (cPm F rfl hm (fun hg141 hm => ?_) (fun hg141 hm => ?_))
 refine sk (ct (sq (bl (sq ?_))))
 obtain ⟨x142, ex142, hm⟩ := ob hm
 obtain ⟨b143, o143, hp143, cs144, H⟩ := H.slE 4 rfl ex142
 have G := F; replace H := rc_api_Kid (H.pk 1 rfl); obtain ⟨p145, c146, hl147, rfl, J⟩ := H; have H := J; have F := G; clear G J
 refine mix_regionK [11] [] (scL [0,1,1002,3,4,5,1006,7,1008,9,10,2011,12,13,14,15,16]) [] H rfl rfl (by kernel_rfl) (by kernel_rfl) fun w H => ?_
 refine mbk [0,2,7002,0] F H rfl ⟨fld84_2, rfl, plain76, trivial⟩ fun a F => ?_
 refine m_pure F rfl rfl rfl rfl (fun u hu => y_idxS F elem76 rfl rfl rfl hp143 ex142) fun a F => ?_
 refine mbk [1] F H rfl ⟨fld80_1, trivial⟩ fun a F => ?_
 refine m_read F rfl rfl rfl rfl (y_loadA F agg25 rfl rfl (row_midE (A := [.slice p145 (x142.1).length c146]) (X := bcells x142.2) (w := _) (H.rowAt 1 rfl) (by simp only [List.length_append, List.length_cons, List.length_nil, icells_length, bcells_length])) ((bcells_length _).trans hl147)) fun a F => ?_
 refine mbk [0,7000,0,0] F H rfl ⟨fld84_0, rfl, plain3, trivial⟩ fun a F => ?_
 refine m_heavy rfl rfl ?_
 obtain ⟨x148, ex148, hm⟩ := ob hm
 refine sd F rfl ent22 (ih hl147 ex148 (H.pm 12 [11,2,0,1,2,3,4,5,6,7,8,9,10,11] rfl:):) ?_; rintro _ w a ⟨p149, c149, rfl, H⟩ F
 refine lz ?_; refine ct ⟨⟨_, H⟩, ?_⟩
 refine mb (List.replicate 5 0) F H rfl fun a F => ?_
 refine m_nil ?_
 refine ct (sq (sb [0,0] F H rfl fun a F => ?_))
 replace H := H.nf 13 rfl
 refine nl (cNm F rfl hm (fun hg150 hm => ?_) (fun hg150 hm => ?_))
 refine sr (s_build0O (R := R_api_Pair) wkP F rfl rfl rfl elem32 rfl H fun b151 w a H F => ?_)
 refine bb [0,0,0] F H rfl fun a F => ?_
 replace H := H.nf 14 rfl
 refine nl (wr (tr (br (tr (tr ?_))))); cases hm; refine ⟨_, rfl, ?_⟩; rintro rfl
 refine br (tr ?_)
 replace hm := elimR hm113
 refine tr ?_
 replace H := H.frz 0 rfl
 cases hm
 refine x_ret2 F rfl rfl rfl ?_
 exact ⟨_, rfl, (some ⟨b151, 0, none⟩), 0, rfl, (H.pm 14 [0] rfl:)⟩
 refine sk (ct (rl (bb [0,0] F H rfl fun a F => ?_)))
 refine lz (bn (ct (rl (bb [0,0,0] F H rfl fun a F => ?_))))
 refine lz (ct ?_); cases hm
 exact ⟨_, rfl, ⟨p149, c149, F.sl rfl, (H.pm 13 [0,4,5,6,7,8,9,10,11,12] rfl:)⟩⟩
 refine ex (cx (cx ?_)); cases hm; refine ⟨_, rfl, ?_⟩; rintro rfl
 refine ch (ct ?_)
 exact ⟨_, rfl, p140, c140, F.sl rfl, H⟩
 refine ct (sb [0,0,0] F H rfl fun a F => ?_)
 refine nl (wr ?_)
 cases hm
 refine x_ret2 F rfl rfl rfl ?_
 exact ⟨_, rfl, p114, c114, rfl, (H.pm 10 [0] rfl:)⟩
 replace hm := ifF hg54 hm
 refine qr H (by kernel_rfl) (by kernel_rfl) ?_
 refine qbk [1,2001,0,0,0] F rfl ⟨fld84_1, rfl, plain32, ⟨_, Tryz.underlying32⟩, trivial⟩ fun a F => ?_
 replace F := F.bT 69 hg53 rfl
 refine qbk (List.replicate 5 0) F rfl ⟨⟨_, Tryz.underlying32⟩, trivial⟩ fun a F => ?_
 replace F := F.bF 74 hg54 rfl
 refine qb (List.replicate 16 0) F rfl fun a F => ?_
 refine q_nil fun w H => ?_
 refine ct (cF F rfl ?_)
 refine sk (ct (sq (mix_regionK [0,2,5] [] (scL [1,3,4,2000,2002,2005,6]) [2] H rfl rfl (by kernel_rfl) (by kernel_rfl) fun w H => ?_)))
 refine mbk [0,1] F H rfl ⟨fld84_1, trivial⟩ fun a F => ?_
 refine m_pure F rfl rfl rfl rfl (fun u hu => y_load1 F plain32 rfl rfl (row_at (v := .slice p49 (r39.1.2.1).length c50) ((hu.choose_spec.blk 0 rfl).row) rfl)) fun a F => ?_
 refine m_heavy rfl rfl ?_
 refine s_build0O (R := R_api_Pair) wkP F rfl rfl rfl elem32 rfl H fun b152 w a H F => ?_
 refine lz ?_; refine ct ⟨⟨_, (H.pm 9 [3,0,1,2,4,5,6,7,8] rfl:)⟩, ?_⟩
 refine m_heavy rfl rfl ?_
 obtain ⟨x154, ex154, hm⟩ := ob hm
 refine s_app wkP F rfl rfl rfl rfl rfl rfl elem32 rfl ex154 H 0 8 rfl rfl fun p153 c153 w a H F => ?_
 refine lz ?_; refine ct ⟨⟨_, (H.pm 9 [3,0,1,2,4,5,6,7,8] rfl:)⟩, ?_⟩
 refine m_heavy rfl rfl ?_
 obtain ⟨x156, ex156, hm⟩ := ob hm
 refine s_app wkP F rfl rfl rfl rfl rfl rfl elem32 rfl ex156 H 0 1 rfl rfl fun p155 c155 w a H F => ?_
 refine lz ?_; refine ct ⟨⟨_, (H.pm 9 [3,0,1,2,4,5,6,7,8] rfl:)⟩, ?_⟩
 refine mb [0] F H rfl fun a F => ?_
 refine m_nil ?_
 refine ct (sq (sb [0] F H rfl fun a F => ?_))
 replace H := H.nf 9 rfl
 refine nl (xr2 9 [] [1,2,3,4,5,6,7] F H hm rfl rfl (fun r194 (p195 : Option Addr) (c195 : Nat) z => (14, .slice p195 (r194).length c195) :: z) (fun r194 p195 c195 z => HP.sl R_api_Pair p195 c195 r194 :: z) (fun o194 hm hm194 => ?_) (fun r194 a w hm p195 c195 F H => ?_))
 refine bl ?_
 replace H := H.frz 0 rfl
 refine xl2 9 [0,12] [1,2,3,4,5,6,7] F H hm rfl rfl (fun (s220 : (List T_api_Pair) × Int) (p221 : Option Addr) (c221 : Nat) z => (14, .slice p221 (s220.1).length c221) :: (15, .int .i64 (s220.2)) :: z) (fun s220 p221 c221 z => HP.sl R_api_Pair p221 c221 s220.1 :: z) ⟨p155, c155, F.sl rfl, (H.pm 9 [0,1,2,3,4,5,6,7] rfl:)⟩ (fun s220 a w o p221 c221 F H hm => ?_)
 refine sq (sr (bk [0,2,3002,0,0] F H rfl ⟨fld84_2, rfl, plain76, ⟨_, Tryz.underlying76⟩, trivial⟩ fun a F => ?_))
 refine nl (cPm F rfl hm (fun hg222 hm => ?_) (fun hg222 hm => ?_))
 refine sk (ct (sq (bl (sq ?_))))
 obtain ⟨x223, ex223, hm⟩ := ob hm
 obtain ⟨b224, o224, hp224, cs225, H⟩ := H.slE 2 rfl ex223
 have G := F; replace H := rc_api_Kid (H.pk 1 rfl); obtain ⟨p226, c227, hl228, rfl, J⟩ := H; have H := J; have F := G; clear G J
 refine mix_regionK [11] [] (scL [0,1,1002,3,4,5,1006,7,1008,9,10,2011,12,13,14,15,16]) [] H rfl rfl (by kernel_rfl) (by kernel_rfl) fun w H => ?_
 refine mbk [0,2,5002,0] F H rfl ⟨fld84_2, rfl, plain76, trivial⟩ fun a F => ?_
 refine m_pure F rfl rfl rfl rfl (fun u hu => y_idxS F elem76 rfl rfl rfl hp224 ex223) fun a F => ?_
 refine mbk [1] F H rfl ⟨fld80_1, trivial⟩ fun a F => ?_
 refine m_read F rfl rfl rfl rfl (y_loadA F agg25 rfl rfl (row_midE (A := [.slice p226 (x223.1).length c227]) (X := bcells x223.2) (w := _) (H.rowAt 1 rfl) (by simp only [List.length_append, List.length_cons, List.length_nil, icells_length, bcells_length])) ((bcells_length _).trans hl228)) fun a F => ?_
 refine mbk [0,5000,0,0] F H rfl ⟨fld84_0, rfl, plain3, trivial⟩ fun a F => ?_
 refine m_heavy rfl rfl ?_
 obtain ⟨x229, ex229, hm⟩ := ob hm
 refine sd F rfl ent22 (ih hl228 ex229 (H.pm 10 [9,2,0,1,2,3,4,5,6,7,8,9] rfl:):) ?_; rintro _ w a ⟨p230, c230, rfl, H⟩ F
 refine lz ?_; refine ct ⟨⟨_, H⟩, ?_⟩
 refine mb (List.replicate 5 0) F H rfl fun a F => ?_
 refine m_nil ?_
 refine ct (sq (sb [0,0] F H rfl fun a F => ?_))
 replace H := H.nf 11 rfl
 refine nl (cNm F rfl hm (fun hg231 hm => ?_) (fun hg231 hm => ?_))
 refine sr (s_build0O (R := R_api_Pair) wkP F rfl rfl rfl elem32 rfl H fun b232 w a H F => ?_)
 refine bb [0,0,0] F H rfl fun a F => ?_
 replace H := H.nf 12 rfl
 refine nl (wr (tr (br (tr (tr ?_))))); cases hm; refine ⟨_, rfl, ?_⟩; rintro rfl
 refine br (tr ?_)
 replace hm := elimR hm194
 refine tr ?_
 replace H := H.frz 0 rfl
 cases hm
 refine x_ret2 F rfl rfl rfl ?_
 exact ⟨_, rfl, (some ⟨b232, 0, none⟩), 0, rfl, (H.pm 12 [0] rfl:)⟩
 refine sk (ct (rl (bb [0,0] F H rfl fun a F => ?_)))
 refine lz (bn (ct (rl (bb [0,0,0] F H rfl fun a F => ?_))))
 refine lz (ct ?_); cases hm
 exact ⟨_, rfl, ⟨p230, c230, F.sl rfl, (H.pm 11 [0,4,5,6,7,8,9,10] rfl:)⟩⟩
 refine ex (cx (cx ?_)); cases hm; refine ⟨_, rfl, ?_⟩; rintro rfl
 refine ch (ct ?_)
 exact ⟨_, rfl, p221, c221, F.sl rfl, H⟩
 refine ct (sb [0,0,0] F H rfl fun a F => ?_)
 refine nl (wr ?_)
 cases hm
 refine x_ret2 F rfl rfl rfl ?_
 exact ⟨_, rfl, p195, c195, rfl, (H.pm 8 [0] rfl:)⟩
 replace hm := ifF hg53 hm
 refine qr H (by kernel_rfl) (by kernel_rfl) ?_
 refine qbk [1,2001,0,0,0] F rfl ⟨fld84_1, rfl, plain32, ⟨_, Tryz.underlying32⟩, trivial⟩ fun a F => ?_
 replace F := F.bF 69 hg53 rfl
 refine qb (List.replicate 21 0) F rfl fun a F => ?_
 refine q_nil fun w H => ?_
 refine ct (cF F rfl ?_)
 refine sk (ct (sq (mix_regionK [0,2,5] [] (scL [1,3,4,2000,2002,2005,6]) [2] H rfl rfl (by kernel_rfl) (by kernel_rfl) fun w H => ?_)))
 refine mbk [0,1] F H rfl ⟨fld84_1, trivial⟩ fun a F => ?_
 refine m_pure F rfl rfl rfl rfl (fun u hu => y_load1 F plain32 rfl rfl (row_at (v := .slice p49 (r39.1.2.1).length c50) ((hu.choose_spec.blk 0 rfl).row) rfl)) fun a F => ?_
 refine m_heavy rfl rfl ?_
 refine s_build0O (R := R_api_Pair) wkP F rfl rfl rfl elem32 rfl H fun b233 w a H F => ?_
 refine lz ?_; refine ct ⟨⟨_, (H.pm 9 [3,0,1,2,4,5,6,7,8] rfl:)⟩, ?_⟩
 refine m_heavy rfl rfl ?_
 obtain ⟨x235, ex235, hm⟩ := ob hm
 refine s_app wkP F rfl rfl rfl rfl rfl rfl elem32 rfl ex235 H 0 8 rfl rfl fun p234 c234 w a H F => ?_
 refine lz ?_; refine ct ⟨⟨_, (H.pm 9 [3,0,1,2,4,5,6,7,8] rfl:)⟩, ?_⟩
 refine m_heavy rfl rfl ?_
 obtain ⟨x237, ex237, hm⟩ := ob hm
 refine s_app wkP F rfl rfl rfl rfl rfl rfl elem32 rfl ex237 H 0 1 rfl rfl fun p236 c236 w a H F => ?_
 refine lz ?_; refine ct ⟨⟨_, (H.pm 9 [3,0,1,2,4,5,6,7,8] rfl:)⟩, ?_⟩
 refine mb [0] F H rfl fun a F => ?_
 refine m_nil ?_
 refine ct (sq (sb [0] F H rfl fun a F => ?_))
 replace H := H.nf 9 rfl
 refine nl (xr2 9 [] [1,2,3,4,5,6,7] F H hm rfl rfl (fun r275 (p276 : Option Addr) (c276 : Nat) z => (14, .slice p276 (r275).length c276) :: z) (fun r275 p276 c276 z => HP.sl R_api_Pair p276 c276 r275 :: z) (fun o275 hm hm275 => ?_) (fun r275 a w hm p276 c276 F H => ?_))
 refine bl ?_
 replace H := H.frz 0 rfl
 refine xl2 9 [0,12] [1,2,3,4,5,6,7] F H hm rfl rfl (fun (s301 : (List T_api_Pair) × Int) (p302 : Option Addr) (c302 : Nat) z => (14, .slice p302 (s301.1).length c302) :: (15, .int .i64 (s301.2)) :: z) (fun s301 p302 c302 z => HP.sl R_api_Pair p302 c302 s301.1 :: z) ⟨p236, c236, F.sl rfl, (H.pm 9 [0,1,2,3,4,5,6,7] rfl:)⟩ (fun s301 a w o p302 c302 F H hm => ?_)
 refine sq (sr (bk [0,2,3002,0,0] F H rfl ⟨fld84_2, rfl, plain76, ⟨_, Tryz.underlying76⟩, trivial⟩ fun a F => ?_))
 refine nl (cPm F rfl hm (fun hg303 hm => ?_) (fun hg303 hm => ?_))
 refine sk (ct (sq (bl (sq ?_))))
 obtain ⟨x304, ex304, hm⟩ := ob hm
 obtain ⟨b305, o305, hp305, cs306, H⟩ := H.slE 2 rfl ex304
 have G := F; replace H := rc_api_Kid (H.pk 1 rfl); obtain ⟨p307, c308, hl309, rfl, J⟩ := H; have H := J; have F := G; clear G J
 refine mix_regionK [11] [] (scL [0,1,1002,3,4,5,1006,7,1008,9,10,2011,12,13,14,15,16]) [] H rfl rfl (by kernel_rfl) (by kernel_rfl) fun w H => ?_
 refine mbk [0,2,5002,0] F H rfl ⟨fld84_2, rfl, plain76, trivial⟩ fun a F => ?_
 refine m_pure F rfl rfl rfl rfl (fun u hu => y_idxS F elem76 rfl rfl rfl hp305 ex304) fun a F => ?_
 refine mbk [1] F H rfl ⟨fld80_1, trivial⟩ fun a F => ?_
 refine m_read F rfl rfl rfl rfl (y_loadA F agg25 rfl rfl (row_midE (A := [.slice p307 (x304.1).length c308]) (X := bcells x304.2) (w := _) (H.rowAt 1 rfl) (by simp only [List.length_append, List.length_cons, List.length_nil, icells_length, bcells_length])) ((bcells_length _).trans hl309)) fun a F => ?_
 refine mbk [0,5000,0,0] F H rfl ⟨fld84_0, rfl, plain3, trivial⟩ fun a F => ?_
 refine m_heavy rfl rfl ?_
 obtain ⟨x310, ex310, hm⟩ := ob hm
 refine sd F rfl ent22 (ih hl309 ex310 (H.pm 10 [9,2,0,1,2,3,4,5,6,7,8,9] rfl:):) ?_; rintro _ w a ⟨p311, c311, rfl, H⟩ F
 refine lz ?_; refine ct ⟨⟨_, H⟩, ?_⟩
 refine mb (List.replicate 5 0) F H rfl fun a F => ?_
 refine m_nil ?_
 refine ct (sq (sb [0,0] F H rfl fun a F => ?_))
 replace H := H.nf 11 rfl
 refine nl (cNm F rfl hm (fun hg312 hm => ?_) (fun hg312 hm => ?_))
 refine sr (s_build0O (R := R_api_Pair) wkP F rfl rfl rfl elem32 rfl H fun b313 w a H F => ?_)
 refine bb [0,0,0] F H rfl fun a F => ?_
 replace H := H.nf 12 rfl
 refine nl (wr (tr (br (tr (tr ?_))))); cases hm; refine ⟨_, rfl, ?_⟩; rintro rfl
 refine br (tr ?_)
 replace hm := elimR hm275
 refine tr ?_
 replace H := H.frz 0 rfl
 cases hm
 refine x_ret2 F rfl rfl rfl ?_
 exact ⟨_, rfl, (some ⟨b313, 0, none⟩), 0, rfl, (H.pm 12 [0] rfl:)⟩
 refine sk (ct (rl (bb [0,0] F H rfl fun a F => ?_)))
 refine lz (bn (ct (rl (bb [0,0,0] F H rfl fun a F => ?_))))
 refine lz (ct ?_); cases hm
 exact ⟨_, rfl, ⟨p311, c311, F.sl rfl, (H.pm 11 [0,4,5,6,7,8,9,10] rfl:)⟩⟩
 refine ex (cx (cx ?_)); cases hm; refine ⟨_, rfl, ?_⟩; rintro rfl
 refine ch (ct ?_)
 exact ⟨_, rfl, p302, c302, F.sl rfl, H⟩
 refine ct (sb [0,0,0] F H rfl fun a F => ?_)
 refine nl (wr ?_)
 cases hm
 refine x_ret2 F rfl rfl rfl ?_
 exact ⟨_, rfl, p276, c276, rfl, (H.pm 8 [0] rfl:)⟩
theorem w_rCollectF (n_ : Nat) : ∀ {bag : (List UInt8) → Option (List UInt8)} {h : List UInt8} {level : Int} {met : List T_api_Pair} {q1 : Option Nat} {p3 : Option Addr} {c3 : Nat} {w0 w : World} {l : List HP} (hl2 : (h).length = 32) {r : (List T_api_Pair) × Int} (hm : rCollectF n_ bag h level met = some r) (H : St w0 w (HP.fm q1 hv false (rSl rByte) (fun l => l.length = 32) bag :: HP.sl R_api_Pair p3 c3 met :: l)), Calls Tryz.prog 22 [.map q1, .agg (bcells h).toArray, .int .i64 (level), .slice p3 (met).length c3].toArray w (fun e w' => ∃ v, e = .returned v ∧ ∃ (p4 : Option Addr) (c4 : Nat), v = .tuple [.slice p4 (r.1).length c4, .int .i64 (r.2)].toArray ∧ St w0 w' (HP.sl R_api_Pair p4 c4 r.1 :: l)) := by
  induction n_ with
  | zero => intro bag h level met q1 p3 c3 w0 w l hl2 r hm H; exact absurd hm (by simp [rCollectF])
  | succ n_ ih => intro bag h level met q1 p3 c3 w0 w l hl2 r hm H; exact w_rCollectS (rec_ := rCollectF n_) ih hl2 hm H
theorem w_rCollect {bag : (List UInt8) → Option (List UInt8)} {h : List UInt8} {level : Int} {met : List T_api_Pair} {q1 : Option Nat} {p3 : Option Addr} {c3 : Nat} {w0 w : World} {l : List HP} (hl2 : (h).length = 32) {r : (List T_api_Pair) × Int} (hm : rCollect bag h level met = some r) (H : St w0 w (HP.fm q1 hv false (rSl rByte) (fun l => l.length = 32) bag :: HP.sl R_api_Pair p3 c3 met :: l)) :
  Calls Tryz.prog 22 [.map q1, .agg (bcells h).toArray, .int .i64 (level), .slice p3 (met).length c3].toArray w (fun e w' => ∃ v, e = .returned v ∧ ∃ (p4 : Option Addr) (c4 : Nat), v = .tuple [.slice p4 (r.1).length c4, .int .i64 (r.2)].toArray ∧ St w0 w' (HP.sl R_api_Pair p4 c4 r.1 :: l)) := w_rCollectF 20 hl2 hm H
theorem ent15 : En Tryz.prog 15 := enters Tryz.func15 (by kernel_rfl) rfl
theorem w_rAll {bag : (List UInt8) → Option (List UInt8)} {root : List UInt8} {q1 : Option Nat} {w0 w : World} {l : List HP} (hl2 : (root).length = 32) {r : (List T_api_Pair) × Int} (hm : rAll bag root = some r) (H : St w0 w (HP.fm q1 hv false (rSl rByte) (fun l => l.length = 32) bag :: l)) :
  Calls Tryz.prog 8 [.map q1, .agg (bcells root).toArray].toArray w (fun e w' => ∃ v, e = .returned v ∧ ∃ (p3 : Option Addr) (c3 : Nat), v = .tuple [.slice p3 (r.1).length c3, .int .i64 (r.2)].toArray ∧ St w0 w' (HP.sl R_api_Pair p3 c3 r.1 :: l)) := by
 unfold rAll at hm
 refine x_enter Tryz.func8 rfl rfl rfl ?_
 intro a F
 refine sr (s_boxA wkP F rfl rfl rfl rfl rfl H fun b4 w a H F => ?_)
 refine bb [0,0] F H rfl fun a F => ?_
 replace H := H.nf 2 rfl
 refine nl (sr (bk [0,999] F H rfl ⟨rfl, (aggn agg25 ((bcells_length _).trans hl2)), trivial⟩ fun a F => ?_))
 replace H := H.owNil R_api_Pair 48
 replace H := H.frz 0 rfl
 obtain ⟨x5, ex5, hm⟩ := ob hm
 refine sd F rfl ent22 (w_rCollect hl2 ex5 (H.pm 3 [2,0,0,1,2] rfl:):) ?_; rintro _ w a ⟨p6, c6, rfl, H⟩ F
 refine bb (List.replicate 5 0) F H rfl fun a F => ?_
 replace H := H.nf 4 rfl
 refine nl (sq (sb [0,0] F H rfl fun a F => ?_))
 refine nl (cNm F rfl hm (fun hg7 hm => ?_) (fun hg7 hm => ?_))
 refine sr (s_build0O (R := R_api_Pair) wkP F rfl rfl rfl elem32 rfl H fun b8 w a H F => ?_)
 refine bb [0,0,0] F H rfl fun a F => ?_
 replace H := H.nf 5 rfl
 refine nl (wr (tr ?_))
 replace H := H.frz 0 rfl
 cases hm
 refine x_ret2 F rfl rfl rfl ?_
 exact ⟨_, rfl, (some ⟨b8, 0, none⟩), 0, rfl, (H.pm 5 [0] rfl:)⟩
 refine sk (ct (sb [0] F H rfl fun a F => ?_))
 obtain ⟨x9, ex9, hm⟩ := ob hm
 refine sd F rfl ent15 (w_m_triremeref08_Build ex9 (H.pm 4 [0,0,1,2,3] rfl:):) ?_; rintro _ w a ⟨cs11, rfl, hl10, H⟩ F
 refine bb [0,0,0,0] F H rfl fun a F => ?_
 refine s_allocA wkP F rfl rfl rfl agz25 rfl H fun b12 w a H F => ?_
 replace H := H.owNil (rBytesN 32) 25
 replace H := H.owNil (rSl rByte) 26
 refine s_allocA wkP F rfl rfl rfl agz51 rfl H fun b13 w a H F => ?_
 refine s_storeA wkP F rfl rfl agg25 rfl rfl rfl H 3 rfl ((bcells_length _).trans hl10) ((bcells_length _).trans (List.length_replicate (n := 32))) (bcells_flat _) fun w H => ?_
 refine s_storeA wkP F rfl rfl agg51 rfl rfl rfl H 0 rfl (H.rcLen 4 rfl) rfl (H.rcFlat 4 rfl) fun w H => ?_
 refine bb [0] F H rfl fun a F => ?_
 replace H := H.nf 9 rfl
 refine nl (sq (sb [0,0,0] F H rfl fun a F => ?_))
 rcases spN 29 F rfl hm with ⟨hg14, hm, F⟩ | ⟨hg14, hm, F⟩
 refine bk [3999,7999] F H rfl ⟨rfl, (aggn agg25 ((bcells_length _).trans hl10)), rfl, (aggn agg25 ((bcells_length _).trans hl2)), trivial⟩ fun a F => ?_
 refine g_onP F rfl rfl rfl rfl ?_
 refine sv F rfl (y_neqA F key25 rfl rfl rfl hl10 hl2) fun a F => ?_
 refine bb [0] F H rfl fun a F => ?_
 refine nl (cNm F rfl hm (fun hg15 hm => ?_) (fun hg15 hm => ?_))
 refine sr (s_build0O (R := R_api_Pair) wkP F rfl rfl rfl elem32 rfl H fun b16 w a H F => ?_)
 refine bb [0,0] F H rfl fun a F => ?_
 replace H := H.nf 10 rfl
 refine nl (wr (tr ?_))
 replace H := H.frz 0 rfl
 cases hm
 refine x_ret2 F rfl rfl rfl ?_
 exact ⟨_, rfl, (some ⟨b16, 0, none⟩), 0, rfl, (H.pm 10 [0] rfl:)⟩
 refine sk (ct (sb [0,0,0] F H rfl fun a F => ?_))
 refine nl (wr ?_)
 cases hm
 refine x_ret2 F rfl rfl rfl ?_
 exact ⟨_, rfl, p6, c6, rfl, (H.pm 9 [5] rfl:)⟩
 refine bb [0,0,0,0] F H rfl fun a F => ?_
 refine nl (cT F rfl ?_)
 refine sr (s_build0O (R := R_api_Pair) wkP F rfl rfl rfl elem32 rfl H fun b17 w a H F => ?_)
 refine bb [0,0] F H rfl fun a F => ?_
 replace H := H.nf 10 rfl
 refine nl (wr (tr ?_))
 replace H := H.frz 0 rfl
 cases hm
 refine x_ret2 F rfl rfl rfl ?_
 exact ⟨_, rfl, (some ⟨b17, 0, none⟩), 0, rfl, (H.pm 10 [0] rfl:)⟩
end Go.Proofs.YtnjemlkcamdbfaaGreatDoor
