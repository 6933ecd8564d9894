/- shape -/
import Derived.Test.YtnjemlkcamdbfaaGreatDoorNodeA
set_option linter.unusedSimpArgs false
set_option linter.unusedVariables false
namespace Go.Proofs.YtnjemlkcamdbfaaGreatDoor
open Go.RowKit Go.Tri
set_option maxRecDepth 100000
set_option maxHeartbeats 4000000
theorem w_m_triremeref06_Mark {x0_ : List UInt8} {x1_ : Int} {p1 : Option Addr} {c1 : Nat} {w0 w : World} {l : List HP}  {r : Bool} (hm : m_triremeref06_Mark x0_ x1_ = some r) (H : St w0 w (HP.sl rByte p1 c1 x0_ :: l)) :
  Calls Tryz.prog 51 [.slice p1 (x0_).length c1, .int .i64 (x1_)].toArray w (fun e w' => ∃ v, e = .returned v ∧ v = .bool (r) ∧ St w0 w' (l)) := by
 unfold m_triremeref06_Mark at hm
 refine x_enter Tryz.func51 rfl rfl rfl ?_
 intro a F
 refine sb [0] F H rfl fun a F => ?_
 refine nl (sq (sb [0,0,0] F H rfl fun a F => ?_))
 rcases spP 10 F rfl hm with ⟨hg2, hm, F⟩ | ⟨hg2, hm, F⟩
 refine bb [0,0,0] F H rfl fun a F => ?_
 refine nl (cT F rfl ?_)
 refine sb [0] F H rfl fun a F => ?_
 refine nl (wr (tr ?_))
 cases hm
 refine x_ret1 F rfl rfl ?_
 exact ⟨_, rfl, rfl, (H.pm 1 [] rfl:)⟩
 refine bb [0,0,0] F H rfl fun a F => ?_
 refine nl (cPm F rfl hm (fun hg3 hm => ?_) (fun hg3 hm => ?_))
 refine sb [0] F H rfl fun a F => ?_
 refine nl (wr (tr ?_))
 cases hm
 refine x_ret1 F rfl rfl ?_
 exact ⟨_, rfl, rfl, (H.pm 1 [] rfl:)⟩
 refine sk (ct (sb [0] F H rfl fun a F => ?_))
 refine nl (sq (sb [0] F H rfl fun a F => ?_))
 refine nl (xm0 1 [1] [] F H hm rfl rfl (fun r20 z => (5, .int .u64 (r20)) :: z) (fun r20 z => z) (fun r20 hm => ?_) (fun r20 a w hm F H => ?_))
 refine bl (xl0 1 [0,1] [0] F H hm rfl rfl (fun (s31 : Int × Int) z => (5, .int .u64 (s31.1)) :: (6, .int .i64 (s31.2)) :: z) (fun s31 z => z) ⟨F.sl rfl, H⟩ (fun s31 a w o F H hm => ?_))
 refine sq (sr (bk [0,0,0,0] F H rfl ⟨⟨_, Tryz.underlying26⟩, trivial⟩ fun a F => ?_))
 refine nl (cPm F rfl hm (fun hg32 hm => ?_) (fun hg32 hm => ?_))
 refine sk (ct (sq (bl (rl (bb [0,0,0] F H rfl fun a F => ?_)))))
 obtain ⟨x33, ex33, hm⟩ := ob hm
 obtain ⟨b34, o34, hp34, cs35, H⟩ := H.slE 0 rfl ex33
 obtain rfl := H.rcB 1 rfl
 replace H := H.dp 1 rfl
 refine sv F rfl (y_idxS F elem26 rfl rfl rfl hp34 ex33) fun a F => ?_
 refine bk [0,2,0,0] F H rfl ⟨rfl, plain5, Tryz.underlying5, Tryz.underlying116, trivial⟩ fun a F => ?_
 obtain ⟨x36, ex36, hm⟩ := ob hm
 refine sv F rfl (i_rem F rfl rfl rfl ex36) fun a F => ?_
 refine bb [0] F H rfl fun a F => ?_
 refine lz (bn (ct (rl (bb [0,0,0] F H rfl fun a F => ?_))))
 refine lz (ct ?_); cases hm
 exact ⟨_, rfl, ⟨F.sl rfl, (H.pm 2 [1] rfl:)⟩⟩
 refine ex (cx (cx ?_)); cases hm; refine ⟨_, rfl, ?_⟩; rintro rfl
 refine ch (ct ?_)
 exact ⟨F.sl rfl, (H.pm 1 [] rfl:)⟩
 refine ct (sq (sb [0] F H rfl fun a F => ?_))
 refine nl (xm0 0 [] [] F H hm rfl rfl (fun r44 z => (5, .int .u64 (r44)) :: z) (fun r44 z => z) (fun r44 hm => ?_) (fun r44 a w hm F H => ?_))
 refine bl (xl0 0 [1] [] F H hm rfl rfl (fun (s49 : Int × Int) z => (5, .int .u64 (s49.1)) :: (7, .int .i64 (s49.2)) :: z) (fun s49 z => z) ⟨F.sl rfl, H⟩ (fun s49 a w o F H hm => ?_))
 refine sq (sb [0,0,0] F H rfl fun a F => ?_)
 refine nl (cPm F rfl hm (fun hg50 hm => ?_) (fun hg50 hm => ?_))
 refine sk (ct (sq (bl (rl (bb [0] F H rfl fun a F => ?_)))))
 obtain ⟨x51, ex51, hm⟩ := ob hm
 refine sv F rfl (i_quo F rfl rfl rfl ex51) fun a F => ?_
 refine bb [0] F H rfl fun a F => ?_
 refine lz (bn (ct (rl (bb [0,0,0] F H rfl fun a F => ?_))))
 refine lz (ct ?_); cases hm
 exact ⟨_, rfl, ⟨F.sl rfl, H⟩⟩
 refine ex (cx (cx ?_)); cases hm; refine ⟨_, rfl, ?_⟩; rintro rfl
 refine ch (ct ?_)
 exact ⟨F.sl rfl, H⟩
 refine ct (sb [0] F H rfl fun a F => ?_)
 obtain ⟨x52, ex52, hm⟩ := ob hm
 refine sv F rfl (i_rem F rfl rfl rfl ex52) fun a F => ?_
 refine bb [0,0] F H rfl fun a F => ?_
 refine nl (wr ?_)
 cases hm
 refine x_ret1 F rfl rfl ?_
 exact ⟨_, rfl, rfl, H⟩
theorem w_m_triremeref06_size {x0_ : T_api_Pair} {cs1 : List Value} {w0 w : World} {l : List HP}  {r : Int} (hm : m_triremeref06_size x0_ = some r) (H : St w0 w (HP.rc R_api_Pair cs1 x0_ :: l)) :
  Calls Tryz.prog 50 [.agg cs1.toArray].toArray w (fun e w' => ∃ v, e = .returned v ∧ v = .int .i64 (r) ∧ St w0 w' (l)) := by
 unfold m_triremeref06_size at hm
 refine x_enter Tryz.func50 rfl rfl rfl ?_
 intro a F
 refine sr (s_boxA wkP F rfl rfl rfl rfl rfl H fun b2 w a H F => ?_)
 refine bb [0] F H rfl fun a F => ?_
 replace H := H.nf 2 rfl
 refine nl (sr (bk [0] F H rfl ⟨fld48_0, trivial⟩ fun a F => ?_))
 have G := F; replace H := rc_api_Pair (H.pk 1 rfl); obtain ⟨p3, c4, p5, c6, rfl, J⟩ := H; have H := J; have F := G; clear G J
 refine bk [2000,0,0,1,2001,0,0,0] F H rfl ⟨rfl, plain26, ⟨_, Tryz.underlying26⟩, fld48_1, rfl, plain26, ⟨_, Tryz.underlying26⟩, trivial⟩ fun a F => ?_
 refine nl (wr ?_)
 cases hm
 refine x_ret1 F rfl rfl ?_
 exact ⟨_, rfl, rfl, (H.pm 3 [] rfl:)⟩
theorem elem77 : ElemT Tryz.prog 77 3 1 8 (.int .i64 0) := ⟨Tryz.underlying77, by kernel_rfl, by kernel_rfl, by decide⟩
theorem ent50 : En Tryz.prog 50 := enters Tryz.func50 (by kernel_rfl) rfl
theorem ent51 : En Tryz.prog 51 := enters Tryz.func51 (by kernel_rfl) rfl
theorem w_m_triremeref06_Leaves {x0_ : List T_api_Pair} {p1 : Option Addr} {c1 : Nat} {w0 w : World} {l : List HP}  {r : (List Int)} (hm : m_triremeref06_Leaves x0_ = some r) (H : St w0 w (HP.sl R_api_Pair p1 c1 x0_ :: l)) :
  Calls Tryz.prog 31 [.slice p1 (x0_).length c1].toArray w (fun e w' => ∃ v, e = .returned v ∧ ∃ (p2 : Option Addr) (c2 : Nat), v = .slice p2 (r).length c2 ∧ St w0 w' (HP.sl (rInt .i64) p2 c2 r :: l)) := by
 unfold m_triremeref06_Leaves at hm
 refine x_enter Tryz.func31 rfl rfl rfl ?_
 intro a F
 refine sb [0] F H rfl fun a F => ?_
 refine nl (sr (s_build0O (R := (rInt .i64)) wkP F rfl rfl rfl elem77 rfl H fun b3 w a H F => ?_))
 refine bb [0] F H rfl fun a F => ?_
 replace H := H.nf 2 rfl
 refine nl (sq (sb [0] F H rfl fun a F => ?_))
 refine nl (xm2 2 [] [] F H hm rfl rfl (fun r341 (p342 : Option Addr) (c342 : Nat) z => (3, .slice p342 (r341).length c342) :: z) (fun r341 p342 c342 z => HP.ow (rInt .i64) 3 p342 c342 r341 :: z) (fun r341 hm => ?_) (fun r341 a w hm p342 c342 F H => ?_))
 refine bl (xl2 2 [0] [1] F H hm rfl rfl (fun (s567 : (List Int) × Int) (p568 : Option Addr) (c568 : Nat) z => (3, .slice p568 (s567.1).length c568) :: (4, .int .i64 (s567.2)) :: z) (fun s567 p568 c568 z => HP.ow (rInt .i64) 3 p568 c568 s567.1 :: z) ⟨(some ⟨b3, 0, none⟩), 0, F.sl rfl, H⟩ (fun s567 a w o p568 c568 F H hm => ?_))
 refine sq (sr (bk [0,0,0,0] F H rfl ⟨⟨_, Tryz.underlying32⟩, trivial⟩ fun a F => ?_))
 refine nl (cPm F rfl hm (fun hg569 hm => ?_) (fun hg569 hm => ?_))
 refine sk (ct (bl (sb [0,0] F H rfl fun a F => ?_)))
 obtain ⟨x570, ex570, hm⟩ := ob hm
 obtain ⟨b571, o571, hp571, cs572, H⟩ := H.slE 1 rfl ex570
 refine sv F rfl (y_idxS F elem32 rfl rfl rfl hp571 ex570) fun a F => ?_
 refine bk [999] F H rfl ⟨rfl, (aggn agg48 (H.rcLen 1 rfl)), trivial⟩ fun a F => ?_
 obtain ⟨x573, ex573, hm⟩ := ob hm
 refine sd F rfl ent50 (w_m_triremeref06_size ex573 (H.pm 4 [1,0,1,2,3] rfl:):) ?_; rintro _ w a ⟨rfl, H⟩ F
 refine bb [0,0] F H rfl fun a F => ?_
 replace H := H.nf 4 rfl
 refine nl (sq (xm0 4 [0,3,4] [0,2,3] F H hm rfl rfl (fun r625 z => (5, .int .i64 (r625)) :: z) (fun r625 z => z) (fun r625 hm => ?_) (fun r625 a w hm F H => ?_)))
 refine bl (xl0 4 [0,3,4] [0,2,3] F H hm rfl rfl (fun (s659 : Int × Int) z => (5, .int .i64 (s659.1)) :: (6, .int .i64 (s659.2)) :: z) (fun s659 z => z) ⟨F.sl rfl, (H.pm 4 [0,2,3] rfl:)⟩ (fun s659 a w o F H hm => ?_))
 refine sq (sr (bk (List.replicate 7 0) F H rfl ⟨⟨_, Tryz.underlying32⟩, trivial⟩ fun a F => ?_))
 rcases spP 23 F rfl hm with ⟨hg660, hm, F⟩ | ⟨hg660, hm, F⟩
 refine bb (List.replicate 5 0) F H rfl fun a F => ?_
 refine g_onP F rfl rfl rfl rfl ?_
 obtain ⟨x661, ex661, hm⟩ := ob hm
 obtain ⟨b662, o662, hp662, cs663, H⟩ := H.slE 2 rfl ex661
 refine sv F rfl (y_idxS F elem32 rfl rfl rfl hp662 ex661) fun a F => ?_
 refine bk [0] F H rfl ⟨fld48_0, trivial⟩ fun a F => ?_
 refine g_onP F rfl rfl rfl rfl ?_
 have G := F; replace H := rc_api_Pair (H.pk 1 rfl); obtain ⟨p664, c665, p666, c667, rfl, J⟩ := H; have H := J; have F := G; clear G J
 refine bk [2000] F H rfl ⟨rfl, plain26, trivial⟩ fun a F => ?_
 refine g_onP F rfl rfl rfl rfl ?_
 obtain ⟨x668, ex668, hm⟩ := ob hm
 refine sd F rfl ent51 (w_m_triremeref06_Mark ex668 (H.pm 6 [0,0,1,2,3,4,5] rfl:):) ?_; rintro _ w a ⟨rfl, H⟩ F
 refine bb [0,0,0] F H rfl fun a F => ?_
 by_cases hg669 : (!x668) = true
 replace hm := ifT hg669 hm
 replace F := F.vT 35 hg669 rfl
 refine bb (List.replicate 5 0) F H rfl fun a F => ?_
 refine g_onP F rfl rfl rfl rfl ?_
 obtain ⟨x670, ex670, hm⟩ := ob hm
 obtain ⟨cs671, H⟩ := H.slF 5 rfl hp662 ex670
 refine sv F rfl (y_idxS F elem32 rfl rfl rfl hp662 ex670) fun a F => ?_
 refine bk [999] F H rfl ⟨rfl, (aggn agg48 (H.rcLen 1 rfl)), trivial⟩ fun a F => ?_
 refine g_onP F rfl rfl rfl rfl ?_
 obtain ⟨x672, ex672, hm⟩ := ob hm
 refine sd F rfl ent50 (w_m_triremeref06_size ex672 (H.pm 8 [1,0,1,2,3,4,5,6,7] rfl:):) ?_; rintro _ w a ⟨rfl, H⟩ F
 refine bb [0,0,0] F H rfl fun a F => ?_
 replace H := H.nf 8 rfl
 refine nl (cPm F rfl hm (fun hg673 hm => ?_) (fun hg673 hm => ?_))
 refine sk (ct (bl (sb (List.replicate 5 0) F H rfl fun a F => ?_)))
 obtain ⟨x674, ex674, hm⟩ := ob hm
 obtain ⟨cs675, H⟩ := H.slF 7 rfl hp662 ex674
 refine sv F rfl (y_idxS F elem32 rfl rfl rfl hp662 ex674) fun a F => ?_
 refine bk [999] F H rfl ⟨rfl, (aggn agg48 (H.rcLen 1 rfl)), trivial⟩ fun a F => ?_
 obtain ⟨x676, ex676, hm⟩ := ob hm
 refine sd F rfl ent50 (w_m_triremeref06_size ex676 (H.pm 10 [1,0,1,2,3,4,5,6,7,8,9] rfl:):) ?_; rintro _ w a ⟨rfl, H⟩ F
 refine bb [0,0] F H rfl fun a F => ?_
 replace H := H.nf 10 rfl
 refine nl (rl (bb [0,0,0] F H rfl fun a F => ?_))
 refine lz (bn (ct ?_)); cases hm
 exact ⟨_, rfl, ⟨F.sl rfl, (H.pm 10 [7,8,9] rfl:)⟩⟩
 refine ex (cx (cx ?_)); cases hm; refine ⟨_, rfl, ?_⟩; rintro rfl
 refine ch (ct ?_)
 exact ⟨F.sl rfl, (H.pm 8 [5,6,7] rfl:)⟩
 replace hm := ifF hg669 hm
 replace F := F.vF 35 hg669 rfl
 refine bb (List.replicate 11 0) F H rfl fun a F => ?_
 replace H := H.nf 6 rfl
 refine nl (cF F rfl ?_)
 refine ex (cx (cx ?_)); cases hm; refine ⟨_, rfl, ?_⟩; rintro rfl
 refine ch (ct ?_)
 exact ⟨F.sl rfl, (H.pm 6 [3,4,5] rfl:)⟩
 refine bb (List.replicate 23 0) F H rfl fun a F => ?_
 refine nl (cF F rfl ?_)
 refine ex (cx (cx ?_)); cases hm; refine ⟨_, rfl, ?_⟩; rintro rfl
 refine ch (ct ?_)
 exact ⟨F.sl rfl, H⟩
 refine ct (sb [0,0] F H rfl fun a F => ?_)
 refine s_buildC wkP F rfl rfl rfl elem77 zero3 rfl rfl rfl rfl (by simp [Value.cells]) (by decide) H fun b677 w a H F => ?_
 replace H := H.blkOw1 (R := (rInt .i64)) (x := r625) (fun gg => rfl)
 replace H := H.frz 0 rfl
 obtain ⟨x679, ex679, hm⟩ := ob hm
 refine s_app wkP F rfl rfl rfl rfl rfl rfl elem77 rfl ex679 H 2 0 rfl rfl fun p678 c678 w a H F => ?_
 refine bb [0] F H rfl fun a F => ?_
 replace H := H.nf 4 rfl
 refine nl (rl (bb [0,0,0,0] F H rfl fun a F => ?_))
 refine lz (bn (ct ?_)); cases hm
 exact ⟨_, rfl, ⟨p678, c678, F.sl rfl, (H.pm 4 [2,3] rfl:)⟩⟩
 refine ex (cx (cx ?_)); cases hm; refine ⟨_, rfl, ?_⟩; rintro rfl
 refine ch (ct ?_)
 exact ⟨p568, c568, F.sl rfl, (H.pm 2 [0] rfl:)⟩
 refine ct (sq (sr (bk [0,0,0] F H rfl ⟨⟨_, Tryz.underlying77⟩, trivial⟩ fun a F => ?_)))
 refine nl (cPm F rfl hm (fun hg680 hm => ?_) (fun hg680 hm => ?_))
 refine sr (s_buildC wkP F rfl rfl rfl elem77 zero3 rfl rfl rfl rfl (by simp [Value.cells]) (by decide) H fun b681 w a H F => ?_)
 replace H := H.blkOw1 (R := (rInt .i64)) (x := 0) (fun gg => rfl)
 refine bb [0] F H rfl fun a F => ?_
 replace H := H.nf 2 rfl
 refine nl (wr (tr ?_))
 replace H := H.frz 0 rfl
 cases hm
 refine x_ret1 F rfl rfl ?_
 exact ⟨_, rfl, (some ⟨b681, 0, none⟩), ([0]).length, rfl, (H.pm 2 [0] rfl:)⟩
 refine sk (ct (sb [0,0] F H rfl fun a F => ?_))
 refine nl (wr ?_)
 replace H := H.frz 0 rfl
 cases hm
 refine x_ret1 F rfl rfl ?_
 exact ⟨_, rfl, p342, c342, rfl, H⟩
theorem elem49 : ElemT Tryz.prog 49 26 1 24 (.slice none 0 0) := ⟨Tryz.underlying49, by kernel_rfl, by kernel_rfl, by decide⟩
theorem w_m_triremeref06_Inner {x0_ : List (List UInt8)} {x1_ : Int} {p1 : Option Addr} {c1 : Nat} {w0 w : World} {l : List HP}  {r : (List Int)} (hm : m_triremeref06_Inner x0_ x1_ = some r) (H : St w0 w (HP.sl (rSl rByte) p1 c1 x0_ :: l)) :
  Calls Tryz.prog 33 [.slice p1 (x0_).length c1, .int .i64 (x1_)].toArray w (fun e w' => ∃ v, e = .returned v ∧ ∃ (p2 : Option Addr) (c2 : Nat), v = .slice p2 (r).length c2 ∧ St w0 w' (HP.sl (rInt .i64) p2 c2 r :: l)) := by
 unfold m_triremeref06_Inner at hm
 refine x_enter Tryz.func33 rfl rfl rfl ?_
 intro a F
 refine sb [0] F H rfl fun a F => ?_
 refine nl (sr (s_build0O (R := (rInt .i64)) wkP F rfl rfl rfl elem77 rfl H fun b3 w a H F => ?_))
 refine bb [0] F H rfl fun a F => ?_
 replace H := H.nf 2 rfl
 refine nl (sq (sb [0] F H rfl fun a F => ?_))
 refine nl (xm2 2 [] [] F H hm rfl rfl (fun r191 (p192 : Option Addr) (c192 : Nat) z => (5, .slice p192 (r191).length c192) :: z) (fun r191 p192 c192 z => HP.ow (rInt .i64) 3 p192 c192 r191 :: z) (fun r191 hm => ?_) (fun r191 a w hm p192 c192 F H => ?_))
 refine bl (xl2 2 [0,1] [1] F H hm rfl rfl (fun (s317 : (List Int) × Int) (p318 : Option Addr) (c318 : Nat) z => (5, .slice p318 (s317.1).length c318) :: (6, .int .i64 (s317.2)) :: z) (fun s317 p318 c318 z => HP.ow (rInt .i64) 3 p318 c318 s317.1 :: z) ⟨(some ⟨b3, 0, none⟩), 0, F.sl rfl, H⟩ (fun s317 a w o p318 c318 F H hm => ?_))
 refine sq (sr (bk [0,0,0,0] F H rfl ⟨⟨_, Tryz.underlying49⟩, trivial⟩ fun a F => ?_))
 refine nl (cPm F rfl hm (fun hg319 hm => ?_) (fun hg319 hm => ?_))
 refine sk (ct (bl (sb [0] F H rfl fun a F => ?_)))
 refine nl (sq (xm0 2 [0,1,5,6] [0,1] F H hm rfl rfl (fun r348 z => (7, .int .i64 (r348)) :: z) (fun r348 z => z) (fun r348 hm => ?_) (fun r348 a w hm F H => ?_)))
 refine bl (xl0 2 [0,1,5,6] [0,1] F H hm rfl rfl (fun (s367 : Int) z => (7, .int .i64 (s367)) :: z) (fun s367 z => z) ⟨F.sl rfl, H⟩ (fun s367 a w o F H hm => ?_))
 refine sq (sb [0,0,0] F H rfl fun a F => ?_)
 rcases spP 15 F rfl hm with ⟨hg368, hm, F⟩ | ⟨hg368, hm, F⟩
 refine bk (List.replicate 8 0) F H rfl ⟨⟨_, Tryz.underlying49⟩, trivial⟩ fun a F => ?_
 rcases spP 23 F rfl hm with ⟨hg369, hm, F⟩ | ⟨hg369, hm, F⟩
 refine bb [0,0,0] F H rfl fun a F => ?_
 rcases spP 26 F rfl hm with ⟨hg370, hm, F⟩ | ⟨hg370, hm, F⟩
 refine bb (List.replicate 12 0) F H rfl fun a F => ?_
 refine nl (cT F rfl ?_)
 refine sk (ct (bl (rl (bb [0,0,0] F H rfl fun a F => ?_))))
 refine lz (bn (ct ?_)); cases hm
 exact ⟨_, rfl, ⟨F.sl rfl, H⟩⟩
 refine bb (List.replicate 5 0) F H rfl fun a F => ?_
 refine g_onP F rfl rfl rfl rfl ?_
 obtain ⟨x371, ex371, hm⟩ := ob hm
 obtain ⟨b372, o372, hp372, cs373, H⟩ := H.slE 1 rfl ex371
 have G := F; obtain ⟨p374, c374, rfl, H⟩ := H.rcSl 1 rfl; have F := G; clear G
 replace H := H.dp 2 rfl
 refine sv F rfl (y_idxS F elem49 rfl rfl rfl hp372 ex371) fun a F => ?_
 refine bk [1000,0] F H rfl ⟨rfl, plain26, trivial⟩ fun a F => ?_
 refine g_onP F rfl rfl rfl rfl ?_
 obtain ⟨x375, ex375, hm⟩ := ob hm
 refine sd F rfl ent51 (w_m_triremeref06_Mark ex375 (H.pm 4 [0,0,1,2,3] rfl:):) ?_; rintro _ w a ⟨rfl, H⟩ F
 refine bb [0,0,0] F H rfl fun a F => ?_
 replace H := H.nf 4 rfl
 refine nl (cB F rfl (fun hg376 => ?_) (fun hg376 => ?_))
 replace hm := ifT hg376 hm
 refine sk (ct (bl (rl (bb [0,0,0] F H rfl fun a F => ?_))))
 refine lz (bn (ct ?_)); cases hm
 exact ⟨_, rfl, ⟨F.sl rfl, (H.pm 4 [2,3] rfl:)⟩⟩
 replace hm := ifF (nT hg376) hm
 refine ex (cx (cx ?_)); cases hm; refine ⟨_, rfl, ?_⟩; rintro rfl
 refine ch (ct ?_)
 exact ⟨F.sl rfl, (H.pm 4 [2,3] rfl:)⟩
 refine bb (List.replicate 15 0) F H rfl fun a F => ?_
 refine nl (cF F rfl ?_)
 refine ex (cx (cx ?_)); cases hm; refine ⟨_, rfl, ?_⟩; rintro rfl
 refine ch (ct ?_)
 exact ⟨F.sl rfl, H⟩
 refine bb (List.replicate 23 0) F H rfl fun a F => ?_
 refine nl (cF F rfl ?_)
 refine ex (cx (cx ?_)); cases hm; refine ⟨_, rfl, ?_⟩; rintro rfl
 refine ch (ct ?_)
 exact ⟨F.sl rfl, H⟩
 refine ct (sb [0,0] F H rfl fun a F => ?_)
 refine s_buildC wkP F rfl rfl rfl elem77 zero3 rfl rfl rfl rfl (by simp [Value.cells]) (by decide) H fun b377 w a H F => ?_
 replace H := H.blkOw1 (R := (rInt .i64)) (x := r348) (fun gg => rfl)
 replace H := H.frz 0 rfl
 obtain ⟨x379, ex379, hm⟩ := ob hm
 refine s_app wkP F rfl rfl rfl rfl rfl rfl elem77 rfl ex379 H 1 0 rfl rfl fun p378 c378 w a H F => ?_
 refine bb [0] F H rfl fun a F => ?_
 replace H := H.nf 3 rfl
 refine nl (rl (bb [0,0,0,0] F H rfl fun a F => ?_))
 refine lz (bn (ct ?_)); cases hm
 exact ⟨_, rfl, ⟨p378, c378, F.sl rfl, (H.pm 3 [1,2] rfl:)⟩⟩
 refine ex (cx (cx ?_)); cases hm; refine ⟨_, rfl, ?_⟩; rintro rfl
 refine ch (ct ?_)
 exact ⟨p318, c318, F.sl rfl, (H.pm 2 [0] rfl:)⟩
 refine ct (sb [0,0] F H rfl fun a F => ?_)
 refine nl (wr ?_)
 replace H := H.frz 0 rfl
 cases hm
 refine x_ret1 F rfl rfl ?_
 exact ⟨_, rfl, p192, c192, rfl, H⟩
theorem w_m_triremeref06_SamePairs {x0_ : List T_api_Pair} {x1_ : List T_api_Pair} {p1 : Option Addr} {c1 : Nat} {p2 : Option Addr} {c2 : Nat} {w0 w : World} {l : List HP}  {r : Bool} (hm : m_triremeref06_SamePairs x0_ x1_ = some r) (H : St w0 w (HP.sl R_api_Pair p1 c1 x0_ :: HP.sl R_api_Pair p2 c2 x1_ :: l)) :
  Calls Tryz.prog 12 [.slice p1 (x0_).length c1, .slice p2 (x1_).length c2].toArray w (fun e w' => ∃ v, e = .returned v ∧ v = .bool (r) ∧ St w0 w' (l)) := by
 unfold m_triremeref06_SamePairs at hm
 refine x_enter Tryz.func12 rfl rfl rfl ?_
 intro a F
 refine sb [0] F H rfl fun a F => ?_
 refine nl (sq (sr (bk (List.replicate 5 0) F H rfl ⟨⟨_, Tryz.underlying32⟩, ⟨_, Tryz.underlying32⟩, trivial⟩ fun a F => ?_)))
 refine nl (cNm F rfl hm (fun hg3 hm => ?_) (fun hg3 hm => ?_))
 refine sb [0] F H rfl fun a F => ?_
 refine nl (wr (tr ?_))
 cases hm
 refine x_ret1 F rfl rfl ?_
 exact ⟨_, rfl, rfl, (H.pm 2 [] rfl:)⟩
 refine sk (ct (sq (sb [0] F H rfl fun a F => ?_)))
 refine nl (xr0 2 [] [] F H hm rfl rfl (fun r92 z => z) (fun r92 z => z) (fun o92 hm hm92 => ?_) (fun r92 a w hm F H => ?_))
 refine bl (xl0 2 [0,1] [0,1] F H hm rfl rfl (fun (s151 : Int) z => (5, .int .i64 (s151)) :: z) (fun s151 z => z) ⟨F.sl rfl, H⟩ (fun s151 a w o F H hm => ?_))
 refine sq (sr (bk [0,0,0,0] F H rfl ⟨⟨_, Tryz.underlying32⟩, trivial⟩ fun a F => ?_))
 refine nl (cPm F rfl hm (fun hg152 hm => ?_) (fun hg152 hm => ?_))
 refine sk (ct (sq (bl (sq ?_))))
 obtain ⟨x153, ex153, hm⟩ := ob hm
 obtain ⟨b154, o154, hp154, cs155, H⟩ := H.slE 0 rfl ex153
 have G := F; replace H := rc_api_Pair (H.pk 1 rfl); obtain ⟨p156, c157, p158, c159, rfl, J⟩ := H; have H := J; have F := G; clear G J
 obtain ⟨x160, ex160, hm⟩ := ob hm
 obtain ⟨b161, o161, hp161, cs162, H⟩ := H.slE 4 rfl ex160
 have G := F; replace H := rc_api_Pair (H.pk 1 rfl); obtain ⟨p163, c164, p165, c166, rfl, J⟩ := H; have H := J; have F := G; clear G J
 by_cases hg167 : x153.1 = x160.1
 replace hm := ifT hg167 hm
 obtain ⟨x168, ex168, hm⟩ := ob hm
 obtain ⟨cs169, H⟩ := H.slF 6 rfl hp154 ex168
 have G := F; replace H := rc_api_Pair (H.pk 1 rfl); obtain ⟨p170, c171, p172, c173, rfl, J⟩ := H; have H := J; have F := G; clear G J
 obtain ⟨x174, ex174, hm⟩ := ob hm
 obtain ⟨cs175, H⟩ := H.slF 10 rfl hp161 ex174
 have G := F; replace H := rc_api_Pair (H.pk 1 rfl); obtain ⟨p176, c177, p178, c179, rfl, J⟩ := H; have H := J; have F := G; clear G J
 refine qr H (by kernel_rfl) (by kernel_rfl) ?_
 refine qb [0,0] F rfl fun a F => ?_
 refine qv F rfl (fun u hu => y_idxS F elem32 rfl rfl rfl hp154 ex153) fun a F => ?_
 refine qbk [0,11000] F rfl ⟨fld48_0, rfl, plain26, trivial⟩ fun a F => ?_
 refine qv F rfl (fun u hu => y_b2s F Tryz.underlying26 Tryz.underlying9 Tryz.underlying5 rfl rfl (hu) 9 rfl) fun a F => ?_
 refine qb [0,0] F rfl fun a F => ?_
 refine qv F rfl (fun u hu => y_idxS F elem32 rfl rfl rfl hp161 ex160) fun a F => ?_
 refine qbk [0,8000] F rfl ⟨fld48_0, rfl, plain26, trivial⟩ fun a F => ?_
 refine qv F rfl (fun u hu => y_b2s F Tryz.underlying26 Tryz.underlying9 Tryz.underlying5 rfl rfl (hu) 6 rfl) fun a F => ?_
 refine qv F rfl (fun u hu => y_neT (l := x153.1) (m := x160.1) F rfl rfl rfl) fun a F => ?_
 refine qb [0] F rfl fun a F => ?_
 replace F := F.nT 30 hg167 rfl
 refine qb [0,0] F rfl fun a F => ?_
 refine qg_on F rfl rfl rfl rfl ?_
 refine qv F rfl (fun u hu => y_idxS F elem32 rfl rfl rfl hp154 ex168) fun a F => ?_
 refine qbk [1,5001] F rfl ⟨fld48_1, rfl, plain26, trivial⟩ fun a F => ?_
 refine qg_on F rfl rfl rfl rfl ?_
 refine qv F rfl (fun u hu => y_b2s F Tryz.underlying26 Tryz.underlying9 Tryz.underlying5 rfl rfl (hu) 4 rfl) fun a F => ?_
 refine qb [0,0] F rfl fun a F => ?_
 refine qg_on F rfl rfl rfl rfl ?_
 refine qv F rfl (fun u hu => y_idxS F elem32 rfl rfl rfl hp161 ex174) fun a F => ?_
 refine qbk [1,2001] F rfl ⟨fld48_1, rfl, plain26, trivial⟩ fun a F => ?_
 refine qg_on F rfl rfl rfl rfl ?_
 refine qv F rfl (fun u hu => y_b2s F Tryz.underlying26 Tryz.underlying9 Tryz.underlying5 rfl rfl (hu) 1 rfl) fun a F => ?_
 refine qg_on F rfl rfl rfl rfl ?_
 refine qv F rfl (fun u hu => y_neT (l := x168.2) (m := x174.2) F rfl rfl rfl) fun a F => ?_
 refine qb [0] F rfl fun a F => ?_
 refine q_nil fun w H => ?_
 refine ct (cNm F rfl hm (fun hg180 hm => ?_) (fun hg180 hm => ?_))
 refine sb [0] F H rfl fun a F => ?_
 refine nl (wr (br (tr (tr ?_)))); cases hm; refine ⟨_, rfl, ?_⟩; rintro rfl
 refine br (tr ?_)
 replace hm := elimR hm92
 refine tr ?_
 cases hm
 refine x_ret1 F rfl rfl ?_
 exact ⟨_, rfl, rfl, (H.pm 14 [] rfl:)⟩
 refine sk (bn (ct (rl (bb [0,0,0] F H rfl fun a F => ?_))))
 refine lz (ct ?_); cases hm
 exact ⟨_, rfl, ⟨F.sl rfl, (H.pm 14 [12,13] rfl:)⟩⟩
 replace hm := ifF hg167 hm
 refine qr H (by kernel_rfl) (by kernel_rfl) ?_
 refine qb [0,0] F rfl fun a F => ?_
 refine qv F rfl (fun u hu => y_idxS F elem32 rfl rfl rfl hp154 ex153) fun a F => ?_
 refine qbk [0,5000] F rfl ⟨fld48_0, rfl, plain26, trivial⟩ fun a F => ?_
 refine qv F rfl (fun u hu => y_b2s F Tryz.underlying26 Tryz.underlying9 Tryz.underlying5 rfl rfl (hu) 3 rfl) fun a F => ?_
 refine qb [0,0] F rfl fun a F => ?_
 refine qv F rfl (fun u hu => y_idxS F elem32 rfl rfl rfl hp161 ex160) fun a F => ?_
 refine qbk [0,2000] F rfl ⟨fld48_0, rfl, plain26, trivial⟩ fun a F => ?_
 refine qv F rfl (fun u hu => y_b2s F Tryz.underlying26 Tryz.underlying9 Tryz.underlying5 rfl rfl (hu) 0 rfl) fun a F => ?_
 refine qv F rfl (fun u hu => y_neT (l := x153.1) (m := x160.1) F rfl rfl rfl) fun a F => ?_
 refine qb [0] F rfl fun a F => ?_
 replace F := F.nF 30 hg167 rfl
 refine qb (List.replicate 14 0) F rfl fun a F => ?_
 refine q_nil fun w H => ?_
 refine ct (cT F rfl ?_)
 refine sb [0] F H rfl fun a F => ?_
 refine nl (wr (br (tr (tr ?_)))); cases hm; refine ⟨_, rfl, ?_⟩; rintro rfl
 refine br (tr ?_)
 replace hm := elimR hm92
 refine tr ?_
 cases hm
 refine x_ret1 F rfl rfl ?_
 exact ⟨_, rfl, rfl, (H.pm 8 [] rfl:)⟩
 refine ex (cx (cx ?_)); cases hm; refine ⟨_, rfl, ?_⟩; rintro rfl
 refine ch (ct ?_)
 exact ⟨_, rfl, F.cut _ trivial, (H.pm 2 [] rfl:)⟩
 refine ct (sb [0] F H rfl fun a F => ?_)
 refine nl (wr ?_)
 cases hm
 refine x_ret1 F rfl rfl ?_
 exact ⟨_, rfl, rfl, H⟩
theorem w_m_triremeref06_Rising {x0_ : List T_api_Pair} {p1 : Option Addr} {c1 : Nat} {w0 w : World} {l : List HP}  {r : Bool} (hm : m_triremeref06_Rising x0_ = some r) (H : St w0 w (HP.sl R_api_Pair p1 c1 x0_ :: l)) :
  Calls Tryz.prog 30 [.slice p1 (x0_).length c1].toArray w (fun e w' => ∃ v, e = .returned v ∧ v = .bool (r) ∧ St w0 w' (l)) := by
 unfold m_triremeref06_Rising at hm
 refine x_enter Tryz.func30 rfl rfl rfl ?_
 intro a F
 refine sb [0] F H rfl fun a F => ?_
 refine nl (sq (sb [0] F H rfl fun a F => ?_))
 refine nl (xr0 1 [] [] F H hm rfl rfl (fun r48 z => z) (fun r48 z => z) (fun o48 hm hm48 => ?_) (fun r48 a w hm F H => ?_))
 refine bl (xl0 1 [0] [0] F H hm rfl rfl (fun (s79 : Int) z => (3, .int .i64 (s79)) :: z) (fun s79 z => z) ⟨F.sl rfl, H⟩ (fun s79 a w o F H hm => ?_))
 refine sq (sr (bk [0,0,0,0] F H rfl ⟨⟨_, Tryz.underlying32⟩, trivial⟩ fun a F => ?_))
 refine nl (cPm F rfl hm (fun hg80 hm => ?_) (fun hg80 hm => ?_))
 refine sk (ct (sq (bl (sq ?_))))
 obtain ⟨x81, ex81, hm⟩ := ob hm
 obtain ⟨b82, o82, hp82, cs83, H⟩ := H.slE 0 rfl ex81
 have G := F; replace H := rc_api_Pair (H.pk 1 rfl); obtain ⟨p84, c85, p86, c87, rfl, J⟩ := H; have H := J; have F := G; clear G J
 obtain ⟨x88, ex88, hm⟩ := ob hm
 obtain ⟨cs89, H⟩ := H.slF 3 rfl hp82 ex88
 have G := F; replace H := rc_api_Pair (H.pk 1 rfl); obtain ⟨p90, c91, p92, c93, rfl, J⟩ := H; have H := J; have F := G; clear G J
 refine qr H (by kernel_rfl) (by kernel_rfl) ?_
 refine qb [0,0,0] F rfl fun a F => ?_
 refine qv F rfl (fun u hu => y_idxS F elem32 rfl rfl rfl hp82 ex81) fun a F => ?_
 refine qbk [0,5000] F rfl ⟨fld48_0, rfl, plain26, trivial⟩ fun a F => ?_
 refine qv F rfl (fun u hu => y_b2s F Tryz.underlying26 Tryz.underlying9 Tryz.underlying5 rfl rfl (hu) 3 rfl) fun a F => ?_
 refine qb [0,0] F rfl fun a F => ?_
 refine qv F rfl (fun u hu => y_idxS F elem32 rfl rfl rfl hp82 ex88) fun a F => ?_
 refine qbk [0,2000] F rfl ⟨fld48_0, rfl, plain26, trivial⟩ fun a F => ?_
 refine qv F rfl (fun u hu => y_b2s F Tryz.underlying26 Tryz.underlying9 Tryz.underlying5 rfl rfl (hu) 0 rfl) fun a F => ?_
 refine qv F rfl (fun u hu => y_geqT (l := x81.1) (m := x88.1) F rfl rfl rfl) fun a F => ?_
 refine q_nil fun w H => ?_
 refine ct (cB F rfl (fun hg94 => ?_) (fun hg94 => ?_))
 replace hm := ifT hg94 hm
 refine sb [0] F H rfl fun a F => ?_
 refine nl (wr (br (tr (tr ?_)))); cases hm; refine ⟨_, rfl, ?_⟩; rintro rfl
 refine br (tr ?_)
 replace hm := elimR hm48
 refine tr ?_
 cases hm
 refine x_ret1 F rfl rfl ?_
 exact ⟨_, rfl, rfl, (H.pm 7 [] rfl:)⟩
 replace hm := ifF (nT hg94) hm
 refine sk (bn (ct (rl (bb [0,0,0] F H rfl fun a F => ?_))))
 refine lz (ct ?_); cases hm
 exact ⟨_, rfl, ⟨F.sl rfl, (H.pm 7 [6] rfl:)⟩⟩
 refine ex (cx (cx ?_)); cases hm; refine ⟨_, rfl, ?_⟩; rintro rfl
 refine ch (ct ?_)
 exact ⟨_, rfl, F.cut _ trivial, (H.pm 1 [] rfl:)⟩
 refine ct (sb [0] F H rfl fun a F => ?_)
 refine nl (wr ?_)
 cases hm
 refine x_ret1 F rfl rfl ?_
 exact ⟨_, rfl, rfl, H⟩
theorem w_m_shape_Mark {x0_ : List UInt8} {x1_ : Int} {p1 : Option Addr} {c1 : Nat} {w0 w : World} {l : List HP}  {r : Bool} (hm : m_shape_Mark x0_ x1_ = some r) (H : St w0 w (HP.sl rByte p1 c1 x0_ :: l)) :
  Calls Tryz.prog 54 [.slice p1 (x0_).length c1, .int .i64 (x1_)].toArray w (fun e w' => ∃ v, e = .returned v ∧ v = .bool (r) ∧ St w0 w' (l)) := by
 unfold m_shape_Mark at hm
 refine x_enter Tryz.func54 rfl rfl rfl ?_
 intro a F
 refine sb [0] F H rfl fun a F => ?_
 refine nl (sq (sb [0,0,0] F H rfl fun a F => ?_))
 rcases spP 10 F rfl hm with ⟨hg2, hm, F⟩ | ⟨hg2, hm, F⟩
 refine bb [0,0,0] F H rfl fun a F => ?_
 refine nl (cT F rfl ?_)
 refine sb [0] F H rfl fun a F => ?_
 refine nl (wr (tr ?_))
 cases hm
 refine x_ret1 F rfl rfl ?_
 exact ⟨_, rfl, rfl, (H.pm 1 [] rfl:)⟩
 refine bb [0,0,0] F H rfl fun a F => ?_
 refine nl (cPm F rfl hm (fun hg3 hm => ?_) (fun hg3 hm => ?_))
 refine sb [0] F H rfl fun a F => ?_
 refine nl (wr (tr ?_))
 cases hm
 refine x_ret1 F rfl rfl ?_
 exact ⟨_, rfl, rfl, (H.pm 1 [] rfl:)⟩
 refine sk (ct (sb [0] F H rfl fun a F => ?_))
 refine nl (sq (sr (bk [0,0,0] F H rfl ⟨⟨_, Tryz.underlying26⟩, trivial⟩ fun a F => ?_)))
 refine nl (xm0 1 [1] [] F H hm rfl rfl (fun r17 z => (5, .int .u32 (r17)) :: z) (fun r17 z => z) (fun r17 hm => ?_) (fun r17 a w hm F H => ?_))
 refine bl (xl0 1 [1,14,15] [0] F H hm rfl rfl (fun (s26 : Int × Int) z => (5, .int .u32 (s26.1)) :: (16, .int .i64 (s26.2)) :: z) (fun s26 z => z) ⟨F.sl rfl, H⟩ (fun s26 a w o F H hm => ?_))
 refine sb [0] F H rfl fun a F => ?_
 refine nl (sq (cPm F rfl hm (fun hg27 hm => ?_) (fun hg27 hm => ?_)))
 refine sk (ct (sq (bl (sr ?_))))
 obtain ⟨x28, ex28, hm⟩ := ob hm
 obtain ⟨b29, o29, hp29, cs30, H⟩ := H.slE 0 rfl ex28
 obtain rfl := H.rcB 1 rfl
 replace H := H.dp 1 rfl
 refine sv F rfl (y_idxS F elem26 rfl rfl rfl hp29 ex28) fun a F => ?_
 refine bk [0,0] F H rfl ⟨rfl, plain5, trivial⟩ fun a F => ?_
 refine nl (rl (bk [0,0,3,0,0,0] F H rfl ⟨Tryz.underlying5, Tryz.underlying93, trivial⟩ fun a F => ?_))
 refine lz (bn (ct (rl (bb [0,0] F H rfl fun a F => ?_))))
 refine lz (ct ?_); cases hm
 exact ⟨_, rfl, ⟨F.sl rfl, (H.pm 2 [1] rfl:)⟩⟩
 refine ex (cx (cx ?_)); cases hm; refine ⟨_, rfl, ?_⟩; rintro rfl
 refine ch (ct ?_)
 exact ⟨F.sl rfl, (H.pm 1 [] rfl:)⟩
 refine ct (sb [0,0,0] F H rfl fun a F => ?_)
 obtain ⟨x31, ex31, hm⟩ := ob hm
 refine sv F rfl (i_shrO F rfl rfl rfl ex31) fun a F => ?_
 refine bb [0,0,0] F H rfl fun a F => ?_
 refine nl (wr ?_)
 cases hm
 refine x_ret1 F rfl rfl ?_
 exact ⟨_, rfl, rfl, H⟩
theorem plain77 : Plain Tryz.prog 77 := by unfold Plain; rw [Tryz.underlying77]; rfl
theorem zero77 : Zero1 Tryz.prog 77 (.slice none 0 0) := ⟨by kernel_rfl, rfl⟩
theorem w_lvEnd {o : (List Int)} {c : Int} {s : Int} {bo0 : Nat} {bo1 : Nat} {bo2 : Nat} {w0 w : World} {l : List HP}  {r : (List Int) × Int × Int} (hm : lvEnd o c s = some r) (H : St w0 w (O_t77 bo0 o :: O_int bo1 c :: O_int bo2 s :: l)) :
  Calls Tryz.prog 53 [.pointer (some ⟨bo0, 0, none⟩), .pointer (some ⟨bo1, 0, none⟩), .pointer (some ⟨bo2, 0, none⟩)].toArray w (fun e w' => ∃ v, e = .returned v ∧ v = .tuple [].toArray ∧ St w0 w' (O_t77 bo0 r.1 :: O_int bo1 r.2.1 :: O_int bo2 r.2.2 :: l)) := by
 unfold lvEnd at hm
 refine x_enter Tryz.func53 rfl rfl rfl ?_
 intro a F
 refine sr ?_
 obtain ⟨p1, c2, H⟩ := O_t77_o (H.pk 0 rfl)
 refine bk [0] F H rfl ⟨rfl, plain77, trivial⟩ fun a F => ?_
 replace H := O_int_o (H.pk 2 rfl)
 refine bk [0] F H rfl ⟨rfl, plain3, trivial⟩ fun a F => ?_
 refine s_buildC wkP F rfl rfl rfl elem77 zero3 rfl rfl rfl rfl (by simp [Value.cells]) (by decide) H fun b3 w a H F => ?_
 replace H := H.blkOw1 (R := (rInt .i64)) (x := c) (fun gg => rfl)
 replace H := H.frz 0 rfl
 obtain ⟨x5, ex5, hm⟩ := ob hm
 refine s_app wkP F rfl rfl rfl rfl rfl rfl elem77 rfl ex5 H 3 0 rfl rfl fun p4 c4 w a H F => ?_
 refine s_st1 wkP F rfl rfl zero77 rfl rfl rfl rfl rfl H 2 rfl rfl fun w H => ?_
 replace H := H.nf 5 rfl
 refine nl (rl (s_st1 wkP F rfl rfl zero3 rfl rfl rfl rfl rfl H 1 rfl rfl fun w H => ?_))
 replace H := O_int_o (H.pk 4 rfl)
 refine s_st1 wkP F rfl rfl zero3 rfl rfl rfl rfl rfl H 0 rfl rfl fun w H => ?_
 replace H := H.nf 5 rfl
 refine lz ?_
 replace H := O_t77_s (H.pm 5 [3,4,0,1,2] rfl:)
 replace H := O_int_s (H.pm 4 [3,0,1,2] rfl:)
 replace H := O_int_s (H.pm 4 [2,0,1,3] rfl:)
 cases hm
 refine x_end0 F rfl ?_
 exact ⟨_, rfl, rfl, (H.pm 4 [2,1,0] rfl:)⟩
theorem ent53 : En Tryz.prog 53 := enters Tryz.func53 (by kernel_rfl) rfl
theorem ent54 : En Tryz.prog 54 := enters Tryz.func54 (by kernel_rfl) rfl
theorem w_m_shape_Leaves {x0_ : List T_api_Pair} {p1 : Option Addr} {c1 : Nat} {w0 w : World} {l : List HP}  {r : (List Int)} (hm : m_shape_Leaves x0_ = some r) (H : St w0 w (HP.sl R_api_Pair p1 c1 x0_ :: l)) :
  Calls Tryz.prog 37 [.slice p1 (x0_).length c1].toArray w (fun e w' => ∃ v, e = .returned v ∧ ∃ (p2 : Option Addr) (c2 : Nat), v = .slice p2 (r).length c2 ∧ St w0 w' (HP.sl (rInt .i64) p2 c2 r :: l)) := by
 unfold m_shape_Leaves at hm
 refine x_enter Tryz.func37 rfl rfl rfl ?_
 intro a F
 refine sr ?_
 replace H := H.owNil (rInt .i64) 3
 refine s_alloc1 wkP F rfl rfl rfl zero77 rfl H fun b3 w a H F => ?_
 replace H := H.nf 3 rfl
 refine nl (sr (s_alloc1 wkP F rfl rfl rfl zero3 rfl H fun b4 w a H F => ?_))
 refine s_alloc1 wkP F rfl rfl rfl zero3 rfl H fun b5 w a H F => ?_
 refine s_st1 wkP F rfl rfl zero3 rfl rfl rfl rfl rfl H 1 rfl rfl fun w H => ?_
 refine s_st1 wkP F rfl rfl zero3 rfl rfl rfl rfl rfl H 0 rfl rfl fun w H => ?_
 replace H := H.nf 5 rfl
 refine nl (sr (sv F rfl (y_makeFunc F rfl rfl) fun a F => ?_))
 refine bb [0] F H rfl fun a F => ?_
 refine nl (sq (sr (bk [0,0,0] F H rfl ⟨⟨_, Tryz.underlying32⟩, trivial⟩ fun a F => ?_)))
 refine nl (xm2 5 [2,3,5] [] F H hm rfl rfl (fun r265 (p266 : Option Addr) (c266 : Nat) z => z) (fun r265 p266 c266 z => HP.blk b5 ([.int .i64 (r265.1)]) 3 :: HP.blk b4 ([.int .i64 (r265.2.1)]) 3 :: HP.blk b3 ([.slice p266 (r265.2.2).length c266]) 77 :: HP.ow (rInt .i64) 3 p266 c266 r265.2.2 :: z) (fun r265 hm => ?_) (fun r265 a w hm p266 c266 F H => ?_))
 refine bl ?_
 refine xl2 5 [2,3,4,5,10,11] [4] F H hm rfl rfl (fun (s439 : Int × Int × (List Int) × Int) (p440 : Option Addr) (c440 : Nat) z => (12, .int .i64 (s439.2.2.2)) :: z) (fun s439 p440 c440 z => HP.blk b5 ([.int .i64 (s439.1)]) 3 :: HP.blk b4 ([.int .i64 (s439.2.1)]) 3 :: HP.blk b3 ([.slice p440 (s439.2.2.1).length c440]) 77 :: HP.ow (rInt .i64) 3 p440 c440 s439.2.2.1 :: z) ⟨none, 0, F.sl rfl, H⟩ (fun s439 a w o p440 c440 F H hm => ?_)
 refine sb [0] F H rfl fun a F => ?_
 refine nl (sq (cPm F rfl hm (fun hg441 hm => ?_) (fun hg441 hm => ?_)))
 refine sk (ct (sq (xm2 5 [2,3,4,5,10,11,12] [4] F H hm rfl rfl (fun r483 (p484 : Option Addr) (c484 : Nat) z => z) (fun r483 p484 c484 z => HP.blk b5 ([.int .i64 (r483.1)]) 3 :: HP.blk b4 ([.int .i64 (r483.2.1)]) 3 :: HP.blk b3 ([.slice p484 (r483.2.2).length c484]) 77 :: HP.ow (rInt .i64) 3 p484 c484 r483.2.2 :: z) (fun r483 hm => ?_) (fun r483 a w hm p484 c484 F H => ?_))))
 refine bl (sr ?_)
 obtain ⟨x485, ex485, hm⟩ := ob hm
 obtain ⟨b486, o486, hp486, cs487, H⟩ := H.slE 4 rfl ex485
 refine sv F rfl (y_idxS F elem32 rfl rfl rfl hp486 ex485) fun a F => ?_
 refine bk [999] F H rfl ⟨rfl, (aggn agg48 (H.rcLen 1 rfl)), trivial⟩ fun a F => ?_
 replace H := H.owNil rByte 5
 replace H := H.owNil rByte 5
 refine s_allocA wkP F rfl rfl rfl agz48 rfl H fun b488 w a H F => ?_
 refine s_storeA wkP F rfl rfl agg48 rfl rfl rfl H 0 rfl (H.rcLen 4 rfl) rfl (H.rcFlat 4 rfl) fun w H => ?_
 replace H := H.nf 10 rfl
 refine nl (sr (bk [0] F H rfl ⟨fld48_0, trivial⟩ fun a F => ?_))
 have G := F; replace H := rc_api_Pair (H.pk 4 rfl); obtain ⟨p489, c490, p491, c492, rfl, J⟩ := H; have H := J; have F := G; clear G J
 refine bk [2000,0,0,1,2001,0,0,0] F H rfl ⟨rfl, plain26, ⟨_, Tryz.underlying26⟩, fld48_1, rfl, plain26, ⟨_, Tryz.underlying26⟩, trivial⟩ fun a F => ?_
 refine nl (sq (sr (bk [7000,0,0] F H rfl ⟨rfl, plain3, trivial⟩ fun a F => ?_)))
 rcases spP 26 F rfl hm with ⟨hg493, hm, F⟩ | ⟨hg493, hm, F⟩
 refine bk [6000,0,0,0,0] F H rfl ⟨rfl, plain3, trivial⟩ fun a F => ?_
 refine nl (xm2 11 [2,3,4,5,7,8,10,11,12] [0,1,2,3,4,5,10] F H hm rfl rfl (fun r498 (p499 : Option Addr) (c499 : Nat) z => z) (fun r498 p499 c499 z => HP.blk b5 ([.int .i64 (r498.1)]) 3 :: HP.blk b4 ([.int .i64 (r498.2.1)]) 3 :: HP.blk b3 ([.slice p499 (r498.2.2).length c499]) 77 :: HP.ow (rInt .i64) 3 p499 c499 r498.2.2 :: z) (fun r498 hm => ?_) (fun r498 a w hm p499 c499 F H => ?_))
 refine cPm F rfl hm (fun hg500 hm => ?_) (fun hg500 hm => ?_)
 refine rl (bb [0] F H rfl fun a F => ?_)
 replace H := O_t77_s (H.pm 11 [8,9,0,1,2,3,4,5,6,7,10] rfl:)
 replace H := O_int_s (H.pm 10 [8,0,1,2,3,4,5,6,7,9] rfl:)
 replace H := O_int_s (H.pm 10 [8,0,1,2,3,4,5,6,7,9] rfl:)
 obtain ⟨x501, ex501, hm⟩ := ob hm
 refine s_call wkP F rfl rfl rfl rfl (y_callV F rfl rfl rfl ent53) (w_lvEnd ex501 (H.pm 10 [2,1,0,3,4,5,6,7,8,9] rfl:):) ?_; rintro _ w a ⟨rfl, H⟩ F
 replace H := H.nf 10 rfl
 refine lz ?_
 obtain ⟨p502, c503, H⟩ := O_t77_o (H.pk 0 rfl)
 replace H := O_int_o (H.pk 2 rfl)
 replace H := O_int_o (H.pk 3 rfl)
 cases hm
 refine ct ?_
 exact ⟨p502, c503, F.sl rfl, H⟩
 refine sk ?_
 cases hm
 refine ct ?_
 exact ⟨p440, c440, F.sl rfl, (H.pm 11 [6,7,8,9,0,1,2,3,4,5,10] rfl:)⟩
 refine ct (sr (bk [1000,0] F H rfl ⟨rfl, plain3, trivial⟩ fun a F => ?_))
 refine s_st1 wkP F rfl rfl zero3 rfl rfl rfl rfl rfl H 1 rfl rfl fun w H => ?_
 replace H := H.nf 11 rfl
 refine nl (sr (bk [0,0,0] F H rfl ⟨rfl, plain3, trivial⟩ fun a F => ?_))
 refine s_st1 wkP F rfl rfl zero3 rfl rfl rfl rfl rfl H 0 rfl rfl fun w H => ?_
 replace H := H.nf 11 rfl
 refine nl (sr (bk [0,6000] F H rfl ⟨fld48_0, rfl, plain26, trivial⟩ fun a F => ?_))
 obtain ⟨x504, ex504, hm⟩ := ob hm
 refine sd F rfl ent54 (w_m_shape_Mark ex504 (H.pm 11 [4,0,1,2,3,4,5,6,7,8,9,10] rfl:):) ?_; rintro _ w a ⟨rfl, H⟩ F
 replace H := H.nf 11 rfl
 refine nl (xm2 11 [2,3,4,5,10,11,12] [4,5,6,7,8,9,10] F H hm rfl rfl (fun r509 (p510 : Option Addr) (c510 : Nat) z => z) (fun r509 p510 c510 z => HP.blk b5 ([.int .i64 (r509.1)]) 3 :: HP.blk b4 ([.int .i64 (r509.2.1)]) 3 :: HP.blk b3 ([.slice p510 (r509.2.2).length c510]) 77 :: HP.ow (rInt .i64) 3 p510 c510 r509.2.2 :: z) (fun r509 hm => ?_) (fun r509 a w hm p510 c510 F H => ?_))
 refine cB F rfl (fun hg511 => ?_) (fun hg511 => ?_)
 replace hm := ifT hg511 hm
 refine rl (bb [0] F H rfl fun a F => ?_)
 replace H := O_t77_s (H.pm 11 [2,3,0,1,4,5,6,7,8,9,10] rfl:)
 replace H := O_int_s (H.pm 10 [2,0,1,3,4,5,6,7,8,9] rfl:)
 replace H := O_int_s (H.pm 10 [2,0,1,3,4,5,6,7,8,9] rfl:)
 obtain ⟨x512, ex512, hm⟩ := ob hm
 refine s_call wkP F rfl rfl rfl rfl (y_callV F rfl rfl rfl ent53) (w_lvEnd ex512 (H.pm 10 [2,1,0,3,4,5,6,7,8,9] rfl:):) ?_; rintro _ w a ⟨rfl, H⟩ F
 replace H := H.nf 10 rfl
 refine lz ?_
 obtain ⟨p513, c514, H⟩ := O_t77_o (H.pk 0 rfl)
 replace H := O_int_o (H.pk 2 rfl)
 replace H := O_int_o (H.pk 3 rfl)
 cases hm
 refine ct ?_
 exact ⟨p513, c514, F.sl rfl, H⟩
 replace hm := ifF (nT hg511) hm
 refine sk ?_
 cases hm
 refine ct ?_
 exact ⟨p499, c499, F.sl rfl, H⟩
 refine bn ?_
 cases hm
 refine ct ?_
 exact ⟨p510, c510, F.sl rfl, (H.pm 11 [0,1,2,3,10] rfl:)⟩
 refine bb (List.replicate 5 0) F H rfl fun a F => ?_
 refine nl (cF F rfl ?_)
 refine sk (ct (sr (bk [7000,0] F H rfl ⟨rfl, plain3, trivial⟩ fun a F => ?_)))
 refine s_st1 wkP F rfl rfl zero3 rfl rfl rfl rfl rfl H 7 rfl rfl fun w H => ?_
 replace H := H.nf 11 rfl
 refine nl (sr (bk [6000,0,0] F H rfl ⟨rfl, plain3, trivial⟩ fun a F => ?_))
 refine s_st1 wkP F rfl rfl zero3 rfl rfl rfl rfl rfl H 6 rfl rfl fun w H => ?_
 replace H := H.nf 11 rfl
 refine nl (sr (bk [0,2000] F H rfl ⟨fld48_0, rfl, plain26, trivial⟩ fun a F => ?_))
 obtain ⟨x515, ex515, hm⟩ := ob hm
 refine sd F rfl ent54 (w_m_shape_Mark ex515 (H.pm 11 [0,0,1,2,3,4,5,6,7,8,9,10] rfl:):) ?_; rintro _ w a ⟨rfl, H⟩ F
 replace H := H.nf 11 rfl
 refine nl (xm2 11 [2,3,4,5,10,11,12] [0,1,2,3,4,5,10] F H hm rfl rfl (fun r520 (p521 : Option Addr) (c521 : Nat) z => z) (fun r520 p521 c521 z => HP.blk b5 ([.int .i64 (r520.1)]) 3 :: HP.blk b4 ([.int .i64 (r520.2.1)]) 3 :: HP.blk b3 ([.slice p521 (r520.2.2).length c521]) 77 :: HP.ow (rInt .i64) 3 p521 c521 r520.2.2 :: z) (fun r520 hm => ?_) (fun r520 a w hm p521 c521 F H => ?_))
 refine cB F rfl (fun hg522 => ?_) (fun hg522 => ?_)
 replace hm := ifT hg522 hm
 refine rl (bb [0] F H rfl fun a F => ?_)
 replace H := O_t77_s (H.pm 11 [8,9,0,1,2,3,4,5,6,7,10] rfl:)
 replace H := O_int_s (H.pm 10 [8,0,1,2,3,4,5,6,7,9] rfl:)
 replace H := O_int_s (H.pm 10 [8,0,1,2,3,4,5,6,7,9] rfl:)
 obtain ⟨x523, ex523, hm⟩ := ob hm
 refine s_call wkP F rfl rfl rfl rfl (y_callV F rfl rfl rfl ent53) (w_lvEnd ex523 (H.pm 10 [2,1,0,3,4,5,6,7,8,9] rfl:):) ?_; rintro _ w a ⟨rfl, H⟩ F
 replace H := H.nf 10 rfl
 refine lz ?_
 obtain ⟨p524, c525, H⟩ := O_t77_o (H.pk 0 rfl)
 replace H := O_int_o (H.pk 2 rfl)
 replace H := O_int_o (H.pk 3 rfl)
 cases hm
 refine ct ?_
 exact ⟨p524, c525, F.sl rfl, H⟩
 replace hm := ifF (nT hg522) hm
 refine sk ?_
 cases hm
 refine ct ?_
 exact ⟨p440, c440, F.sl rfl, (H.pm 11 [6,7,8,9,0,1,2,3,4,5,10] rfl:)⟩
 refine bn ?_
 cases hm
 refine ct ?_
 exact ⟨p521, c521, F.sl rfl, (H.pm 11 [0,1,2,3,10] rfl:)⟩
 refine ct (rl (bb [0,0] F H rfl fun a F => ?_))
 refine lz (ct ?_); cases hm
 exact ⟨_, rfl, ⟨p484, c484, F.sl rfl, H⟩⟩
 refine ex (cx (cx ?_)); cases hm; refine ⟨_, rfl, ?_⟩; rintro rfl
 refine ch (ct ?_)
 exact ⟨p440, c440, F.sl rfl, (H.pm 5 [0,1,2,3] rfl:)⟩
 refine ct (sq (sr (bk [1000,0,0] F H rfl ⟨rfl, plain3, trivial⟩ fun a F => ?_)))
 rcases spP 47 F rfl hm with ⟨hg526, hm, F⟩ | ⟨hg526, hm, F⟩
 refine bb [0,0,0,0] F H rfl fun a F => ?_
 refine nl (cT F rfl ?_)
 refine rl (bb [0] F H rfl fun a F => ?_)
 replace H := O_t77_s (H.pm 4 [2,3,0,1] rfl:)
 replace H := O_int_s (H.pm 3 [2,0,1] rfl:)
 replace H := O_int_s (H.pm 3 [2,0,1] rfl:)
 obtain ⟨x527, ex527, hm⟩ := ob hm
 refine s_call wkP F rfl rfl rfl rfl (y_callV F rfl rfl rfl ent53) (w_lvEnd ex527 (H.pm 3 [2,1,0] rfl:):) ?_; rintro _ w a ⟨rfl, H⟩ F
 replace H := H.nf 3 rfl
 refine nl (sr ?_)
 obtain ⟨p528, c529, H⟩ := O_t77_o (H.pk 0 rfl)
 refine bk [0] F H rfl ⟨rfl, plain77, trivial⟩ fun a F => ?_
 refine s_st1 wkP F rfl rfl zero77 rfl rfl rfl rfl rfl H 0 rfl rfl fun w H => ?_
 replace H := H.nf 4 rfl
 refine nl (wr ?_)
 replace H := H.frz 1 rfl
 cases hm
 refine x_resC1 F rfl (⟨_, rfl, ld1 plain77 ((H.blk 1 rfl).cell _)⟩) ?_
 exact ⟨_, rfl, p528, c529, rfl, (H.pm 4 [0] rfl:)⟩
 refine bk [2000,0,0,0] F H rfl ⟨rfl, plain77, ⟨_, Tryz.underlying77⟩, trivial⟩ fun a F => ?_
 refine nl (xm2 4 [2] [] F H hm rfl rfl (fun r534 (p535 : Option Addr) (c535 : Nat) z => z) (fun r534 p535 c535 z => HP.blk b5 ([.int .i64 (r534.1)]) 3 :: HP.blk b4 ([.int .i64 (r534.2.1)]) 3 :: HP.blk b3 ([.slice p535 (r534.2.2).length c535]) 77 :: HP.ow (rInt .i64) 3 p535 c535 r534.2.2 :: z) (fun r534 hm => ?_) (fun r534 a w hm p535 c535 F H => ?_))
 refine cPm F rfl hm (fun hg536 hm => ?_) (fun hg536 hm => ?_)
 refine rl (bb [0] F H rfl fun a F => ?_)
 replace H := O_t77_s (H.pm 4 [2,3,0,1] rfl:)
 replace H := O_int_s (H.pm 3 [2,0,1] rfl:)
 replace H := O_int_s (H.pm 3 [2,0,1] rfl:)
 obtain ⟨x537, ex537, hm⟩ := ob hm
 refine s_call wkP F rfl rfl rfl rfl (y_callV F rfl rfl rfl ent53) (w_lvEnd ex537 (H.pm 3 [2,1,0] rfl:):) ?_; rintro _ w a ⟨rfl, H⟩ F
 replace H := H.nf 3 rfl
 refine lz ?_
 obtain ⟨p538, c539, H⟩ := O_t77_o (H.pk 0 rfl)
 replace H := O_int_o (H.pk 2 rfl)
 replace H := O_int_o (H.pk 3 rfl)
 cases hm
 refine ct ?_
 exact ⟨p538, c539, F.sl rfl, H⟩
 refine sk ?_
 cases hm
 refine ct ?_
 exact ⟨p266, c266, F.sl rfl, H⟩
 refine ct (sr (bk [2000] F H rfl ⟨rfl, plain77, trivial⟩ fun a F => ?_))
 refine s_st1 wkP F rfl rfl zero77 rfl rfl rfl rfl rfl H 2 rfl rfl fun w H => ?_
 replace H := H.nf 4 rfl
 refine nl (wr ?_)
 replace H := H.frz 3 rfl
 cases hm
 refine x_resC1 F rfl (⟨_, rfl, ld1 plain77 ((H.blk 3 rfl).cell _)⟩) ?_
 exact ⟨_, rfl, p535, c535, rfl, (H.pm 4 [0] rfl:)⟩
theorem w_m_shape_Inner {x0_ : List (List UInt8)} {x1_ : Int} {p1 : Option Addr} {c1 : Nat} {w0 w : World} {l : List HP}  {r : (List Int)} (hm : m_shape_Inner x0_ x1_ = some r) (H : St w0 w (HP.sl (rSl rByte) p1 c1 x0_ :: l)) :
  Calls Tryz.prog 40 [.slice p1 (x0_).length c1, .int .i64 (x1_)].toArray w (fun e w' => ∃ v, e = .returned v ∧ ∃ (p2 : Option Addr) (c2 : Nat), v = .slice p2 (r).length c2 ∧ St w0 w' (HP.sl (rInt .i64) p2 c2 r :: l)) := by
 unfold m_shape_Inner at hm
 refine x_enter Tryz.func40 rfl rfl rfl ?_
 intro a F
 refine sb [0] F H rfl fun a F => ?_
 refine nb [0] F H rfl fun a F => ?_
 refine nl (sq (sr (bk [0,0,0] F H rfl ⟨⟨_, Tryz.underlying49⟩, trivial⟩ fun a F => ?_)))
 refine nl (xm2 1 [] [] F H hm rfl rfl (fun r136 (p137 : Option Addr) (c137 : Nat) z => (4, .slice p137 (r136.1).length c137) :: (5, .int .i64 (r136.2)) :: z) (fun r136 p137 c137 z => HP.ow (rInt .i64) 3 p137 c137 r136.1 :: z) (fun r136 hm => ?_) (fun r136 a w hm p137 c137 F H => ?_))
 refine bl ?_
 replace H := H.owNil (rInt .i64) 3
 refine xl2 2 [1,8,9] [1] F H hm rfl rfl (fun (s226 : (List Int) × Int × Int) (p227 : Option Addr) (c227 : Nat) z => (4, .slice p227 (s226.1).length c227) :: (5, .int .i64 (s226.2.1)) :: (10, .int .i64 (s226.2.2)) :: z) (fun s226 p227 c227 z => HP.ow (rInt .i64) 3 p227 c227 s226.1 :: z) ⟨none, 0, F.sl rfl, H⟩ (fun s226 a w o p227 c227 F H hm => ?_)
 refine sb [0] F H rfl fun a F => ?_
 refine nl (sq (cPm F rfl hm (fun hg228 hm => ?_) (fun hg228 hm => ?_)))
 refine sk (ct (sq (xm2 2 [1,8,9,10] [1] F H hm rfl rfl (fun r249 (p250 : Option Addr) (c250 : Nat) z => (4, .slice p250 (r249.1).length c250) :: (5, .int .i64 (r249.2)) :: z) (fun r249 p250 c250 z => HP.ow (rInt .i64) 3 p250 c250 r249.1 :: z) (fun r249 hm => ?_) (fun r249 a w hm p250 c250 F H => ?_))))
 refine bl (sr ?_)
 obtain ⟨x251, ex251, hm⟩ := ob hm
 obtain ⟨b252, o252, hp252, cs253, H⟩ := H.slE 1 rfl ex251
 have G := F; obtain ⟨p254, c254, rfl, H⟩ := H.rcSl 1 rfl; have F := G; clear G
 replace H := H.dp 2 rfl
 refine sv F rfl (y_idxS F elem49 rfl rfl rfl hp252 ex251) fun a F => ?_
 refine bk [1000,0] F H rfl ⟨rfl, plain26, trivial⟩ fun a F => ?_
 refine nb [0,0,0] F H rfl fun a F => ?_
 refine nb [0,0,0] F H rfl fun a F => ?_
 rcases spP 18 F rfl hm with ⟨hg255, hm, F⟩ | ⟨hg255, hm, F⟩
 refine bb (List.replicate 8 0) F H rfl fun a F => ?_
 refine nl (cT F rfl ?_)
 refine sb [0,0] F H rfl fun a F => ?_
 refine s_buildC wkP F rfl rfl rfl elem77 zero3 rfl rfl rfl rfl (by simp [Value.cells]) (by decide) H fun b256 w a H F => ?_
 replace H := H.blkOw1 (R := (rInt .i64)) (x := IntKind.i64.wrap (s226.2.1 + 1)) (fun gg => rfl)
 replace H := H.frz 0 rfl
 obtain ⟨x258, ex258, hm⟩ := ob hm
 refine s_app wkP F rfl rfl rfl rfl rfl rfl elem77 rfl ex258 H 3 0 rfl rfl fun p257 c257 w a H F => ?_
 refine bb [0] F H rfl fun a F => ?_
 replace H := H.nf 5 rfl
 refine nl (rl (bb [0] F H rfl fun a F => ?_))
 refine lz (bn ?_)
 cases hm
 refine ct ?_
 exact ⟨p257, c257, F.sl rfl, (H.pm 5 [3,4] rfl:)⟩
 refine bb [0,0,0] F H rfl fun a F => ?_
 rcases spP 21 F rfl hm with ⟨hg259, hm, F⟩ | ⟨hg259, hm, F⟩
 refine bb [0,0] F H rfl fun a F => ?_
 refine g_onP F rfl rfl rfl rfl ?_
 obtain ⟨x260, ex260, hm⟩ := ob hm
 refine sd F rfl ent54 (w_m_shape_Mark ex260 (H.pm 4 [0,0,1,2,3] rfl:):) ?_; rintro _ w a ⟨rfl, H⟩ F
 refine bb [0,0] F H rfl fun a F => ?_
 replace H := H.nf 4 rfl
 refine nl (xm2 4 [1,8,9,10] [1,3] F H hm rfl rfl (fun r265 (p266 : Option Addr) (c266 : Nat) z => (4, .slice p266 (r265.1).length c266) :: (5, .int .i64 (r265.2)) :: z) (fun r265 p266 c266 z => HP.ow (rInt .i64) 3 p266 c266 r265.1 :: z) (fun r265 hm => ?_) (fun r265 a w hm p266 c266 F H => ?_))
 refine cB F rfl (fun hg267 => ?_) (fun hg267 => ?_)
 replace hm := ifT hg267 hm
 refine sb [0,0] F H rfl fun a F => ?_
 refine s_buildC wkP F rfl rfl rfl elem77 zero3 rfl rfl rfl rfl (by simp [Value.cells]) (by decide) H fun b268 w a H F => ?_
 replace H := H.blkOw1 (R := (rInt .i64)) (x := IntKind.i64.wrap (s226.2.1 + 1)) (fun gg => rfl)
 replace H := H.frz 0 rfl
 obtain ⟨x270, ex270, hm⟩ := ob hm
 refine s_app wkP F rfl rfl rfl rfl rfl rfl elem77 rfl ex270 H 3 0 rfl rfl fun p269 c269 w a H F => ?_
 refine bb [0] F H rfl fun a F => ?_
 replace H := H.nf 5 rfl
 refine nl (rl (bb [0] F H rfl fun a F => ?_))
 refine lz ?_
 cases hm
 refine ct ?_
 exact ⟨p269, c269, F.sl rfl, (H.pm 5 [3,2,4] rfl:)⟩
 replace hm := ifF (nT hg267) hm
 refine sk ?_
 cases hm
 refine ct ?_
 exact ⟨p227, c227, F.sl rfl, (H.pm 4 [2,1,3] rfl:)⟩
 refine bn ?_
 cases hm
 refine ct ?_
 exact ⟨p266, c266, F.sl rfl, (H.pm 3 [0,2] rfl:)⟩
 refine bb (List.replicate 5 0) F H rfl fun a F => ?_
 refine nl (cF F rfl ?_)
 refine sk (bn ?_)
 cases hm
 refine ct ?_
 exact ⟨p227, c227, F.sl rfl, (H.pm 4 [2,3] rfl:)⟩
 refine ct (rl (bb [0,0] F H rfl fun a F => ?_))
 refine lz (ct ?_); cases hm
 exact ⟨_, rfl, ⟨p250, c250, F.sl rfl, H⟩⟩
 refine ex (cx (cx ?_)); cases hm; refine ⟨_, rfl, ?_⟩; rintro rfl
 refine ch (ct ?_)
 exact ⟨p227, c227, F.sl rfl, (H.pm 2 [0] rfl:)⟩
 refine ct (sq (sb [0,0] F H rfl fun a F => ?_))
 refine nl (xm2 1 [] [] F H hm rfl rfl (fun r275 (p276 : Option Addr) (c276 : Nat) z => (4, .slice p276 (r275).length c276) :: z) (fun r275 p276 c276 z => HP.ow (rInt .i64) 3 p276 c276 r275 :: z) (fun r275 hm => ?_) (fun r275 a w hm p276 c276 F H => ?_))
 refine cPm F rfl hm (fun hg277 hm => ?_) (fun hg277 hm => ?_)
 refine rl (bb [0,0] F H rfl fun a F => ?_)
 refine s_buildC wkP F rfl rfl rfl elem77 zero3 rfl rfl rfl rfl (by simp [Value.cells]) (by decide) H fun b278 w a H F => ?_
 replace H := H.blkOw1 (R := (rInt .i64)) (x := r136.2) (fun gg => rfl)
 replace H := H.frz 0 rfl
 obtain ⟨x280, ex280, hm⟩ := ob hm
 refine s_app wkP F rfl rfl rfl rfl rfl rfl elem77 rfl ex280 H 1 0 rfl rfl fun p279 c279 w a H F => ?_
 refine bb [0] F H rfl fun a F => ?_
 replace H := H.nf 2 rfl
 refine lz ?_
 cases hm
 refine ct ?_
 exact ⟨p279, c279, F.sl rfl, (H.pm 2 [1] rfl:)⟩
 refine sk ?_
 cases hm
 refine ct ?_
 exact ⟨p137, c137, F.sl rfl, H⟩
 refine ct (sb [0,0] F H rfl fun a F => ?_)
 refine nl (wr ?_)
 replace H := H.frz 0 rfl
 cases hm
 refine x_ret1 F rfl rfl ?_
 exact ⟨_, rfl, p276, c276, rfl, H⟩
end Go.Proofs.YtnjemlkcamdbfaaGreatDoor
