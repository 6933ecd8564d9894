/- laws -/
import Derived.Test.YtnagibpmfabkjaaGreatDoorSnB
set_option linter.unusedSimpArgs false
set_option linter.unusedVariables false
namespace Go.Proofs.YtnagibpmfabkjaaGreatDoor
open Go.RowKit Go.Tri
set_option maxRecDepth 100000
set_option maxHeartbeats 4000000
theorem w_rSamePairs {a_ : List T_api_Pair} {b_ : List T_api_Pair} {p1 : Option Addr} {c1 : Nat} {p2 : Option Addr} {c2 : Nat} {w0 w : World} {l : List HP}  {r : Bool} (hm : rSamePairs a_ b_ = some r) (H : St w0 w (HP.sl R_api_Pair p1 c1 a_ :: HP.sl R_api_Pair p2 c2 b_ :: l)) :
  Calls Tryz.prog 17 [.slice p1 (a_).length c1, .slice p2 (b_).length c2].toArray w (fun e w' => ∃ v, e = .returned v ∧ v = .bool (r) ∧ St w0 w' (l)) := by
 unfold rSamePairs at hm
 refine x_enter Tryz.func17 rfl rfl rfl ?_
 intro a F
 refine sb [0] F H rfl fun a F => ?_
 refine nl (sq (sr (bk (List.replicate 5 0) F H rfl ⟨⟨_, Tryz.underlying24⟩, ⟨_, Tryz.underlying24⟩, trivial⟩ fun a F => ?_)))
 refine nl (cNm F rfl hm (fun hg3 hm => ?_) (fun hg3 hm => ?_))
 refine sb [0] F H rfl fun a F => ?_
 refine nl (wr (tr ?_))
 cases hm
 refine x_ret1 F rfl rfl ?_
 exact ⟨_, rfl, rfl, (H.pm 2 [] rfl:)⟩
 refine sk (ct (sq (sb [0] F H rfl fun a F => ?_)))
 refine nl (xr0 2 [] [] F H hm rfl rfl (fun r92 z => z) (fun r92 z => z) (fun o92 hm hm92 => ?_) (fun r92 a w hm F H => ?_))
 refine bl (xl0 2 [0,1] [0,1] F H hm rfl rfl (fun (s151 : Int) z => (5, .int .i64 (s151)) :: z) (fun s151 z => z) ⟨F.sl rfl, H⟩ (fun s151 a w o F H hm => ?_))
 refine sq (sr (bk [0,0,0,0] F H rfl ⟨⟨_, Tryz.underlying24⟩, trivial⟩ fun a F => ?_))
 refine nl (cPm F rfl hm (fun hg152 hm => ?_) (fun hg152 hm => ?_))
 refine sk (ct (sq (bl (sq ?_))))
 obtain ⟨x153, ex153, hm⟩ := ob hm
 obtain ⟨b154, o154, hp154⟩ := H.slP 0 rfl (idxO_some ex153).2
 obtain ⟨cs155, hcl155, H⟩ := H.slEl 0 rfl hp154 (idxO_some ex153).2
 clear hcl155
 have G := F; replace H := rc_api_Pair (H.pk 1 rfl); obtain ⟨p156, c157, p158, c159, rfl, H⟩ := H; have F := G; clear G
 obtain ⟨x160, ex160, hm⟩ := ob hm
 obtain ⟨b161, o161, hp161⟩ := H.slP 4 rfl (idxO_some ex160).2
 obtain ⟨cs162, hcl162, H⟩ := H.slEl 4 rfl hp161 (idxO_some ex160).2
 clear hcl162
 have G := F; replace H := rc_api_Pair (H.pk 1 rfl); obtain ⟨p163, c164, p165, c166, rfl, H⟩ := H; have F := G; clear G
 by_cases hg167 : x153.1 = x160.1
 replace hm := ifT hg167 hm
 obtain ⟨x168, ex168, hm⟩ := ob hm
 obtain ⟨cs169, hcl169, H⟩ := H.slEl 6 rfl hp154 (idxO_some ex168).2
 clear hcl169
 have G := F; replace H := rc_api_Pair (H.pk 1 rfl); obtain ⟨p170, c171, p172, c173, rfl, H⟩ := H; have F := G; clear G
 obtain ⟨x174, ex174, hm⟩ := ob hm
 obtain ⟨cs175, hcl175, H⟩ := H.slEl 10 rfl hp161 (idxO_some ex174).2
 clear hcl175
 have G := F; replace H := rc_api_Pair (H.pk 1 rfl); obtain ⟨p176, c177, p178, c179, rfl, H⟩ := H; have F := G; clear G
 refine qr H (by kernel_rfl) (by kernel_rfl) ?_
 refine qb [0,0] F rfl fun a F => ?_
 refine qv F rfl (fun u hu => y_idxS F elem24 rfl rfl rfl hp154 ex153) fun a F => ?_
 refine qbk [0,11000] F rfl ⟨fld103_0, rfl, plain29, trivial⟩ fun a F => ?_
 refine qv F rfl (fun u hu => y_b2s F Tryz.underlying29 Tryz.underlying9 Tryz.underlying5 rfl rfl (hu) 9 rfl) fun a F => ?_
 refine qb [0,0] F rfl fun a F => ?_
 refine qv F rfl (fun u hu => y_idxS F elem24 rfl rfl rfl hp161 ex160) fun a F => ?_
 refine qbk [0,8000] F rfl ⟨fld103_0, rfl, plain29, trivial⟩ fun a F => ?_
 refine qv F rfl (fun u hu => y_b2s F Tryz.underlying29 Tryz.underlying9 Tryz.underlying5 rfl rfl (hu) 6 rfl) fun a F => ?_
 refine qv F rfl (fun u hu => y_neT (l := x153.1) (m := x160.1) F rfl rfl rfl) fun a F => ?_
 refine qb [0] F rfl fun a F => ?_
 replace F := F.nT 30 hg167 rfl
 refine qb [0,0] F rfl fun a F => ?_
 refine qg_on F rfl rfl rfl rfl ?_
 refine qv F rfl (fun u hu => y_idxS F elem24 rfl rfl rfl hp154 ex168) fun a F => ?_
 refine qbk [1,5001] F rfl ⟨fld103_1, rfl, plain29, trivial⟩ fun a F => ?_
 refine qg_on F rfl rfl rfl rfl ?_
 refine qv F rfl (fun u hu => y_b2s F Tryz.underlying29 Tryz.underlying9 Tryz.underlying5 rfl rfl (hu) 4 rfl) fun a F => ?_
 refine qb [0,0] F rfl fun a F => ?_
 refine qg_on F rfl rfl rfl rfl ?_
 refine qv F rfl (fun u hu => y_idxS F elem24 rfl rfl rfl hp161 ex174) fun a F => ?_
 refine qbk [1,2001] F rfl ⟨fld103_1, rfl, plain29, trivial⟩ fun a F => ?_
 refine qg_on F rfl rfl rfl rfl ?_
 refine qv F rfl (fun u hu => y_b2s F Tryz.underlying29 Tryz.underlying9 Tryz.underlying5 rfl rfl (hu) 1 rfl) fun a F => ?_
 refine qg_on F rfl rfl rfl rfl ?_
 refine qv F rfl (fun u hu => y_neT (l := x168.2) (m := x174.2) F rfl rfl rfl) fun a F => ?_
 refine qb [0] F rfl fun a F => ?_
 refine q_nil fun w H => ?_
 refine ct (cNm F rfl hm (fun hg180 hm => ?_) (fun hg180 hm => ?_))
 refine sb [0] F H rfl fun a F => ?_
 refine nl (wr (br (tr (tr ?_)))); cases hm; refine ⟨_, rfl, ?_⟩; rintro rfl
 refine br (tr ?_)
 replace hm := elimR hm92
 refine tr ?_
 cases hm
 refine x_ret1 F rfl rfl ?_
 exact ⟨_, rfl, rfl, (H.pm 14 [] rfl:)⟩
 refine sk (bn (ct (rl (bb [0,0,0] F H rfl fun a F => ?_))))
 refine lz (ct ?_); cases hm
 exact ⟨_, rfl, ⟨F.sl rfl, (H.pm 14 [12,13] rfl:)⟩⟩
 replace hm := ifF hg167 hm
 refine qr H (by kernel_rfl) (by kernel_rfl) ?_
 refine qb [0,0] F rfl fun a F => ?_
 refine qv F rfl (fun u hu => y_idxS F elem24 rfl rfl rfl hp154 ex153) fun a F => ?_
 refine qbk [0,5000] F rfl ⟨fld103_0, rfl, plain29, trivial⟩ fun a F => ?_
 refine qv F rfl (fun u hu => y_b2s F Tryz.underlying29 Tryz.underlying9 Tryz.underlying5 rfl rfl (hu) 3 rfl) fun a F => ?_
 refine qb [0,0] F rfl fun a F => ?_
 refine qv F rfl (fun u hu => y_idxS F elem24 rfl rfl rfl hp161 ex160) fun a F => ?_
 refine qbk [0,2000] F rfl ⟨fld103_0, rfl, plain29, trivial⟩ fun a F => ?_
 refine qv F rfl (fun u hu => y_b2s F Tryz.underlying29 Tryz.underlying9 Tryz.underlying5 rfl rfl (hu) 0 rfl) fun a F => ?_
 refine qv F rfl (fun u hu => y_neT (l := x153.1) (m := x160.1) F rfl rfl rfl) fun a F => ?_
 refine qb [0] F rfl fun a F => ?_
 replace F := F.nF 30 hg167 rfl
 refine qb (List.replicate 14 0) F rfl fun a F => ?_
 refine q_nil fun w H => ?_
 refine ct (cT F rfl ?_)
 refine sb [0] F H rfl fun a F => ?_
 refine nl (wr (br (tr (tr ?_)))); cases hm; refine ⟨_, rfl, ?_⟩; rintro rfl
 refine br (tr ?_)
 replace hm := elimR hm92
 refine tr ?_
 cases hm
 refine x_ret1 F rfl rfl ?_
 exact ⟨_, rfl, rfl, (H.pm 8 [] rfl:)⟩
 refine ex (cx (cx ?_)); cases hm; refine ⟨_, rfl, ?_⟩; rintro rfl
 refine ch (ct ?_)
 exact ⟨_, rfl, F.cut _ trivial, (H.pm 2 [] rfl:)⟩
 refine ct (sb [0] F H rfl fun a F => ?_)
 refine nl (wr ?_)
 cases hm
 refine x_ret1 F rfl rfl ?_
 exact ⟨_, rfl, rfl, H⟩
theorem w_rGreat {list : List T_api_Pair} {p1 : Option Addr} {c1 : Nat} {w0 w : World} {l : List HP}  {r : Bool} (hm : rGreat list = some r) (H : St w0 w (HP.sl R_api_Pair p1 c1 list :: l)) :
  Calls Tryz.prog 47 [.slice p1 (list).length c1].toArray w (fun e w' => ∃ v, e = .returned v ∧ v = .bool (r) ∧ St w0 w' (l)) := by
 unfold rGreat at hm
 refine x_enter Tryz.func47 rfl rfl rfl ?_
 intro a F
 refine sb [0] F H rfl fun a F => ?_
 refine nb [0] F H rfl fun a F => ?_
 refine nl (sq (sb [0] F H rfl fun a F => ?_))
 refine nl (xr0 1 [] [] F H hm rfl rfl (fun r90 z => (3, .int .i64 (r90)) :: z) (fun r90 z => z) (fun o90 hm hm90 => ?_) (fun r90 a w hm F H => ?_))
 refine bl (xl0 1 [0] [0] F H hm rfl rfl (fun (s149 : Int × Int) z => (3, .int .i64 (s149.1)) :: (4, .int .i64 (s149.2)) :: z) (fun s149 z => z) ⟨F.sl rfl, H⟩ (fun s149 a w o F H hm => ?_))
 refine sq (sr (bk (List.replicate 5 0) F H rfl ⟨⟨_, Tryz.underlying24⟩, trivial⟩ fun a F => ?_))
 rcases spP 9 F rfl hm with ⟨hg150, hm, F⟩ | ⟨hg150, hm, F⟩
 refine bb [0,0,0] F H rfl fun a F => ?_
 refine nl (cPm F rfl hm (fun hg151 hm => ?_) (fun hg151 hm => ?_))
 refine sk (ct (sq (bl (sq (sb [0,0] F H rfl fun a F => ?_)))))
 obtain ⟨x152, ex152, hm⟩ := ob hm
 obtain ⟨b153, o153, hp153⟩ := H.slP 0 rfl (idxO_some ex152).2
 obtain ⟨cs154, hcl154, H⟩ := H.slEl 0 rfl hp153 (idxO_some ex152).2
 clear hcl154
 refine sv F rfl (y_idxS F elem24 rfl rfl rfl hp153 ex152) fun a F => ?_
 refine bk [0] F H rfl ⟨fld103_0, trivial⟩ fun a F => ?_
 have G := F; replace H := rc_api_Pair (H.pk 1 rfl); obtain ⟨p155, c156, p157, c158, rfl, H⟩ := H; have F := G; clear G
 refine bk [2000,0,0,0] F H rfl ⟨rfl, plain29, ⟨_, Tryz.underlying29⟩, trivial⟩ fun a F => ?_
 rcases spP 22 F rfl hm with ⟨hg159, hm, F⟩ | ⟨hg159, hm, F⟩
 refine bb (List.replicate 8 0) F H rfl fun a F => ?_
 refine nl (cT F rfl ?_)
 refine sb [0] F H rfl fun a F => ?_
 refine nl (wr (tr (br (tr (tr ?_))))); cases hm; refine ⟨_, rfl, ?_⟩; rintro rfl
 refine br (tr ?_)
 replace hm := elimR hm90
 refine tr ?_
 cases hm
 refine x_ret1 F rfl rfl ?_
 exact ⟨_, rfl, rfl, (H.pm 4 [] rfl:)⟩
 refine bb [0,0] F H rfl fun a F => ?_
 refine g_onP F rfl rfl rfl rfl ?_
 obtain ⟨x160, ex160, hm⟩ := ob hm
 obtain ⟨cs161, hcl161, H⟩ := H.slEl 3 rfl hp153 (idxO_some ex160).2
 clear hcl161
 refine sv F rfl (y_idxS F elem24 rfl rfl rfl hp153 ex160) fun a F => ?_
 refine bk [1] F H rfl ⟨fld103_1, trivial⟩ fun a F => ?_
 refine g_onP F rfl rfl rfl rfl ?_
 have G := F; replace H := rc_api_Pair (H.pk 1 rfl); obtain ⟨p162, c163, p164, c165, rfl, H⟩ := H; have F := G; clear G
 refine bk [2001,0,0,0] F H rfl ⟨rfl, plain29, ⟨_, Tryz.underlying29⟩, trivial⟩ fun a F => ?_
 refine nl (cPm F rfl hm (fun hg166 hm => ?_) (fun hg166 hm => ?_))
 refine sb [0] F H rfl fun a F => ?_
 refine nl (wr (tr (br (tr (tr ?_))))); cases hm; refine ⟨_, rfl, ?_⟩; rintro rfl
 refine br (tr ?_)
 replace hm := elimR hm90
 refine tr ?_
 cases hm
 refine x_ret1 F rfl rfl ?_
 exact ⟨_, rfl, rfl, (H.pm 7 [] rfl:)⟩
 refine sk (ct ?_)
 obtain ⟨x167, ex167, hm⟩ := ob hm
 obtain ⟨cs168, hcl168, H⟩ := H.slEl 6 rfl hp153 (idxO_some ex167).2
 clear hcl168
 have G := F; replace H := rc_api_Pair (H.pk 1 rfl); obtain ⟨p169, c170, p171, c172, rfl, H⟩ := H; have F := G; clear G
 obtain ⟨x173, ex173, hm⟩ := ob hm
 obtain ⟨cs174, hcl174, H⟩ := H.slEl 9 rfl hp153 (idxO_some ex173).2
 clear hcl174
 have G := F; replace H := rc_api_Pair (H.pk 1 rfl); obtain ⟨p175, c176, p177, c178, rfl, H⟩ := H; have F := G; clear G
 refine qr H (by kernel_rfl) (by kernel_rfl) ?_
 refine qb [0,0,0] F rfl fun a F => ?_
 refine qv F rfl (fun u hu => y_idxS F elem24 rfl rfl rfl hp153 ex167) fun a F => ?_
 refine qbk [0,5000,0,0,0,0] F rfl ⟨fld103_0, rfl, plain29, ⟨_, Tryz.underlying29⟩, trivial⟩ fun a F => ?_
 refine qv F rfl (fun u hu => y_idxS F elem24 rfl rfl rfl hp153 ex173) fun a F => ?_
 refine qbk [1,2001,0,0,0,0] F rfl ⟨fld103_1, rfl, plain29, ⟨_, Tryz.underlying29⟩, trivial⟩ fun a F => ?_
 refine q_nil fun w H => ?_
 refine bn (ct (rl (bb [0,0,0] F H rfl fun a F => ?_)))
 refine lz (ct ?_); cases hm
 exact ⟨_, rfl, ⟨F.sl rfl, (H.pm 13 [12] rfl:)⟩⟩
 refine ex (cx (cx ?_)); cases hm; refine ⟨_, rfl, ?_⟩; rintro rfl
 refine ch (ct ?_)
 exact ⟨_, rfl, F.sl rfl, (H.pm 1 [] rfl:)⟩
 refine bb [0,0,0] F H rfl fun a F => ?_
 refine nl (cF F rfl ?_)
 refine ex (cx (cx ?_)); cases hm; refine ⟨_, rfl, ?_⟩; rintro rfl
 refine ch (ct ?_)
 exact ⟨_, rfl, F.sl rfl, (H.pm 1 [] rfl:)⟩
 refine ct (sb [0,0,0] F H rfl fun a F => ?_)
 refine nl (wr ?_)
 cases hm
 refine x_ret1 F rfl rfl ?_
 exact ⟨_, rfl, rfl, H⟩
theorem w_rGreatOp {o : T_api_Op} {cs1 : List Value} {w0 w : World} {l : List HP}  {r : Bool} (hm : rGreatOp o = some r) (H : St w0 w (HP.rc R_api_Op cs1 o :: l)) :
  Calls Tryz.prog 19 [.agg cs1.toArray].toArray w (fun e w' => ∃ v, e = .returned v ∧ v = .bool (r) ∧ St w0 w' (l)) := by
 unfold rGreatOp at hm
 refine x_enter Tryz.func19 rfl rfl rfl ?_
 intro a F
 refine sr (s_boxA wkP F rfl rfl rfl rfl rfl H fun b2 w a H F => ?_)
 refine bb [0] F H rfl fun a F => ?_
 replace H := H.nf 2 rfl
 refine nl (sr (bk [1] F H rfl ⟨fld31_1, trivial⟩ fun a F => ?_))
 have G := F; replace H := rc_api_Op (H.pk 1 rfl); obtain ⟨p3, c4, rfl, H⟩ := H; have F := G; clear G
 refine bk [1001] F H rfl ⟨rfl, plain9, trivial⟩ fun a F => ?_
 refine sv F rfl (y_lenT (l := o.2.1) F rfl Tryz.underlying9 rfl) fun a F => ?_
 refine bb [0,0] F H rfl fun a F => ?_
 rcases spP 7 F rfl hm with ⟨hg5, hm, F⟩ | ⟨hg5, hm, F⟩
 refine bb (List.replicate 12 0) F H rfl fun a F => ?_
 refine nl (wr ?_)
 cases hm
 refine x_ret1 F rfl rfl ?_
 exact ⟨_, rfl, rfl, (H.pm 2 [] rfl:)⟩
 refine bk [2,1002] F H rfl ⟨fld31_2, rfl, plain9, trivial⟩ fun a F => ?_
 refine g_onP F rfl rfl rfl rfl ?_
 refine sv F rfl (y_lenT (l := o.2.2.1) F rfl Tryz.underlying9 rfl) fun a F => ?_
 refine bb [0,0,0] F H rfl fun a F => ?_
 rcases spP 13 F rfl hm with ⟨hg6, hm, F⟩ | ⟨hg6, hm, F⟩
 refine bb (List.replicate 6 0) F H rfl fun a F => ?_
 refine nl (wr ?_)
 cases hm
 refine x_ret1 F rfl rfl ?_
 exact ⟨_, rfl, rfl, (H.pm 2 [] rfl:)⟩
 refine bk [5,1005,0,0,0,0] F H rfl ⟨fld31_5, rfl, plain29, ⟨_, Tryz.underlying29⟩, trivial⟩ fun a F => ?_
 refine nl (wr ?_)
 cases hm
 refine x_ret1 F rfl rfl ?_
 exact ⟨_, rfl, rfl, (H.pm 2 [] rfl:)⟩
theorem ent17 : En Tryz.prog 17 := enters Tryz.func17 (by kernel_rfl) rfl
theorem fld41_1 : FieldT Tryz.prog 41 1 1 := by unfold FieldT; rw [Tryz.underlying41]; kernel_rfl
theorem plain38 : Plain Tryz.prog 38 := by unfold Plain; rw [Tryz.underlying38]; rfl
theorem w_rSameS {a_ : T_api_State} {b_ : T_api_State} {cs1 : List Value} {cs2 : List Value} {w0 w : World} {l : List HP}  {r : Bool} (hm : rSameS a_ b_ = some r) (H : St w0 w (HP.rc R_api_State cs1 a_ :: HP.rc R_api_State cs2 b_ :: l)) :
  Calls Tryz.prog 27 [.agg cs1.toArray, .agg cs2.toArray].toArray w (fun e w' => ∃ v, e = .returned v ∧ v = .bool (r) ∧ St w0 w' (l)) := by
 unfold rSameS at hm
 refine x_enter Tryz.func27 rfl rfl rfl ?_
 intro a F
 refine sr (s_boxA wkP F rfl rfl rfl rfl rfl H fun b3 w a H F => ?_)
 refine s_boxA wkP F rfl rfl rfl rfl rfl H fun b4 w a H F => ?_
 refine bb [0] F H rfl fun a F => ?_
 replace H := H.nf 4 rfl
 refine nl (sq (sr (bk [0] F H rfl ⟨fld27_0, trivial⟩ fun a F => ?_)))
 have G := F; replace H := rc_api_State (H.pk 2 rfl); obtain ⟨p5, c6, p7, c8, rfl, H⟩ := H; have F := G; clear G
 refine bk [3000,0] F H rfl ⟨rfl, plain24, fld27_0, trivial⟩ fun a F => ?_
 have G := F; replace H := rc_api_State (H.pk 4 rfl); obtain ⟨p9, c10, p11, c12, rfl, H⟩ := H; have F := G; clear G
 refine bk [4000] F H rfl ⟨rfl, plain24, trivial⟩ fun a F => ?_
 obtain ⟨x13, ex13, hm⟩ := ob hm
 refine sd F rfl ent17 (w_rSamePairs ex13 (H.pm 6 [2,0,0,1,2,3,4,5] rfl:):) ?_; rintro _ w a ⟨rfl, H⟩ F
 refine bb [0,0] F H rfl fun a F => ?_
 by_cases hg14 : (!x13) = true
 replace hm := ifT hg14 hm
 replace F := F.vT 14 hg14 rfl
 refine bb (List.replicate 8 0) F H rfl fun a F => ?_
 replace H := H.nf 6 rfl
 refine nl (cT F rfl ?_)
 refine sb [0] F H rfl fun a F => ?_
 refine nl (wr (tr ?_))
 cases hm
 refine x_ret1 F rfl rfl ?_
 exact ⟨_, rfl, rfl, (H.pm 6 [] rfl:)⟩
 replace hm := ifF hg14 hm
 replace F := F.vF 14 hg14 rfl
 refine bk [1,5001,0,1,4001,0,0,0] F H rfl ⟨fld27_1, rfl, plain25, ⟨_, Tryz.underlying25⟩, fld27_1, rfl, plain25, ⟨_, Tryz.underlying25⟩, trivial⟩ fun a F => ?_
 replace H := H.nf 6 rfl
 refine nl (cNm F rfl hm (fun hg15 hm => ?_) (fun hg15 hm => ?_))
 refine sb [0] F H rfl fun a F => ?_
 refine nl (wr (tr ?_))
 cases hm
 refine x_ret1 F rfl rfl ?_
 exact ⟨_, rfl, rfl, (H.pm 6 [] rfl:)⟩
 refine sk (ct (sq (sb [0] F H rfl fun a F => ?_)))
 refine nl (xr0 6 [] [0,1,2,3,4,5] F H hm rfl rfl (fun r119 z => z) (fun r119 z => z) (fun o119 hm hm119 => ?_) (fun r119 a w hm F H => ?_))
 refine bl (xl0 6 [2,3] [0,1,2,3,4,5] F H hm rfl rfl (fun (s188 : Int) z => (5, .int .i64 (s188)) :: z) (fun s188 z => z) ⟨F.sl rfl, H⟩ (fun s188 a w o F H hm => ?_))
 refine sq (sr (bk [0,1,5001,0,0] F H rfl ⟨fld27_1, rfl, plain25, ⟨_, Tryz.underlying25⟩, trivial⟩ fun a F => ?_))
 refine nl (cPm F rfl hm (fun hg189 hm => ?_) (fun hg189 hm => ?_))
 refine sk (ct (sq (bl (sq ?_))))
 refine xm4 6 [2,3,5] [0,1,2,3,4,5] F H hm rfl rfl (fun r200 (b201 : Nat) (cs202 : List Value) (b203 : Nat) (cs204 : List Value) z => (6, .pointer (some ⟨b201, 0, none⟩)) :: (7, .pointer (some ⟨b203, 0, none⟩)) :: z) (fun r200 b201 cs202 b203 cs204 z => HP.blk b201 (cs202) 41 :: HP.rc R_api_Snap cs202 r200.1 :: HP.blk b203 (cs204) 41 :: HP.rc R_api_Snap cs204 r200.2 :: z) (fun r200 hm => ?_) (fun r200 a w hm b201 cs202 b203 cs204 F H => ?_)
 obtain ⟨x205, ex205, hm⟩ := ob hm
 obtain ⟨b206, o206, hp206⟩ := H.slP 3 rfl (idxO_some ex205).2
 obtain ⟨cs207, hcl207, H⟩ := H.slEl 3 rfl hp206 (idxO_some ex205).2
 clear hcl207
 obtain ⟨x208, ex208, hm⟩ := ob hm
 obtain ⟨b209, o209, hp209⟩ := H.slP 3 rfl (idxO_some ex208).2
 obtain ⟨cs210, hcl210, H⟩ := H.slEl 3 rfl hp209 (idxO_some ex208).2
 clear hcl210
 refine mix_region [10,11,12,13] [13] (.step 0 0 (.step 0 1 (.step 0 2 (.step 0 3 (.step 0 4 (.step 0 5 (.step 0 6 (.step 0 7 (.step 0 8 (.step 0 9 (.fork 10 (.step 2 11 (.step 2 12 (.step 3 13 .done))) 11 (.step 2 10 (.step 2 12 (.step 3 13 .done)))))))))))))) (fun u => ∃ ls, St w0 u (HP.row b209 (o209 + (s188 : Int).toNat * 3) cs210 :: HP.rc R_api_Snap cs210 x208 :: HP.row b206 (o206 + (s188 : Int).toNat * 3) cs207 :: HP.rc R_api_Snap cs207 x205 :: HP.blk b4 ([.slice p9 (b_.1).length c10, .slice p11 (b_.2).length c12]) 27 :: HP.blk b3 ([.slice p5 (a_.1).length c6, .slice p7 (a_.2).length c8]) 27 :: ls)) (by kernel_rfl) (by kernel_rfl) ⟨_, (H.drew.pm 10 [0,1,2,3,8,9,0,1,2,3,4,5,6,7] rfl:)⟩ ?_
 replace H := H.drew
 generalize w.drew = w at H ⊢
 refine mbk [1] F H rfl ⟨fld27_1, trivial⟩ fun a F => ?_
 refine m_pure F rfl rfl rfl rfl (fun u hu => y_load1 F plain25 rfl rfl (row_at (v := .slice p7 (a_.2).length c8) ((hu.choose_spec.blk 5 rfl).row) rfl)) fun a F => ?_
 refine mb [0] F H rfl fun a F => ?_
 refine m_pure F rfl rfl rfl rfl (fun u hu => y_idxS F elem25 rfl rfl rfl hp206 ex205) fun a F => ?_
 refine m_pure F rfl rfl rfl rfl (fun u hu => y_loadA F agg41 rfl rfl (hu.choose_spec.rowAt 2 rfl) (hu.choose_spec.rcLen 3 rfl)) fun a F => ?_
 refine mbk [1] F H rfl ⟨fld27_1, trivial⟩ fun a F => ?_
 refine m_pure F rfl rfl rfl rfl (fun u hu => y_load1 F plain25 rfl rfl (row_at (v := .slice p11 (b_.2).length c12) ((hu.choose_spec.blk 4 rfl).row) rfl)) fun a F => ?_
 refine mb [0] F H rfl fun a F => ?_
 refine m_pure F rfl rfl rfl rfl (fun u hu => y_idxS F elem25 rfl rfl rfl hp209 ex208) fun a F => ?_
 refine m_pure F rfl rfl rfl rfl (fun u hu => y_loadA F agg41 rfl rfl (hu.choose_spec.rowAt 0 rfl) (hu.choose_spec.rcLen 1 rfl)) fun a F => ?_
 refine m_fork rfl rfl rfl rfl ?_ ?_
 refine m_heavy rfl rfl ?_
 replace H := H.owNil R_api_Pair 103
 refine s_allocA wkP F rfl rfl rfl agz41 rfl H fun b211 w a H F => ?_
 refine lz ?_; refine ct ⟨⟨_, (H.pm 12 [2,3,4,5,10,11,0,1,2,3,4,5,6,7,8,9] rfl:)⟩, ?_⟩
 refine m_heavy rfl rfl ?_
 replace H := H.owNil R_api_Pair 103
 refine s_allocA wkP F rfl rfl rfl agz41 rfl H fun b212 w a H F => ?_
 refine lz ?_; refine ct ⟨⟨_, (H.pm 14 [4,5,6,7,12,13,0,1,2,3,4,5,6,7,8,9,10,11] rfl:)⟩, ?_⟩
 refine m_heavy rfl rfl ?_
 refine s_storeA wkP F rfl rfl agg41 rfl rfl rfl H 2 rfl (H.rcLen 7 rfl) rfl (H.rcFlat 7 rfl) fun w H => ?_
 refine lz ?_; refine ct ⟨⟨_, (H.pm 14 [4,5,6,7,12,13,0,1,2,3,4,5,6,7,8,9,10,11] rfl:)⟩, ?_⟩
 refine m_last rfl rfl ?_
 refine s_storeA wkP F rfl rfl agg41 rfl rfl rfl H 0 rfl (H.rcLen 5 rfl) rfl (H.rcFlat 5 rfl) fun w H => ?_
 refine lz ?_; refine ct ?_
 refine m_nil ?_
 cases hm
 refine ct ?_
 exact ⟨b211, cs207, b212, cs210, F.sl rfl, (H.pm 14 [2,7,0,5,8,9,10,11,12,13] rfl:)⟩
 refine m_heavy rfl rfl ?_
 replace H := H.owNil R_api_Pair 103
 refine s_allocA wkP F rfl rfl rfl agz41 rfl H fun b213 w a H F => ?_
 refine lz ?_; refine ct ⟨⟨_, (H.pm 12 [2,3,4,5,10,11,0,1,2,3,4,5,6,7,8,9] rfl:)⟩, ?_⟩
 refine m_heavy rfl rfl ?_
 replace H := H.owNil R_api_Pair 103
 refine s_allocA wkP F rfl rfl rfl agz41 rfl H fun b214 w a H F => ?_
 refine lz ?_; refine ct ⟨⟨_, (H.pm 14 [4,5,6,7,12,13,0,1,2,3,4,5,6,7,8,9,10,11] rfl:)⟩, ?_⟩
 refine m_heavy rfl rfl ?_
 refine s_storeA wkP F rfl rfl agg41 rfl rfl rfl H 0 rfl (H.rcLen 7 rfl) rfl (H.rcFlat 7 rfl) fun w H => ?_
 refine lz ?_; refine ct ⟨⟨_, (H.pm 14 [4,5,6,7,12,13,0,1,2,3,4,5,6,7,8,9,10,11] rfl:)⟩, ?_⟩
 refine m_last rfl rfl ?_
 refine s_storeA wkP F rfl rfl agg41 rfl rfl rfl H 2 rfl (H.rcLen 5 rfl) rfl (H.rcFlat 5 rfl) fun w H => ?_
 refine lz ?_; refine ct ?_
 refine m_nil ?_
 cases hm
 refine ct ?_
 exact ⟨b214, cs207, b213, cs210, F.sl rfl, (H.pm 14 [0,7,2,5,8,9,10,11,12,13] rfl:)⟩
 refine ct (sr (bk [0] F H rfl ⟨fld41_0, trivial⟩ fun a F => ?_))
 have G := F; replace H := rc_api_Snap (H.pk 1 rfl); obtain ⟨p215, c216, rfl, H⟩ := H; have F := G; clear G
 refine bk [1000,0] F H rfl ⟨rfl, plain9, fld41_0, trivial⟩ fun a F => ?_
 have G := F; replace H := rc_api_Snap (H.pk 3 rfl); obtain ⟨p217, c218, rfl, H⟩ := H; have F := G; clear G
 refine bk [3000] F H rfl ⟨rfl, plain9, trivial⟩ fun a F => ?_
 refine sv F rfl (y_neT (l := r200.1.1) (m := r200.2.1) F rfl rfl rfl) fun a F => ?_
 refine bb [0] F H rfl fun a F => ?_
 rcases spN 45 F rfl hm with ⟨hg219, hm, F⟩ | ⟨hg219, hm, F⟩
 refine bk [1,2001,1,3001,0,0,0] F H rfl ⟨fld41_1, rfl, plain38, fld41_1, rfl, plain38, trivial⟩ fun a F => ?_
 rcases spN 52 F rfl hm with ⟨hg220, hm, F⟩ | ⟨hg220, hm, F⟩
 refine bk [2,2002,2,3002] F H rfl ⟨fld41_2, rfl, plain24, fld41_2, rfl, plain24, trivial⟩ fun a F => ?_
 refine g_onP F rfl rfl rfl rfl ?_
 obtain ⟨x221, ex221, hm⟩ := ob hm
 refine sd F rfl ent17 (w_rSamePairs ex221 (H.pm 10 [1,0,0,1,2,3,4,5,6,7,8,9] rfl:):) ?_; rintro _ w a ⟨rfl, H⟩ F
 refine bb [0,0] F H rfl fun a F => ?_
 replace H := H.nf 10 rfl
 refine nl (cB F rfl (fun hg222 => ?_) (fun hg222 => ?_))
 replace hm := ifT hg222 hm
 refine sb [0] F H rfl fun a F => ?_
 refine nl (wr (br (tr (tr ?_)))); cases hm; refine ⟨_, rfl, ?_⟩; rintro rfl
 refine br (tr ?_)
 replace hm := elimR hm119
 refine tr ?_
 cases hm
 refine x_ret1 F rfl rfl ?_
 exact ⟨_, rfl, rfl, (H.pm 10 [] rfl:)⟩
 replace hm := ifF (nT hg222) hm
 refine sk (bn (ct (rl (bb [0,0,0] F H rfl fun a F => ?_))))
 refine lz (ct ?_); cases hm
 exact ⟨_, rfl, ⟨F.sl rfl, (H.pm 10 [4,5,6,7,8,9] rfl:)⟩⟩
 refine bb (List.replicate 7 0) F H rfl fun a F => ?_
 refine nl (cT F rfl ?_)
 refine sb [0] F H rfl fun a F => ?_
 refine nl (wr (br (tr (tr ?_)))); cases hm; refine ⟨_, rfl, ?_⟩; rintro rfl
 refine br (tr ?_)
 replace hm := elimR hm119
 refine tr ?_
 cases hm
 refine x_ret1 F rfl rfl ?_
 exact ⟨_, rfl, rfl, (H.pm 10 [] rfl:)⟩
 refine bb (List.replicate 14 0) F H rfl fun a F => ?_
 refine nl (cT F rfl ?_)
 refine sb [0] F H rfl fun a F => ?_
 refine nl (wr (br (tr (tr ?_)))); cases hm; refine ⟨_, rfl, ?_⟩; rintro rfl
 refine br (tr ?_)
 replace hm := elimR hm119
 refine tr ?_
 cases hm
 refine x_ret1 F rfl rfl ?_
 exact ⟨_, rfl, rfl, (H.pm 10 [] rfl:)⟩
 refine ex (cx (cx ?_)); cases hm; refine ⟨_, rfl, ?_⟩; rintro rfl
 refine ch (ct ?_)
 exact ⟨_, rfl, F.cut _ trivial, H⟩
 refine ct (sb [0] F H rfl fun a F => ?_)
 refine nl (wr ?_)
 cases hm
 refine x_ret1 F rfl rfl ?_
 exact ⟨_, rfl, rfl, (H.pm 6 [] rfl:)⟩
theorem ent47 : En Tryz.prog 47 := enters Tryz.func47 (by kernel_rfl) rfl
theorem w_rGreatS {s : T_api_State} {cs1 : List Value} {w0 w : World} {l : List HP}  {r : Bool} (hm : rGreatS s = some r) (H : St w0 w (HP.rc R_api_State cs1 s :: l)) :
  Calls Tryz.prog 18 [.agg cs1.toArray].toArray w (fun e w' => ∃ v, e = .returned v ∧ v = .bool (r) ∧ St w0 w' (l)) := by
 unfold rGreatS at hm
 refine x_enter Tryz.func18 rfl rfl rfl ?_
 intro a F
 refine sr (s_boxA wkP F rfl rfl rfl rfl rfl H fun b2 w a H F => ?_)
 refine bb [0] F H rfl fun a F => ?_
 replace H := H.nf 2 rfl
 refine nl (sq (sr (bk [0] F H rfl ⟨fld27_0, trivial⟩ fun a F => ?_)))
 have G := F; replace H := rc_api_State (H.pk 1 rfl); obtain ⟨p3, c4, p5, c6, rfl, H⟩ := H; have F := G; clear G
 refine bk [2000] F H rfl ⟨rfl, plain24, trivial⟩ fun a F => ?_
 obtain ⟨x7, ex7, hm⟩ := ob hm
 refine sd F rfl ent47 (w_rGreat ex7 (H.pm 3 [0,0,1,2] rfl:):) ?_; rintro _ w a ⟨rfl, H⟩ F
 refine bb [0] F H rfl fun a F => ?_
 by_cases hg8 : x7 = true
 replace hm := ifT hg8 hm
 replace F := F.vT 7 hg8 rfl
 refine bb (List.replicate 11 0) F H rfl fun a F => ?_
 replace H := H.nf 3 rfl
 refine nl (cT F rfl ?_)
 refine sb [0] F H rfl fun a F => ?_
 refine nl (wr (tr ?_))
 cases hm
 refine x_ret1 F rfl rfl ?_
 exact ⟨_, rfl, rfl, (H.pm 3 [] rfl:)⟩
 replace hm := ifF hg8 hm
 replace F := F.vF 7 hg8 rfl
 refine bk [0,2000,0,0,0,0] F H rfl ⟨fld27_0, rfl, plain24, ⟨_, Tryz.underlying24⟩, trivial⟩ fun a F => ?_
 rcases spP 13 F rfl hm with ⟨hg9, hm, F⟩ | ⟨hg9, hm, F⟩
 refine bb (List.replicate 5 0) F H rfl fun a F => ?_
 replace H := H.nf 3 rfl
 refine nl (cT F rfl ?_)
 refine sb [0] F H rfl fun a F => ?_
 refine nl (wr (tr ?_))
 cases hm
 refine x_ret1 F rfl rfl ?_
 exact ⟨_, rfl, rfl, (H.pm 3 [] rfl:)⟩
 refine bk [1,2001,0,0,0] F H rfl ⟨fld27_1, rfl, plain25, ⟨_, Tryz.underlying25⟩, trivial⟩ fun a F => ?_
 replace H := H.nf 3 rfl
 refine nl (cPm F rfl hm (fun hg10 hm => ?_) (fun hg10 hm => ?_))
 refine sb [0] F H rfl fun a F => ?_
 refine nl (wr (tr ?_))
 cases hm
 refine x_ret1 F rfl rfl ?_
 exact ⟨_, rfl, rfl, (H.pm 3 [] rfl:)⟩
 refine sk (ct (sq (sb [0] F H rfl fun a F => ?_)))
 refine nl (xr0 3 [] [0,1,2] F H hm rfl rfl (fun r66 z => z) (fun r66 z => z) (fun o66 hm hm66 => ?_) (fun r66 a w hm F H => ?_))
 refine bl (xl0 3 [1] [0,1,2] F H hm rfl rfl (fun (s103 : Int) z => (3, .int .i64 (s103)) :: z) (fun s103 z => z) ⟨F.sl rfl, H⟩ (fun s103 a w o F H hm => ?_))
 refine sq (sr (bk [0,1,2001,0,0] F H rfl ⟨fld27_1, rfl, plain25, ⟨_, Tryz.underlying25⟩, trivial⟩ fun a F => ?_))
 refine nl (cPm F rfl hm (fun hg104 hm => ?_) (fun hg104 hm => ?_))
 refine sk (ct (sq (bl (sr (bk [1,2001,0] F H rfl ⟨fld27_1, rfl, plain25, trivial⟩ fun a F => ?_)))))
 obtain ⟨x105, ex105, hm⟩ := ob hm
 obtain ⟨b106, o106, hp106⟩ := H.slP 1 rfl (idxO_some ex105).2
 obtain ⟨cs107, hcl107, H⟩ := H.slEl 1 rfl hp106 (idxO_some ex105).2
 clear hcl107
 refine sv F rfl (y_idxS F elem25 rfl rfl rfl hp106 ex105) fun a F => ?_
 refine bk [2] F H rfl ⟨fld41_2, trivial⟩ fun a F => ?_
 have G := F; replace H := rc_api_Snap (H.pk 1 rfl); obtain ⟨p108, c109, rfl, H⟩ := H; have F := G; clear G
 refine bk [1002] F H rfl ⟨rfl, plain24, trivial⟩ fun a F => ?_
 obtain ⟨x110, ex110, hm⟩ := ob hm
 refine sd F rfl ent47 (w_rGreat ex110 (H.pm 5 [0,0,1,2,3,4] rfl:):) ?_; rintro _ w a ⟨rfl, H⟩ F
 refine bb [0] F H rfl fun a F => ?_
 by_cases hg111 : x110 = true
 replace hm := ifT hg111 hm
 replace F := F.vT 33 hg111 rfl
 refine bb (List.replicate 19 0) F H rfl fun a F => ?_
 replace H := H.nf 5 rfl
 refine nl (cT F rfl ?_)
 refine sb [0] F H rfl fun a F => ?_
 refine nl (wr (br (tr (tr ?_)))); cases hm; refine ⟨_, rfl, ?_⟩; rintro rfl
 refine br (tr ?_)
 replace hm := elimR hm66
 refine tr ?_
 cases hm
 refine x_ret1 F rfl rfl ?_
 exact ⟨_, rfl, rfl, (H.pm 5 [] rfl:)⟩
 replace hm := ifF hg111 hm
 replace F := F.vF 33 hg111 rfl
 refine bk [1,4001,0] F H rfl ⟨fld27_1, rfl, plain25, trivial⟩ fun a F => ?_
 refine g_onP F rfl rfl rfl rfl ?_
 obtain ⟨x112, ex112, hm⟩ := ob hm
 obtain ⟨cs113, hcl113, H⟩ := H.slEl 3 rfl hp106 (idxO_some ex112).2
 clear hcl113
 refine sv F rfl (y_idxS F elem25 rfl rfl rfl hp106 ex112) fun a F => ?_
 refine bk [2] F H rfl ⟨fld41_2, trivial⟩ fun a F => ?_
 refine g_onP F rfl rfl rfl rfl ?_
 have G := F; replace H := rc_api_Snap (H.pk 1 rfl); obtain ⟨p114, c115, rfl, H⟩ := H; have F := G; clear G
 refine bk [1002,0,0,0,0] F H rfl ⟨rfl, plain24, ⟨_, Tryz.underlying24⟩, trivial⟩ fun a F => ?_
 rcases spP 43 F rfl hm with ⟨hg116, hm, F⟩ | ⟨hg116, hm, F⟩
 refine bb (List.replicate 9 0) F H rfl fun a F => ?_
 replace H := H.nf 7 rfl
 refine nl (cT F rfl ?_)
 refine sb [0] F H rfl fun a F => ?_
 refine nl (wr (br (tr (tr ?_)))); cases hm; refine ⟨_, rfl, ?_⟩; rintro rfl
 refine br (tr ?_)
 replace hm := elimR hm66
 refine tr ?_
 cases hm
 refine x_ret1 F rfl rfl ?_
 exact ⟨_, rfl, rfl, (H.pm 7 [] rfl:)⟩
 refine bk [1,6001,0] F H rfl ⟨fld27_1, rfl, plain25, trivial⟩ fun a F => ?_
 refine g_onP F rfl rfl rfl rfl ?_
 obtain ⟨x117, ex117, hm⟩ := ob hm
 obtain ⟨cs118, hcl118, H⟩ := H.slEl 5 rfl hp106 (idxO_some ex117).2
 clear hcl118
 refine sv F rfl (y_idxS F elem25 rfl rfl rfl hp106 ex117) fun a F => ?_
 refine bk [0] F H rfl ⟨fld41_0, trivial⟩ fun a F => ?_
 refine g_onP F rfl rfl rfl rfl ?_
 have G := F; replace H := rc_api_Snap (H.pk 1 rfl); obtain ⟨p119, c120, rfl, H⟩ := H; have F := G; clear G
 refine bk [1000] F H rfl ⟨rfl, plain9, trivial⟩ fun a F => ?_
 refine g_onP F rfl rfl rfl rfl ?_
 refine sv F rfl (y_lenT (l := x117.1) F rfl Tryz.underlying9 rfl) fun a F => ?_
 refine bb [0,0] F H rfl fun a F => ?_
 replace H := H.nf 9 rfl
 refine nl (cPm F rfl hm (fun hg121 hm => ?_) (fun hg121 hm => ?_))
 refine sb [0] F H rfl fun a F => ?_
 refine nl (wr (br (tr (tr ?_)))); cases hm; refine ⟨_, rfl, ?_⟩; rintro rfl
 refine br (tr ?_)
 replace hm := elimR hm66
 refine tr ?_
 cases hm
 refine x_ret1 F rfl rfl ?_
 exact ⟨_, rfl, rfl, (H.pm 9 [] rfl:)⟩
 refine sk (bn (ct (rl (bb [0,0,0] F H rfl fun a F => ?_))))
 refine lz (ct ?_); cases hm
 exact ⟨_, rfl, ⟨F.sl rfl, (H.pm 9 [6,7,8] rfl:)⟩⟩
 refine ex (cx (cx ?_)); cases hm; refine ⟨_, rfl, ?_⟩; rintro rfl
 refine ch (ct ?_)
 exact ⟨_, rfl, F.cut _ trivial, H⟩
 refine ct (sb [0] F H rfl fun a F => ?_)
 refine nl (wr ?_)
 cases hm
 refine x_ret1 F rfl rfl ?_
 exact ⟨_, rfl, rfl, (H.pm 3 [] rfl:)⟩
theorem ent14 : En Tryz.prog 14 := enters Tryz.func14 (by kernel_rfl) rfl
theorem ent15 : En Tryz.prog 15 := enters Tryz.func15 (by kernel_rfl) rfl
theorem w_lSpeaks   {w0 w : World} {l : List HP}  {r : Bool} (hm : lSpeaks  = some r) (H : St w0 w (l)) :
  Calls Tryz.prog 13 [].toArray w (fun e w' => ∃ v, e = .returned v ∧ v = .bool (r) ∧ St w0 w' (l)) := by
 unfold lSpeaks at hm
 refine x_enter Tryz.func13 rfl rfl rfl ?_
 intro a F
 refine sb [0] F H rfl fun a F => ?_
 refine nl (sr ?_)
 obtain ⟨x1, ex1, hm⟩ := ob hm
 refine sd F rfl ent14 (w_nNew ex1 H:) ?_; rintro _ w a ⟨cs2, rfl, H⟩ F
 replace H := H.owNil rByte 5
 refine sv F rfl (y_build F rfl rfl (cs := [.int .i64 (10), .string (txb ([115])), .string (txb ([])), .int .i64 (0), .int .i64 (0), .slice none (([] : List UInt8)).length 0]) (by kernel_rfl)) fun a F => ?_
 replace H := H.frz 0 rfl
 replace H := H.mkRc (R := R_api_Op) (cs := [.int .i64 (10), .string (txb ([115])), .string (txb ([])), .int .i64 (0), .int .i64 (0), .slice none (([] : List UInt8)).length 0]) (x := (10, [115], [], 0, 0, ([] : List UInt8))) (fun gg => ⟨_, _, rfl, rfl, ⟨_, _, rfl, rfl, ⟨_, _, rfl, rfl, ⟨_, _, rfl, rfl, ⟨_, _, rfl, rfl, ⟨_, _, rfl, (gg 0 _ rfl).choose_spec⟩⟩⟩⟩⟩⟩)
 obtain ⟨x3, ex3, hm⟩ := ob hm
 refine sd F rfl ent15 (w_nDo ex3 (H.pm 3 [2,0,0,1,2] rfl:):) ?_; rintro _ w a ⟨cs4, cs5, rfl, H⟩ F
 refine bb [0,0,0] F H rfl fun a F => ?_
 replace H := H.owNil R_api_Pair 103
 replace H := H.owNil R_api_Snap 41
 refine s_allocA wkP F rfl rfl rfl agz27 rfl H fun b6 w a H F => ?_
 replace H := H.owNil rByte 5
 replace H := H.owNil rStr 9
 refine s_allocA wkP F rfl rfl rfl agz35 rfl H fun b7 w a H F => ?_
 refine s_storeA wkP F rfl rfl agg27 rfl rfl rfl H 3 rfl (H.rcLen 6 rfl) rfl (H.rcFlat 6 rfl) fun w H => ?_
 refine s_storeA wkP F rfl rfl agg35 rfl rfl rfl H 0 rfl (H.rcLen 7 rfl) rfl (H.rcFlat 7 rfl) fun w H => ?_
 replace H := H.nf 11 rfl
 refine nl (sr (bk [3999] F H rfl ⟨rfl, (aggn agg27 (H.rcLen 6 rfl)), trivial⟩ fun a F => ?_))
 replace H := H.owNil rByte 5
 refine sv F rfl (y_build F rfl rfl (cs := [.int .i64 (1), .string (txb ([47,97])), .string (txb ([])), .int .i64 (0), .int .i64 (0), .slice none (([] : List UInt8)).length 0]) (by kernel_rfl)) fun a F => ?_
 replace H := H.frz 0 rfl
 replace H := H.mkRc (R := R_api_Op) (cs := [.int .i64 (1), .string (txb ([47,97])), .string (txb ([])), .int .i64 (0), .int .i64 (0), .slice none (([] : List UInt8)).length 0]) (x := (1, [47,97], [],0,0, ([] : List UInt8))) (fun gg => ⟨_, _, rfl, rfl, ⟨_, _, rfl, rfl, ⟨_, _, rfl, rfl, ⟨_, _, rfl, rfl, ⟨_, _, rfl, rfl, ⟨_, _, rfl, (gg 0 _ rfl).choose_spec⟩⟩⟩⟩⟩⟩)
 obtain ⟨x8, ex8, hm⟩ := ob hm
 refine sd F rfl ent15 (w_nDo ex8 (H.pm 13 [8,0,0,1,2,3,4,5,6,7,8,9,10,11,12] rfl:):) ?_; rintro _ w a ⟨cs9, cs10, rfl, H⟩ F
 refine bb [0,0,0] F H rfl fun a F => ?_
 replace H := H.owNil rByte 5
 replace H := H.owNil rStr 9
 refine s_allocA wkP F rfl rfl rfl agz35 rfl H fun b11 w a H F => ?_
 refine s_storeA wkP F rfl rfl agg27 rfl rfl rfl H 10 rfl (H.rcLen 3 rfl) (H.rcLen 13 rfl) (H.rcFlat 3 rfl) fun w H => ?_
 refine s_storeA wkP F rfl rfl agg35 rfl rfl rfl H 0 rfl (H.rcLen 4 rfl) rfl (H.rcFlat 4 rfl) fun w H => ?_
 replace H := H.nf 18 rfl
 refine nl (sr (bk [10999] F H rfl ⟨rfl, (aggn agg27 (H.rcLen 3 rfl)), trivial⟩ fun a F => ?_))
 replace H := H.owNil rByte 5
 refine sv F rfl (y_build F rfl rfl (cs := [.int .i64 (12), .string (txb ([115])), .string (txb ([])), .int .i64 (0), .int .i64 (0), .slice none (([] : List UInt8)).length 0]) (by kernel_rfl)) fun a F => ?_
 replace H := H.frz 0 rfl
 replace H := H.mkRc (R := R_api_Op) (cs := [.int .i64 (12), .string (txb ([115])), .string (txb ([])), .int .i64 (0), .int .i64 (0), .slice none (([] : List UInt8)).length 0]) (x := (12, [115], [], 0, 0, ([] : List UInt8))) (fun gg => ⟨_, _, rfl, rfl, ⟨_, _, rfl, rfl, ⟨_, _, rfl, rfl, ⟨_, _, rfl, rfl, ⟨_, _, rfl, rfl, ⟨_, _, rfl, (gg 0 _ rfl).choose_spec⟩⟩⟩⟩⟩⟩)
 obtain ⟨x12, ex12, hm⟩ := ob hm
 refine sd F rfl ent15 (w_nDo ex12 (H.pm 20 [5,0,0,1,2,3,4,5,6,7,8,9,10,11,12,13,14,15,16,17,18,19] rfl:):) ?_; rintro _ w a ⟨cs13, cs14, rfl, H⟩ F
 refine bb [0,0,0] F H rfl fun a F => ?_
 replace H := H.owNil rByte 5
 replace H := H.owNil rStr 9
 refine s_allocA wkP F rfl rfl rfl agz35 rfl H fun b15 w a H F => ?_
 refine s_storeA wkP F rfl rfl agg27 rfl rfl rfl H 17 rfl (H.rcLen 3 rfl) (H.rcLen 10 rfl) (H.rcFlat 3 rfl) fun w H => ?_
 refine s_storeA wkP F rfl rfl agg35 rfl rfl rfl H 0 rfl (H.rcLen 4 rfl) rfl (H.rcFlat 4 rfl) fun w H => ?_
 replace H := H.nf 25 rfl
 refine nl (sr (bk [17999] F H rfl ⟨rfl, (aggn agg27 (H.rcLen 3 rfl)), trivial⟩ fun a F => ?_))
 replace H := H.owNil rByte 5
 refine sv F rfl (y_build F rfl rfl (cs := [.int .i64 (9), .string (txb ([47,97])), .string (txb ([])), .int .i64 (0), .int .i64 (0), .slice none (([] : List UInt8)).length 0]) (by kernel_rfl)) fun a F => ?_
 replace H := H.frz 0 rfl
 replace H := H.mkRc (R := R_api_Op) (cs := [.int .i64 (9), .string (txb ([47,97])), .string (txb ([])), .int .i64 (0), .int .i64 (0), .slice none (([] : List UInt8)).length 0]) (x := (9, [47,97], [],0,0, ([] : List UInt8))) (fun gg => ⟨_, _, rfl, rfl, ⟨_, _, rfl, rfl, ⟨_, _, rfl, rfl, ⟨_, _, rfl, rfl, ⟨_, _, rfl, rfl, ⟨_, _, rfl, (gg 0 _ rfl).choose_spec⟩⟩⟩⟩⟩⟩)
 obtain ⟨x16, ex16, hm⟩ := ob hm
 refine sd F rfl ent15 (w_nDo ex16 (H.pm 27 [5,0,0,1,2,3,4,5,6,7,8,9,10,11,12,13,14,15,16,17,18,19,20,21,22,23,24,25,26] rfl:):) ?_; rintro _ w a ⟨cs17, cs18, rfl, H⟩ F
 refine bb [0,0,0] F H rfl fun a F => ?_
 replace H := H.owNil R_api_Pair 103
 replace H := H.owNil R_api_Snap 41
 refine s_allocA wkP F rfl rfl rfl agz27 rfl H fun b19 w a H F => ?_
 replace H := H.owNil rByte 5
 replace H := H.owNil rStr 9
 refine s_allocA wkP F rfl rfl rfl agz35 rfl H fun b20 w a H F => ?_
 refine s_storeA wkP F rfl rfl agg27 rfl rfl rfl H 3 rfl (H.rcLen 6 rfl) rfl (H.rcFlat 6 rfl) fun w H => ?_
 refine s_storeA wkP F rfl rfl agg35 rfl rfl rfl H 0 rfl (H.rcLen 7 rfl) rfl (H.rcFlat 7 rfl) fun w H => ?_
 replace H := H.nf 35 rfl
 refine nl (sr (bk [0] F H rfl ⟨fld35_0, trivial⟩ fun a F => ?_))
 have G := F; replace H := rc_api_Answer (H.pk 31 rfl); obtain ⟨p21, c22, p23, c24, rfl, H⟩ := H; have F := G; clear G
 refine bk [26000,0] F H rfl ⟨rfl, plain32, fld35_0, trivial⟩ fun a F => ?_
 have G := F; replace H := rc_api_Answer (H.pk 23 rfl); obtain ⟨p25, c26, p27, c28, rfl, H⟩ := H; have F := G; clear G
 refine bk [21000,0,0] F H rfl ⟨rfl, plain32, fld35_0, trivial⟩ fun a F => ?_
 have G := F; replace H := rc_api_Answer (H.pk 18 rfl); obtain ⟨p29, c30, p31, c32, rfl, H⟩ := H; have F := G; clear G
 refine bk [16000,0,0,0] F H rfl ⟨rfl, plain32, trivial⟩ fun a F => ?_
 rcases spP 40 F rfl hm with ⟨hg33, hm, F⟩ | ⟨hg33, hm, F⟩
 refine bk [0] F H rfl ⟨fld35_0, trivial⟩ fun a F => ?_
 refine g_onP F rfl rfl rfl rfl ?_
 have G := F; replace H := rc_api_Answer (H.pk 13 rfl); obtain ⟨p34, c35, p36, c37, rfl, H⟩ := H; have F := G; clear G
 refine bk [8000,0,0,0] F H rfl ⟨rfl, plain32, trivial⟩ fun a F => ?_
 rcases spP 45 F rfl hm with ⟨hg38, hm, F⟩ | ⟨hg38, hm, F⟩
 refine g_onP F rfl rfl rfl rfl ?_
 obtain ⟨x39, ex39, hm⟩ := ob hm
 refine sd F rfl ent14 (w_nNew ex39 H:) ?_; rintro _ w a ⟨cs40, rfl, H⟩ F
 refine g_onP F rfl rfl rfl rfl ?_
 obtain ⟨x41, ex41, hm⟩ := ob hm
 refine sd F rfl ent24 (w_nUnits ex41 (H.pm 40 [0,0,1,2,3,4,5,6,7,8,9,10,11,12,13,14,15,16,17,18,19,20,21,22,23,24,25,26,27,28,29,30,31,32,33,34,35,36,37,38,39] rfl:):) ?_; rintro _ w a ⟨rfl, H⟩ F
 refine bb [0,0,0] F H rfl fun a F => ?_
 replace H := H.nf 40 rfl
 refine nl (wr ?_)
 cases hm
 refine x_ret1 F rfl rfl ?_
 exact ⟨_, rfl, rfl, (H.pm 40 [] rfl:)⟩
 refine bb (List.replicate 5 0) F H rfl fun a F => ?_
 refine nl (wr ?_)
 cases hm
 refine x_ret1 F rfl rfl ?_
 exact ⟨_, rfl, rfl, (H.pm 39 [] rfl:)⟩
 refine bb (List.replicate 10 0) F H rfl fun a F => ?_
 refine nl (wr ?_)
 cases hm
 refine x_ret1 F rfl rfl ?_
 exact ⟨_, rfl, rfl, (H.pm 38 [] rfl:)⟩
end Go.Proofs.YtnagibpmfabkjaaGreatDoor
