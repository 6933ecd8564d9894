/- laws -/
import Derived.Test.YtohmcgmmphpgoaaGreatDoorFilesC
set_option linter.unusedSimpArgs false
set_option linter.unusedVariables false
namespace Go.Proofs.YtohmcgmmphpgoaaGreatDoor
open Go.RowKit Go.Tri
set_option maxRecDepth 100000 in
set_option maxHeartbeats 4000000 in
theorem w_rSamePairs {a_ : List T_api_Pair} {b_ : List T_api_Pair} {p1 : Option Addr} {c1 : Nat} {p2 : Option Addr} {c2 : Nat} {w0 w : World} {l : List HP}  {r : Bool} (hm : rSamePairs a_ b_ = some r) (H : St w0 w (HP.sl R_api_Pair p1 c1 a_ :: HP.sl R_api_Pair p2 c2 b_ :: l)) :
  Calls Tryz.prog 19 [.slice p1 (a_).length c1, .slice p2 (b_).length c2].toArray w (fun e w' => ∃ v, e = .returned v ∧ v = .bool (r) ∧ St w0 w' (l)) := by
 unfold rSamePairs at hm
 refine x_enter Tryz.func19 rfl rfl rfl ?_
 intro a F
 refine sr (bk [0] F H rfl trivial ?_); clear F; intro a F
 refine nl (sq (sr (bk (List.replicate 5 0) F H rfl ⟨⟨_, Tryz.underlying22⟩, ⟨_, Tryz.underlying22⟩, trivial⟩ ?_))); clear F; intro a F
 refine nl (cN F rfl (fun hg3 => ?_) (fun hg3 => ?_))
 replace hm := ifF hg3 hm
 refine sr (bk [0] F H rfl trivial ?_); clear F; intro a F
 refine nl (wr (tr ?_))
 cases hm
 refine x_ret1 F rfl rfl ?_
 exact ⟨_, rfl, rfl, (H.pm 2 [] rfl:)⟩
 replace hm := ifT hg3 hm
 refine sk (ct (sq (sr (bk [0] F H rfl trivial ?_)))); clear F; intro a F
 refine nl ?_
 obtain ⟨o92, eo92, hm92⟩ := ob hm; clear hm; revert eo92; intro hm
 refine x_mid (fun aa ww => ∃ r92, o92 = Sum.inl r92 ∧ Fr ⟨45, []⟩ aa [] ∧ St w0 ww (l)) ?_ ?_
 refine bl (x_loopO _ (fun (s151 : Int) aa ww => Fr ⟨45, []⟩ aa [(0, .slice p1 (a_).length c1), (1, .slice p2 (b_).length c2), (5, .int .i64 (s151))] ∧ St w0 ww (HP.sl R_api_Pair p1 c1 a_ :: HP.sl R_api_Pair p2 c2 b_ :: l)) hm ⟨F.sl rfl, H⟩ ?_)
 clear F H hm
 rintro s151 a w o ⟨F, H⟩ hm
 refine sq (sr (bk [0, 0, 0, 0] F H rfl ⟨⟨_, Tryz.underlying22⟩, trivial⟩ ?_)); clear F; intro a F
 refine nl (cP F rfl (fun hg152 => ?_) (fun hg152 => ?_))
 replace hm := ifT hg152 hm
 refine sk (ct (sq (bl (sq ?_))))
 obtain ⟨x153, ex153, hm⟩ := ob hm
 obtain ⟨b154, o154, hp154⟩ := H.slP 0 rfl (idxO_some ex153).2
 obtain ⟨cs155, hcl155, H⟩ := H.slEl 0 rfl hp154 (idxO_some ex153).2
 clear hcl155
 replace H := rc_api_Pair (H.pk 1 rfl); obtain ⟨p156, c157, p158, c159, rfl, H⟩ := H
 obtain ⟨x160, ex160, hm⟩ := ob hm
 obtain ⟨b161, o161, hp161⟩ := H.slP 4 rfl (idxO_some ex160).2
 obtain ⟨cs162, hcl162, H⟩ := H.slEl 4 rfl hp161 (idxO_some ex160).2
 clear hcl162
 replace H := rc_api_Pair (H.pk 1 rfl); obtain ⟨p163, c164, p165, c166, rfl, H⟩ := H
 by_cases hg167 : x153.1 = x160.1
 replace hm := ifT hg167 hm
 obtain ⟨x168, ex168, hm⟩ := ob hm
 obtain ⟨cs169, hcl169, H⟩ := H.slEl 6 rfl hp154 (idxO_some ex168).2
 clear hcl169
 replace H := rc_api_Pair (H.pk 1 rfl); obtain ⟨p170, c171, p172, c173, rfl, H⟩ := H
 obtain ⟨x174, ex174, hm⟩ := ob hm
 obtain ⟨cs175, hcl175, H⟩ := H.slEl 10 rfl hp161 (idxO_some ex174).2
 clear hcl175
 replace H := rc_api_Pair (H.pk 1 rfl); obtain ⟨p176, c177, p178, c179, rfl, H⟩ := H
 refine qr H (by kernel_rfl) (by kernel_rfl) ?_
 refine qbk [0, 0] F rfl trivial ?_; clear F; intro a F
 refine q_val F rfl rfl rfl (fun u hu => y_idxS F elem22 rfl rfl rfl hp154 ex153) ?_; clear F; intro a F
 refine qbk [0, 11000] F rfl ⟨fld60_0, rfl, plain23, trivial⟩ ?_; clear F; intro a F
 refine q_val F rfl rfl rfl (fun u hu => y_b2s F Tryz.underlying23 Tryz.underlying9 Tryz.underlying5 rfl rfl (hu) 9 rfl) ?_; clear F; intro a F
 refine qbk [0, 0] F rfl trivial ?_; clear F; intro a F
 refine q_val F rfl rfl rfl (fun u hu => y_idxS F elem22 rfl rfl rfl hp161 ex160) ?_; clear F; intro a F
 refine qbk [0, 8000] F rfl ⟨fld60_0, rfl, plain23, trivial⟩ ?_; clear F; intro a F
 refine q_val F rfl rfl rfl (fun u hu => y_b2s F Tryz.underlying23 Tryz.underlying9 Tryz.underlying5 rfl rfl (hu) 6 rfl) ?_; clear F; intro a F
 refine q_val F rfl rfl rfl (fun u hu => y_neT (l := x153.1) (m := x160.1) F rfl rfl rfl) ?_; clear F; intro a F
 refine qbk [0] F rfl trivial ?_; clear F; intro a F
 replace F := F.nT 30 hg167 rfl
 refine qbk [0, 0] F rfl trivial ?_; clear F; intro a F
 refine qg_on F rfl rfl rfl rfl ?_
 refine q_val F rfl rfl rfl (fun u hu => y_idxS F elem22 rfl rfl rfl hp154 ex168) ?_; clear F; intro a F
 refine qbk [1, 5001] F rfl ⟨fld60_1, rfl, plain23, trivial⟩ ?_; clear F; intro a F
 refine qg_on F rfl rfl rfl rfl ?_
 refine q_val F rfl rfl rfl (fun u hu => y_b2s F Tryz.underlying23 Tryz.underlying9 Tryz.underlying5 rfl rfl (hu) 4 rfl) ?_; clear F; intro a F
 refine qbk [0, 0] F rfl trivial ?_; clear F; intro a F
 refine qg_on F rfl rfl rfl rfl ?_
 refine q_val F rfl rfl rfl (fun u hu => y_idxS F elem22 rfl rfl rfl hp161 ex174) ?_; clear F; intro a F
 refine qbk [1, 2001] F rfl ⟨fld60_1, rfl, plain23, trivial⟩ ?_; clear F; intro a F
 refine qg_on F rfl rfl rfl rfl ?_
 refine q_val F rfl rfl rfl (fun u hu => y_b2s F Tryz.underlying23 Tryz.underlying9 Tryz.underlying5 rfl rfl (hu) 1 rfl) ?_; clear F; intro a F
 refine qg_on F rfl rfl rfl rfl ?_
 refine q_val F rfl rfl rfl (fun u hu => y_neT (l := x168.2) (m := x174.2) F rfl rfl rfl) ?_; clear F; intro a F
 refine qbk [0] F rfl trivial ?_; clear F; intro a F
 refine q_nil ?_; clear H; intro w H
 refine ct (cN F rfl (fun hg180 => ?_) (fun hg180 => ?_))
 replace hm := ifF hg180 hm
 refine sr (bk [0] F H rfl trivial ?_); clear F; intro a F
 refine nl (wr (br (tr (tr ?_)))); cases hm; refine ⟨_, rfl, ?_⟩; rintro rfl
 refine br (tr ?_)
 replace hm := elimR hm92
 refine tr ?_
 cases hm
 refine x_ret1 F rfl rfl ?_
 exact ⟨_, rfl, rfl, (H.pm 14 [] rfl:)⟩
 replace hm := ifT hg180 hm
 refine sk (bn (ct (rl (bk [0, 0, 0] F H rfl trivial ?_)))); clear F; intro a F
 refine lz (ct ?_); cases hm
 exact ⟨_, rfl, ⟨F.sl rfl, (H.pm 14 [12, 13] rfl:)⟩⟩
 replace hm := ifF hg167 hm
 refine qr H (by kernel_rfl) (by kernel_rfl) ?_
 refine qbk [0, 0] F rfl trivial ?_; clear F; intro a F
 refine q_val F rfl rfl rfl (fun u hu => y_idxS F elem22 rfl rfl rfl hp154 ex153) ?_; clear F; intro a F
 refine qbk [0, 5000] F rfl ⟨fld60_0, rfl, plain23, trivial⟩ ?_; clear F; intro a F
 refine q_val F rfl rfl rfl (fun u hu => y_b2s F Tryz.underlying23 Tryz.underlying9 Tryz.underlying5 rfl rfl (hu) 3 rfl) ?_; clear F; intro a F
 refine qbk [0, 0] F rfl trivial ?_; clear F; intro a F
 refine q_val F rfl rfl rfl (fun u hu => y_idxS F elem22 rfl rfl rfl hp161 ex160) ?_; clear F; intro a F
 refine qbk [0, 2000] F rfl ⟨fld60_0, rfl, plain23, trivial⟩ ?_; clear F; intro a F
 refine q_val F rfl rfl rfl (fun u hu => y_b2s F Tryz.underlying23 Tryz.underlying9 Tryz.underlying5 rfl rfl (hu) 0 rfl) ?_; clear F; intro a F
 refine q_val F rfl rfl rfl (fun u hu => y_neT (l := x153.1) (m := x160.1) F rfl rfl rfl) ?_; clear F; intro a F
 refine qbk [0] F rfl trivial ?_; clear F; intro a F
 replace F := F.nF 30 hg167 rfl
 refine qbk (List.replicate 14 0) F rfl trivial ?_; clear F; intro a F
 refine q_nil ?_; clear H; intro w H
 refine ct (cT F rfl ?_)
 refine sr (bk [0] F H rfl trivial ?_); clear F; intro a F
 refine nl (wr (br (tr (tr ?_)))); cases hm; refine ⟨_, rfl, ?_⟩; rintro rfl
 refine br (tr ?_)
 replace hm := elimR hm92
 refine tr ?_
 cases hm
 refine x_ret1 F rfl rfl ?_
 exact ⟨_, rfl, rfl, (H.pm 8 [] rfl:)⟩
 replace hm := ifF hg152 hm
 refine ex (cx (cx ?_)); cases hm; refine ⟨_, rfl, ?_⟩; rintro rfl
 refine ch (ct ?_)
 exact ⟨_, rfl, F.cut _ trivial, (H.pm 2 [] rfl:)⟩
 clear F H hm
 rintro a w ⟨r92, rfl, F, H⟩; have hm := elimL hm92; clear hm92
 refine ct (sr (bk [0] F H rfl trivial ?_)); clear F; intro a F
 refine nl (wr ?_)
 cases hm
 refine x_ret1 F rfl rfl ?_
 exact ⟨_, rfl, rfl, H⟩
set_option maxRecDepth 100000 in
set_option maxHeartbeats 4000000 in
theorem w_rGreatOp {o : T_api_Op} {cs1 : List Value} {w0 w : World} {l : List HP}  {r : Bool} (hm : rGreatOp o = some r) (H : St w0 w (HP.rc R_api_Op cs1 o :: l)) :
  Calls Tryz.prog 24 [.agg cs1.toArray].toArray w (fun e w' => ∃ v, e = .returned v ∧ v = .bool (r) ∧ St w0 w' (l)) := by
 unfold rGreatOp at hm
 refine x_enter Tryz.func24 rfl rfl rfl ?_
 intro a F
 refine sr (s_boxA wkP F rfl rfl rfl rfl rfl H ?_); clear F H; intro b2 w a H F
 refine bk [0] F H rfl trivial ?_; clear F; intro a F
 replace H := H.nf 2 rfl
 refine nl (sr (bk [1] F H rfl ⟨fld25_1, trivial⟩ ?_)); clear F; intro a F
 replace H := rc_api_Op (H.pk 1 rfl); obtain ⟨p3, c4, rfl, H⟩ := H
 refine bk [1001] F H rfl ⟨rfl, plain9, trivial⟩ ?_; clear F; intro a F
 refine s_val wkP F rfl rfl rfl rfl (y_lenT (l := o.2.1) F rfl Tryz.underlying9 rfl) ?_; clear F; intro a F
 refine bk [0, 0] F H rfl trivial ?_; clear F; intro a F
 by_cases hg5 : 400 < ((o.2.1).length : Int)
 replace hm := ifT hg5 hm
 replace F := F.bT 7 hg5 rfl
 refine bk (List.replicate 12 0) F H rfl trivial ?_; clear F; intro a F
 refine nl (wr ?_)
 cases hm
 refine x_ret1 F rfl rfl ?_
 exact ⟨_, rfl, rfl, (H.pm 2 [] rfl:)⟩
 replace hm := ifF hg5 hm
 replace F := F.bF 7 hg5 rfl
 refine bk [2, 1002] F H rfl ⟨fld25_2, rfl, plain9, trivial⟩ ?_; clear F; intro a F
 refine g_onP F rfl rfl rfl rfl ?_
 refine s_val wkP F rfl rfl rfl rfl (y_lenT (l := o.2.2.1) F rfl Tryz.underlying9 rfl) ?_; clear F; intro a F
 refine bk [0, 0, 0] F H rfl trivial ?_; clear F; intro a F
 by_cases hg6 : 400 < ((o.2.2.1).length : Int)
 replace hm := ifT hg6 hm
 replace F := F.bT 13 hg6 rfl
 refine bk (List.replicate 6 0) F H rfl trivial ?_; clear F; intro a F
 refine nl (wr ?_)
 cases hm
 refine x_ret1 F rfl rfl ?_
 exact ⟨_, rfl, rfl, (H.pm 2 [] rfl:)⟩
 replace hm := ifF hg6 hm
 replace F := F.bF 13 hg6 rfl
 refine bk [5, 1005, 0, 0, 0, 0] F H rfl ⟨fld25_5, rfl, plain23, ⟨_, Tryz.underlying23⟩, trivial⟩ ?_; clear F; intro a F
 refine nl (wr ?_)
 cases hm
 refine x_ret1 F rfl rfl ?_
 exact ⟨_, rfl, rfl, (H.pm 2 [] rfl:)⟩
set_option maxRecDepth 100000 in
set_option maxHeartbeats 4000000 in
theorem w_rSameT {a_ : List (List UInt8)} {b_ : List (List UInt8)} {p1 : Option Addr} {c1 : Nat} {p2 : Option Addr} {c2 : Nat} {w0 w : World} {l : List HP}  {r : Bool} (hm : rSameT a_ b_ = some r) (H : St w0 w (HP.sl rStr p1 c1 a_ :: HP.sl rStr p2 c2 b_ :: l)) :
  Calls Tryz.prog 44 [.slice p1 (a_).length c1, .slice p2 (b_).length c2].toArray w (fun e w' => ∃ v, e = .returned v ∧ v = .bool (r) ∧ St w0 w' (l)) := by
 unfold rSameT at hm
 refine x_enter Tryz.func44 rfl rfl rfl ?_
 intro a F
 refine sr (bk [0] F H rfl trivial ?_); clear F; intro a F
 refine nl (sq (sr (bk (List.replicate 5 0) F H rfl ⟨⟨_, Tryz.underlying35⟩, ⟨_, Tryz.underlying35⟩, trivial⟩ ?_))); clear F; intro a F
 refine nl (cN F rfl (fun hg3 => ?_) (fun hg3 => ?_))
 replace hm := ifF hg3 hm
 refine sr (bk [0] F H rfl trivial ?_); clear F; intro a F
 refine nl (wr (tr ?_))
 cases hm
 refine x_ret1 F rfl rfl ?_
 exact ⟨_, rfl, rfl, (H.pm 2 [] rfl:)⟩
 replace hm := ifT hg3 hm
 refine sk (ct (sq (sr (bk [0] F H rfl trivial ?_)))); clear F; intro a F
 refine nl ?_
 obtain ⟨o29, eo29, hm29⟩ := ob hm; clear hm; revert eo29; intro hm
 refine x_mid (fun aa ww => ∃ r29, o29 = Sum.inl r29 ∧ Fr ⟨26, []⟩ aa [] ∧ St w0 ww (l)) ?_ ?_
 refine bl (x_loopO _ (fun (s46 : Int) aa ww => Fr ⟨26, []⟩ aa [(0, .slice p1 (a_).length c1), (1, .slice p2 (b_).length c2), (5, .int .i64 (s46))] ∧ St w0 ww (HP.sl rStr p1 c1 a_ :: HP.sl rStr p2 c2 b_ :: l)) hm ⟨F.sl rfl, H⟩ ?_)
 clear F H hm
 rintro s46 a w o ⟨F, H⟩ hm
 refine sq (sr (bk [0, 0, 0, 0] F H rfl ⟨⟨_, Tryz.underlying35⟩, trivial⟩ ?_)); clear F; intro a F
 refine nl (cP F rfl (fun hg47 => ?_) (fun hg47 => ?_))
 replace hm := ifT hg47 hm
 refine sk (ct (sq (bl (sq ?_))))
 obtain ⟨x48, ex48, hm⟩ := ob hm
 obtain ⟨b49, o49, hp49⟩ := H.slP 0 rfl (idxO_some ex48).2
 obtain ⟨cs50, hcl50, H⟩ := H.slEl 0 rfl hp49 (idxO_some ex48).2
 obtain rfl := H.rcStr 1 rfl
 replace H := H.dp 1 rfl
 clear hcl50
 obtain ⟨x51, ex51, hm⟩ := ob hm
 obtain ⟨b52, o52, hp52⟩ := H.slP 2 rfl (idxO_some ex51).2
 obtain ⟨cs53, hcl53, H⟩ := H.slEl 2 rfl hp52 (idxO_some ex51).2
 obtain rfl := H.rcStr 1 rfl
 replace H := H.dp 1 rfl
 clear hcl53
 refine qr H (by kernel_rfl) (by kernel_rfl) ?_
 refine qbk [0, 0] F rfl trivial ?_; clear F; intro a F
 refine q_val F rfl rfl rfl (fun u hu => y_idxS F elem35 rfl rfl rfl hp49 ex48) ?_; clear F; intro a F
 refine qbk [1000, 0, 0] F rfl ⟨rfl, plain9, trivial⟩ ?_; clear F; intro a F
 refine q_val F rfl rfl rfl (fun u hu => y_idxS F elem35 rfl rfl rfl hp52 ex51) ?_; clear F; intro a F
 refine qbk [0] F rfl ⟨rfl, plain9, trivial⟩ ?_; clear F; intro a F
 refine q_val F rfl rfl rfl (fun u hu => y_neT (l := x48) (m := x51) F rfl rfl rfl) ?_; clear F; intro a F
 refine q_nil ?_; clear H; intro w H
 refine ct (cN F rfl (fun hg54 => ?_) (fun hg54 => ?_))
 replace hm := ifF hg54 hm
 refine sr (bk [0] F H rfl trivial ?_); clear F; intro a F
 refine nl (wr (br (tr (tr ?_)))); cases hm; refine ⟨_, rfl, ?_⟩; rintro rfl
 refine br (tr ?_)
 replace hm := elimR hm29
 refine tr ?_
 cases hm
 refine x_ret1 F rfl rfl ?_
 exact ⟨_, rfl, rfl, (H.pm 4 [] rfl:)⟩
 replace hm := ifT hg54 hm
 refine sk (bn (ct (rl (bk [0, 0, 0] F H rfl trivial ?_)))); clear F; intro a F
 refine lz (ct ?_); cases hm
 exact ⟨_, rfl, ⟨F.sl rfl, (H.pm 4 [2, 3] rfl:)⟩⟩
 replace hm := ifF hg47 hm
 refine ex (cx (cx ?_)); cases hm; refine ⟨_, rfl, ?_⟩; rintro rfl
 refine ch (ct ?_)
 exact ⟨_, rfl, F.cut _ trivial, (H.pm 2 [] rfl:)⟩
 clear F H hm
 rintro a w ⟨r29, rfl, F, H⟩; have hm := elimL hm29; clear hm29
 refine ct (sr (bk [0] F H rfl trivial ?_)); clear F; intro a F
 refine nl (wr ?_)
 cases hm
 refine x_ret1 F rfl rfl ?_
 exact ⟨_, rfl, rfl, H⟩
theorem plain35 : Plain Tryz.prog 35 := by unfold Plain; rw [Tryz.underlying35]; rfl
theorem ent44 : ∀ args w, (callFunc 44 args).run Tryz.prog w = .ok (.enter 44 args) w := enters Tryz.func44 (by kernel_rfl) rfl
set_option maxRecDepth 100000 in
set_option maxHeartbeats 4000000 in
theorem w_rSameAns {a_ : T_api_Answer} {b_ : T_api_Answer} {cs1 : List Value} {cs2 : List Value} {w0 w : World} {l : List HP}  {r : Bool} (hm : rSameAns a_ b_ = some r) (H : St w0 w (HP.rc R_api_Answer cs1 a_ :: HP.rc R_api_Answer cs2 b_ :: l)) :
  Calls Tryz.prog 18 [.agg cs1.toArray, .agg cs2.toArray].toArray w (fun e w' => ∃ v, e = .returned v ∧ v = .bool (r) ∧ St w0 w' (l)) := by
 unfold rSameAns at hm
 refine x_enter Tryz.func18 rfl rfl rfl ?_
 intro a F
 refine sr (s_boxA wkP F rfl rfl rfl rfl rfl H ?_); clear F H; intro b3 w a H F
 refine s_boxA wkP F rfl rfl rfl rfl rfl H ?_; clear F H; intro b4 w a H F
 refine bk [0] F H rfl trivial ?_; clear F; intro a F
 replace H := H.nf 4 rfl
 refine nl (sr (bk [0] F H rfl ⟨fld37_0, trivial⟩ ?_)); clear F; intro a F
 replace H := rc_api_Answer (H.pk 2 rfl); obtain ⟨p5, c6, p7, c8, rfl, H⟩ := H
 refine bk [3000, 0] F H rfl ⟨rfl, plain33, fld37_0, trivial⟩ ?_; clear F; intro a F
 replace H := rc_api_Answer (H.pk 4 rfl); obtain ⟨p9, c10, p11, c12, rfl, H⟩ := H
 refine bk [4000, 0, 0] F H rfl ⟨rfl, plain33, trivial⟩ ?_; clear F; intro a F
 by_cases hg13 : a_.1 = b_.1
 replace hm := ifT hg13 hm
 replace F := F.bT 10 hg13 rfl
 refine bk [1, 5001, 1, 4001, 0, 0, 0] F H rfl ⟨fld37_1, rfl, plain3, fld37_1, rfl, plain3, trivial⟩ ?_; clear F; intro a F
 by_cases hg14 : a_.2.1 = b_.2.1
 replace hm := ifT hg14 hm
 replace F := F.bT 17 hg14 rfl
 refine bk [2, 5002] F H rfl ⟨fld37_2, rfl, plain23, trivial⟩ ?_; clear F; intro a F
 refine g_onP F rfl rfl rfl rfl ?_
 refine s_val wkP F rfl rfl rfl rfl (y_b2s F Tryz.underlying23 Tryz.underlying9 Tryz.underlying5 rfl rfl (H) 2 rfl) ?_; clear F; intro a F
 refine bk [2, 4002] F H rfl ⟨fld37_2, rfl, plain23, trivial⟩ ?_; clear F; intro a F
 refine g_onP F rfl rfl rfl rfl ?_
 refine s_val wkP F rfl rfl rfl rfl (y_b2s F Tryz.underlying23 Tryz.underlying9 Tryz.underlying5 rfl rfl (H) 0 rfl) ?_; clear F; intro a F
 refine g_onP F rfl rfl rfl rfl ?_
 refine s_val wkP F rfl rfl rfl rfl (y_eqT (l := a_.2.2.1) (m := b_.2.2.1) F rfl rfl rfl) ?_; clear F; intro a F
 refine bk [0, 0] F H rfl trivial ?_; clear F; intro a F
 by_cases hg15 : a_.2.2.1 = b_.2.2.1
 replace hm := ifT hg15 hm
 replace F := F.bT 26 hg15 rfl
 refine bk [3, 5003, 3, 4003] F H rfl ⟨fld37_3, rfl, plain35, fld37_3, rfl, plain35, trivial⟩ ?_; clear F; intro a F
 refine g_onP F rfl rfl rfl rfl ?_
 obtain ⟨x16, ex16, hm⟩ := ob hm
 refine sc wkP F rfl ent44 (w_rSameT ex16 (H.pm 6 [3, 1, 0, 1, 2, 3, 4, 5] rfl:):) ?_; clear F H; rintro _ w a ⟨rfl, H⟩ F
 refine bk [0, 0] F H rfl trivial ?_; clear F; intro a F
 replace H := H.nf 6 rfl
 refine nl (wr ?_)
 cases hm
 refine x_ret1 F rfl rfl ?_
 exact ⟨_, rfl, rfl, (H.pm 6 [] rfl:)⟩
 replace hm := ifF hg15 hm
 replace F := F.bF 26 hg15 rfl
 refine bk (List.replicate 7 0) F H rfl trivial ?_; clear F; intro a F
 refine nl (wr ?_)
 cases hm
 refine x_ret1 F rfl rfl ?_
 exact ⟨_, rfl, rfl, (H.pm 6 [] rfl:)⟩
 replace hm := ifF hg14 hm
 replace F := F.bF 17 hg14 rfl
 refine bk (List.replicate 16 0) F H rfl trivial ?_; clear F; intro a F
 refine nl (wr ?_)
 cases hm
 refine x_ret1 F rfl rfl ?_
 exact ⟨_, rfl, rfl, (H.pm 6 [] rfl:)⟩
 replace hm := ifF hg13 hm
 replace F := F.bF 10 hg13 rfl
 refine bk (List.replicate 23 0) F H rfl trivial ?_; clear F; intro a F
 refine nl (wr ?_)
 cases hm
 refine x_ret1 F rfl rfl ?_
 exact ⟨_, rfl, rfl, (H.pm 6 [] rfl:)⟩
theorem ent23 : ∀ args w, (callFunc 23 args).run Tryz.prog w = .ok (.enter 23 args) w := enters Tryz.func23 (by kernel_rfl) rfl
theorem ent16 : ∀ args w, (callFunc 16 args).run Tryz.prog w = .ok (.enter 16 args) w := enters Tryz.func16 (by kernel_rfl) rfl
set_option maxRecDepth 100000 in
set_option maxHeartbeats 4000000 in
theorem w_lSpeaks   {w0 w : World} {l : List HP}  {r : Bool} (hm : lSpeaks  = some r) (H : St w0 w (l)) :
  Calls Tryz.prog 10 [].toArray w (fun e w' => ∃ v, e = .returned v ∧ v = .bool (r) ∧ St w0 w' (l)) := by
 unfold lSpeaks at hm
 refine x_enter Tryz.func10 rfl rfl rfl ?_
 intro a F
 refine sr (bk [0] F H rfl trivial ?_); clear F; intro a F
 refine nl (sr ?_)
 obtain ⟨x1, ex1, hm⟩ := ob hm
 refine sc wkP F rfl ent23 (w_fNew ex1 H:) ?_; clear F H; rintro _ w a ⟨p2, c2, rfl, H⟩ F
 replace H := H.owNil rByte 5
 refine s_val wkP F rfl rfl rfl rfl (y_build F rfl rfl (cs := [.int .i64 (2), .string (txb ([47, 97])), .string (txb ([])), .int .i64 (0), .int .i64 (0), .slice none (([] : List UInt8)).length 0]) (by kernel_rfl)) ?_; clear F; intro a F
 replace H := H.frz 0 rfl
 replace H := H.mkRc (R := R_api_Op) (cs := [.int .i64 (2), .string (txb ([47, 97])), .string (txb ([])), .int .i64 (0), .int .i64 (0), .slice none (([] : List UInt8)).length 0]) (x := (2, [47, 97], [], 0, 0, ([] : List UInt8))) (fun gg => ⟨_, _, rfl, rfl, ⟨_, _, rfl, rfl, ⟨_, _, rfl, rfl, ⟨_, _, rfl, rfl, ⟨_, _, rfl, rfl, ⟨_, _, rfl, (gg 0 _ rfl).choose_spec⟩⟩⟩⟩⟩⟩)
 obtain ⟨x3, ex3, hm⟩ := ob hm
 refine sc wkP F rfl ent16 (w_fDo ex3 (H.pm 3 [2, 0, 0, 1, 2] rfl:):) ?_; clear F H; rintro _ w a ⟨p4, c4, cs5, rfl, H⟩ F
 refine bk [0, 0, 0] F H rfl trivial ?_; clear F; intro a F
 replace H := H.owNil rByte 5
 replace H := H.owNil rStr 9
 refine s_allocA wkP F rfl rfl rfl agz37 rfl H ?_; clear F H; intro b6 w a H F
 refine bk [0] F H rfl trivial ?_; clear F; intro a F
 refine s_storeA wkP F rfl rfl agg37 rfl rfl rfl H 0 rfl (H.rcLen 4 rfl) (by simp only [List.length_append, List.length_cons, List.length_nil, icells_length, bcells_length]) (H.rcFlat 4 rfl) ?_; clear H; intro w H
 replace H := H.nf 8 rfl
 refine nl (sr (bk [0] F H rfl trivial ?_)); clear F; intro a F
 replace H := H.owNil rByte 5
 refine s_val wkP F rfl rfl rfl rfl (y_build F rfl rfl (cs := [.int .i64 (1), .string (txb ([47, 97, 47, 98])), .string (txb ([])), .int .i64 (0), .int .i64 (0), .slice none (([] : List UInt8)).length 0]) (by kernel_rfl)) ?_; clear F; intro a F
 replace H := H.frz 0 rfl
 replace H := H.mkRc (R := R_api_Op) (cs := [.int .i64 (1), .string (txb ([47, 97, 47, 98])), .string (txb ([])), .int .i64 (0), .int .i64 (0), .slice none (([] : List UInt8)).length 0]) (x := (1, [47, 97, 47, 98], [], 0, 0, ([] : List UInt8))) (fun gg => ⟨_, _, rfl, rfl, ⟨_, _, rfl, rfl, ⟨_, _, rfl, rfl, ⟨_, _, rfl, rfl, ⟨_, _, rfl, rfl, ⟨_, _, rfl, (gg 0 _ rfl).choose_spec⟩⟩⟩⟩⟩⟩)
 obtain ⟨x7, ex7, hm⟩ := ob hm
 refine sc wkP F rfl ent16 (w_fDo ex7 (H.pm 10 [5, 0, 0, 1, 2, 3, 4, 5, 6, 7, 8, 9] rfl:):) ?_; clear F H; rintro _ w a ⟨p8, c8, cs9, rfl, H⟩ F
 refine bk [0, 0, 0] F H rfl trivial ?_; clear F; intro a F
 replace H := H.owNil rByte 5
 replace H := H.owNil rStr 9
 refine s_allocA wkP F rfl rfl rfl agz37 rfl H ?_; clear F H; intro b10 w a H F
 refine bk [0] F H rfl trivial ?_; clear F; intro a F
 refine s_storeA wkP F rfl rfl agg37 rfl rfl rfl H 0 rfl (H.rcLen 4 rfl) (by simp only [List.length_append, List.length_cons, List.length_nil, icells_length, bcells_length]) (H.rcFlat 4 rfl) ?_; clear H; intro w H
 replace H := H.nf 15 rfl
 refine nl (sr (bk [0] F H rfl trivial ?_)); clear F; intro a F
 obtain ⟨x12, ex12, hm⟩ := ob hm
 obtain ⟨x13, ex13, hm⟩ := ob hm
 refine s_buildC wkP F rfl rfl rfl elem23 zero5 rfl rfl rfl rfl (by simp [Value.cells]) (by decide) H ?_; clear F H; intro b11 w a H F
 replace H : St w0 w (HP.ow rByte 5 (some ⟨b11, 0, none⟩) (([x12, x13]).length) ([x12, x13]) :: HP.blk b10 (cs9) 37 :: HP.ow rStr 9 none 0 ([] : List (List UInt8)) :: HP.ow rByte 5 none 0 ([] : List UInt8) :: HP.sl R_api_Pair p8 c8 x7.1 :: HP.rc R_api_Answer cs9 x7.2 :: HP.rc R_api_Op ([.int .i64 (1), .string (txb ([47, 97, 47, 98])), .string (txb ([])), .int .i64 (0), .int .i64 (0), .slice none (([] : List UInt8)).length 0]) (1, [47, 97, 47, 98], [], 0, 0, ([] : List UInt8)) :: HP.sl rByte none 0 ([] : List UInt8) :: HP.blk b6 (cs5) 37 :: HP.ow rStr 9 none 0 ([] : List (List UInt8)) :: HP.ow rByte 5 none 0 ([] : List UInt8) :: HP.sl R_api_Pair p4 c4 x3.1 :: HP.rc R_api_Answer cs5 x3.2 :: HP.rc R_api_Op ([.int .i64 (2), .string (txb ([47, 97])), .string (txb ([])), .int .i64 (0), .int .i64 (0), .slice none (([] : List UInt8)).length 0]) (2, [47, 97], [], 0, 0, ([] : List UInt8)) :: HP.sl rByte none 0 ([] : List UInt8) :: HP.sl R_api_Pair p2 c2 x1 :: l) := H.blkOw (R := rByte) 0 rfl (fun gg => ⟨[[.int .u8 (120)], [.int .u8 (121)]], rfl, (congrArg (fun z => [Value.int .u8 z]) (u8O_some ex12).symm), (congrArg (fun z => [Value.int .u8 z]) (u8O_some ex13).symm), trivial⟩) (by simp)
 refine s_convSl wkP F rfl rfl rfl Tryz.underlying23 Tryz.underlying5 rfl rfl H 0 rfl ?_; clear F H; intro w a H F
 refine s_val wkP F rfl rfl rfl rfl (y_build F rfl rfl (cs := [.int .i64 (3), .string (txb ([47, 97, 47, 98])), .string (txb ([])), .int .i64 (2), .int .i64 (0), .slice (some ⟨b11, 0, none⟩) ([x12, x13]).length (([x12, x13]).length)]) (by kernel_rfl)) ?_; clear F; intro a F
 replace H := H.mkRc (R := R_api_Op) (cs := [.int .i64 (3), .string (txb ([47, 97, 47, 98])), .string (txb ([])), .int .i64 (2), .int .i64 (0), .slice (some ⟨b11, 0, none⟩) ([x12, x13]).length (([x12, x13]).length)]) (x := (3, [47, 97, 47, 98], [], 2, 0, [x12, x13])) (fun gg => ⟨_, _, rfl, rfl, ⟨_, _, rfl, rfl, ⟨_, _, rfl, rfl, ⟨_, _, rfl, rfl, ⟨_, _, rfl, rfl, ⟨_, _, rfl, (gg 0 _ rfl).choose_spec⟩⟩⟩⟩⟩⟩)
 obtain ⟨x14, ex14, hm⟩ := ob hm
 refine sc wkP F rfl ent16 (w_fDo ex14 (H.pm 17 [5, 0, 0, 1, 2, 3, 4, 5, 6, 7, 8, 9, 10, 11, 12, 13, 14, 15, 16] rfl:):) ?_; clear F H; rintro _ w a ⟨p15, c15, cs16, rfl, H⟩ F
 refine bk [0, 0, 0] F H rfl trivial ?_; clear F; intro a F
 replace H := H.owNil rByte 5
 replace H := H.owNil rStr 9
 refine s_allocA wkP F rfl rfl rfl agz37 rfl H ?_; clear F H; intro b17 w a H F
 refine bk [0] F H rfl trivial ?_; clear F; intro a F
 refine s_storeA wkP F rfl rfl agg37 rfl rfl rfl H 0 rfl (H.rcLen 4 rfl) (by simp only [List.length_append, List.length_cons, List.length_nil, icells_length, bcells_length]) (H.rcFlat 4 rfl) ?_; clear H; intro w H
 replace H := H.nf 22 rfl
 refine nl (sr (bk [0] F H rfl trivial ?_)); clear F; intro a F
 replace H := H.owNil rByte 5
 refine s_val wkP F rfl rfl rfl rfl (y_build F rfl rfl (cs := [.int .i64 (5), .string (txb ([47, 97, 47, 98])), .string (txb ([])), .int .i64 (0), .int .i64 (9), .slice none (([] : List UInt8)).length 0]) (by kernel_rfl)) ?_; clear F; intro a F
 replace H := H.frz 0 rfl
 replace H := H.mkRc (R := R_api_Op) (cs := [.int .i64 (5), .string (txb ([47, 97, 47, 98])), .string (txb ([])), .int .i64 (0), .int .i64 (9), .slice none (([] : List UInt8)).length 0]) (x := (5, [47, 97, 47, 98], [], 0, 9, ([] : List UInt8))) (fun gg => ⟨_, _, rfl, rfl, ⟨_, _, rfl, rfl, ⟨_, _, rfl, rfl, ⟨_, _, rfl, rfl, ⟨_, _, rfl, rfl, ⟨_, _, rfl, (gg 0 _ rfl).choose_spec⟩⟩⟩⟩⟩⟩)
 obtain ⟨x18, ex18, hm⟩ := ob hm
 refine sc wkP F rfl ent16 (w_fDo ex18 (H.pm 24 [5, 0, 0, 1, 2, 3, 4, 5, 6, 7, 8, 9, 10, 11, 12, 13, 14, 15, 16, 17, 18, 19, 20, 21, 22, 23] rfl:):) ?_; clear F H; rintro _ w a ⟨p19, c19, cs20, rfl, H⟩ F
 refine bk [0, 0, 0] F H rfl trivial ?_; clear F; intro a F
 replace H := H.owNil rByte 5
 replace H := H.owNil rStr 9
 refine s_allocA wkP F rfl rfl rfl agz37 rfl H ?_; clear F H; intro b21 w a H F
 refine bk [0] F H rfl trivial ?_; clear F; intro a F
 refine s_storeA wkP F rfl rfl agg37 rfl rfl rfl H 0 rfl (H.rcLen 4 rfl) (by simp only [List.length_append, List.length_cons, List.length_nil, icells_length, bcells_length]) (H.rcFlat 4 rfl) ?_; clear H; intro w H
 replace H := H.nf 29 rfl
 refine nl (sr (bk [0] F H rfl trivial ?_)); clear F; intro a F
 replace H := H.owNil rByte 5
 refine s_val wkP F rfl rfl rfl rfl (y_build F rfl rfl (cs := [.int .i64 (8), .string (txb ([47])), .string (txb ([])), .int .i64 (0), .int .i64 (0), .slice none (([] : List UInt8)).length 0]) (by kernel_rfl)) ?_; clear F; intro a F
 replace H := H.frz 0 rfl
 replace H := H.mkRc (R := R_api_Op) (cs := [.int .i64 (8), .string (txb ([47])), .string (txb ([])), .int .i64 (0), .int .i64 (0), .slice none (([] : List UInt8)).length 0]) (x := (8, [47], [], 0, 0, ([] : List UInt8))) (fun gg => ⟨_, _, rfl, rfl, ⟨_, _, rfl, rfl, ⟨_, _, rfl, rfl, ⟨_, _, rfl, rfl, ⟨_, _, rfl, rfl, ⟨_, _, rfl, (gg 0 _ rfl).choose_spec⟩⟩⟩⟩⟩⟩)
 obtain ⟨x22, ex22, hm⟩ := ob hm
 refine sc wkP F rfl ent16 (w_fDo ex22 (H.pm 31 [12, 0, 0, 1, 2, 3, 4, 5, 6, 7, 8, 9, 10, 11, 12, 13, 14, 15, 16, 17, 18, 19, 20, 21, 22, 23, 24, 25, 26, 27, 28, 29, 30] rfl:):) ?_; clear F H; rintro _ w a ⟨p23, c23, cs24, rfl, H⟩ F
 refine bk [0, 0, 0] F H rfl trivial ?_; clear F; intro a F
 replace H := H.owNil rByte 5
 replace H := H.owNil rStr 9
 refine s_allocA wkP F rfl rfl rfl agz37 rfl H ?_; clear F H; intro b25 w a H F
 refine bk [0] F H rfl trivial ?_; clear F; intro a F
 refine s_storeA wkP F rfl rfl agg37 rfl rfl rfl H 0 rfl (H.rcLen 4 rfl) (by simp only [List.length_append, List.length_cons, List.length_nil, icells_length, bcells_length]) (H.rcFlat 4 rfl) ?_; clear H; intro w H
 replace H := H.nf 36 rfl
 refine nl (sr (bk [0] F H rfl trivial ?_)); clear F; intro a F
 replace H := H.owNil rByte 5
 refine s_val wkP F rfl rfl rfl rfl (y_build F rfl rfl (cs := [.int .i64 (7), .string (txb ([47, 97])), .string (txb ([])), .int .i64 (0), .int .i64 (0), .slice none (([] : List UInt8)).length 0]) (by kernel_rfl)) ?_; clear F; intro a F
 replace H := H.frz 0 rfl
 replace H := H.mkRc (R := R_api_Op) (cs := [.int .i64 (7), .string (txb ([47, 97])), .string (txb ([])), .int .i64 (0), .int .i64 (0), .slice none (([] : List UInt8)).length 0]) (x := (7, [47, 97], [], 0, 0, ([] : List UInt8))) (fun gg => ⟨_, _, rfl, rfl, ⟨_, _, rfl, rfl, ⟨_, _, rfl, rfl, ⟨_, _, rfl, rfl, ⟨_, _, rfl, rfl, ⟨_, _, rfl, (gg 0 _ rfl).choose_spec⟩⟩⟩⟩⟩⟩)
 obtain ⟨x26, ex26, hm⟩ := ob hm
 refine sc wkP F rfl ent16 (w_fDo ex26 (H.pm 38 [19, 0, 0, 1, 2, 3, 4, 5, 6, 7, 8, 9, 10, 11, 12, 13, 14, 15, 16, 17, 18, 19, 20, 21, 22, 23, 24, 25, 26, 27, 28, 29, 30, 31, 32, 33, 34, 35, 36, 37] rfl:):) ?_; clear F H; rintro _ w a ⟨p27, c27, cs28, rfl, H⟩ F
 refine bk [0, 0, 0] F H rfl trivial ?_; clear F; intro a F
 replace H := H.owNil rByte 5
 replace H := H.owNil rStr 9
 refine s_allocA wkP F rfl rfl rfl agz37 rfl H ?_; clear F H; intro b29 w a H F
 refine bk [0] F H rfl trivial ?_; clear F; intro a F
 refine s_storeA wkP F rfl rfl agg37 rfl rfl rfl H 0 rfl (H.rcLen 4 rfl) (by simp only [List.length_append, List.length_cons, List.length_nil, icells_length, bcells_length]) (H.rcFlat 4 rfl) ?_; clear H; intro w H
 replace H := H.nf 43 rfl
 refine nl (sr (bk [0] F H rfl ⟨fld37_0, trivial⟩ ?_)); clear F; intro a F
 replace H := rc_api_Answer (H.pk 39 rfl); obtain ⟨p30, c31, p32, c33, rfl, H⟩ := H
 refine bk [37000, 0] F H rfl ⟨rfl, plain33, fld37_0, trivial⟩ ?_; clear F; intro a F
 replace H := rc_api_Answer (H.pk 34 rfl); obtain ⟨p34, c35, p36, c37, rfl, H⟩ := H
 refine bk [32000, 0, 0] F H rfl ⟨rfl, plain33, fld37_0, trivial⟩ ?_; clear F; intro a F
 replace H := rc_api_Answer (H.pk 29 rfl); obtain ⟨p38, c39, p40, c41, rfl, H⟩ := H
 refine bk [27000, 0, 0, 0] F H rfl ⟨rfl, plain33, trivial⟩ ?_; clear F; intro a F
 by_cases hg42 : (IntKind.i64.wrap ((IntKind.i64.wrap (x3.2.1 + x7.2.1)) + x14.2.1)) = 0
 replace hm := ifT hg42 hm
 replace F := F.bT 58 hg42 rfl
 refine bk [2] F H rfl ⟨fld37_2, trivial⟩ ?_; clear F; intro a F
 refine g_onP F rfl rfl rfl rfl ?_
 replace H := rc_api_Answer (H.pk 24 rfl); obtain ⟨p43, c44, p45, c46, rfl, H⟩ := H
 refine bk [22002] F H rfl ⟨rfl, plain23, trivial⟩ ?_; clear F; intro a F
 refine g_onP F rfl rfl rfl rfl ?_
 refine s_val wkP F rfl rfl rfl rfl (y_b2s F Tryz.underlying23 Tryz.underlying9 Tryz.underlying5 rfl rfl (H) 0 rfl) ?_; clear F; intro a F
 refine g_onP F rfl rfl rfl rfl ?_
 refine s_val wkP F rfl rfl rfl rfl (y_eqT (l := x18.2.2.2.1) (m := [0, 0, 120, 121]) F rfl rfl rfl) ?_; clear F; intro a F
 refine bk [0, 0] F H rfl trivial ?_; clear F; intro a F
 by_cases hg47 : x18.2.2.2.1 = ([0, 0, 120, 121])
 replace hm := ifT hg47 hm
 replace F := F.bT 64 hg47 rfl
 refine bk [3] F H rfl ⟨fld37_3, trivial⟩ ?_; clear F; intro a F
 refine g_onP F rfl rfl rfl rfl ?_
 replace H := rc_api_Answer (H.pk 19 rfl); obtain ⟨p48, c49, p50, c51, rfl, H⟩ := H
 refine bk [17003, 0, 0, 0, 0] F H rfl ⟨rfl, plain35, ⟨_, Tryz.underlying35⟩, trivial⟩ ?_; clear F; intro a F
 by_cases hg52 : ((x22.2.2.2.2).length : Int) = 1
 replace hm := ifT hg52 hm
 replace F := F.bT 70 hg52 rfl
 refine bk [3, 17003] F H rfl ⟨fld37_3, rfl, plain35, trivial⟩ ?_; clear F; intro a F
 refine g_onP F rfl rfl rfl rfl ?_
 obtain ⟨x53, ex53, hm⟩ := ob hm
 obtain ⟨b54, o54, hp54⟩ := H.slP 1 rfl (idxO_some ex53).2
 obtain ⟨cs55, hcl55, H⟩ := H.slEl 1 rfl hp54 (idxO_some ex53).2
 obtain rfl := H.rcStr 1 rfl
 replace H := H.dp 1 rfl
 clear hcl55
 refine s_val wkP F rfl rfl rfl rfl (y_idxS F elem35 rfl rfl rfl hp54 ex53) ?_; clear F; intro a F
 refine bk [0] F H rfl ⟨rfl, plain9, trivial⟩ ?_; clear F; intro a F
 refine g_onP F rfl rfl rfl rfl ?_
 refine s_val wkP F rfl rfl rfl rfl (y_eqT (l := x53) (m := [97]) F rfl rfl rfl) ?_; clear F; intro a F
 refine bk [0, 0] F H rfl trivial ?_; clear F; intro a F
 by_cases hg56 : x53 = ([97])
 replace hm := ifT hg56 hm
 replace F := F.bT 77 hg56 rfl
 refine bk [0] F H rfl ⟨fld37_0, trivial⟩ ?_; clear F; intro a F
 refine g_onP F rfl rfl rfl rfl ?_
 replace H := rc_api_Answer (H.pk 15 rfl); obtain ⟨p57, c58, p59, c60, rfl, H⟩ := H
 refine bk [13000, 0, 0, 0] F H rfl ⟨rfl, plain33, trivial⟩ ?_; clear F; intro a F
 refine nl (wr ?_)
 cases hm
 refine x_ret1 F rfl rfl ?_
 exact ⟨_, rfl, rfl, (H.pm 50 [] rfl:)⟩
 replace hm := ifF hg56 hm
 replace F := F.bF 77 hg56 rfl
 refine bk (List.replicate 5 0) F H rfl trivial ?_; clear F; intro a F
 refine nl (wr ?_)
 cases hm
 refine x_ret1 F rfl rfl ?_
 exact ⟨_, rfl, rfl, (H.pm 49 [] rfl:)⟩
 replace hm := ifF hg52 hm
 replace F := F.bF 70 hg52 rfl
 refine bk (List.replicate 12 0) F H rfl trivial ?_; clear F; intro a F
 refine nl (wr ?_)
 cases hm
 refine x_ret1 F rfl rfl ?_
 exact ⟨_, rfl, rfl, (H.pm 48 [] rfl:)⟩
 replace hm := ifF hg47 hm
 replace F := F.bF 64 hg47 rfl
 refine bk (List.replicate 18 0) F H rfl trivial ?_; clear F; intro a F
 refine nl (wr ?_)
 cases hm
 refine x_ret1 F rfl rfl ?_
 exact ⟨_, rfl, rfl, (H.pm 47 [] rfl:)⟩
 replace hm := ifF hg42 hm
 replace F := F.bF 58 hg42 rfl
 refine bk (List.replicate 24 0) F H rfl trivial ?_; clear F; intro a F
 refine nl (wr ?_)
 cases hm
 refine x_ret1 F rfl rfl ?_
 exact ⟨_, rfl, rfl, (H.pm 46 [] rfl:)⟩
theorem ent24 : ∀ args w, (callFunc 24 args).run Tryz.prog w = .ok (.enter 24 args) w := enters Tryz.func24 (by kernel_rfl) rfl
end Go.Proofs.YtohmcgmmphpgoaaGreatDoor
