/- the statement -/
import Derived.Test.YtgcgggjihhdonaaDoorDifC
set_option linter.unusedSimpArgs false
set_option linter.unusedVariables false
namespace Go.Proofs.YtgcgggjihhdonaaDoor
open Go.RowKit Go.Tri
theorem ent7 : ∀ args w, (callFunc 7 args).run Tryd.prog w = .ok (.enter 7 args) w := enters Tryd.func7 (by kernel_rfl) rfl
set_option maxRecDepth 100000 in
set_option maxHeartbeats 4000000 in
theorem w_m_triremelaw17_speaks   {w0 w : World} {l : List HP}  {r : Bool} (hm : m_triremelaw17_speaks  = some r) (H : St w0 w (l)) :
  Calls Tryd.prog 4 [].toArray w (fun e w' => ∃ v, e = .returned v ∧ v = .bool (r) ∧ St w0 w' (l)) := by
 unfold m_triremelaw17_speaks at hm
 refine x_enter Tryd.func4 rfl rfl rfl ?_
 intro a F
 refine sr (bk [0] F H rfl trivial ?_); clear F; intro a F
 refine nl (sr (s_val wkP F rfl rfl rfl rfl (y_build F rfl rfl (cs := bcells ([7, 0, 0, 0, 0, 0, 0, 0, 0, 0, 0, 0, 0, 0, 0, 0, 0, 0, 0, 0, 0, 0, 0, 0, 0, 0, 0, 0, 0, 0, 0, 0] : List UInt8)) (by kernel_rfl)) ?_)); clear F; intro a F
 replace H := H.mmNil hv false (rSl rByte) (fun l => l.length = 32)
 obtain ⟨x1, ex1, hm⟩ := ob hm
 refine sc wkP F rfl ent7 (w_m_diff_Missing rfl ex1 H:) ?_; clear F H; rintro _ w a ⟨p2, c2, rfl, H⟩ F
 refine bk (List.replicate 5 0) F H rfl trivial ?_; clear F; intro a F
 replace H := H.nf 2 rfl
 refine nl (sr (bk [0, 0, 0] F H rfl trivial ?_)); clear F; intro a F
 by_cases hg3 : x1.2 = 0
 replace hm := ifT hg3 hm
 replace F := F.bT 10 hg3 rfl
 refine bk (List.replicate 5 0) F H rfl ⟨⟨_, Tryd.underlying22⟩, trivial⟩ ?_; clear F; intro a F
 by_cases hg4 : ((x1.1).length : Int) = 1
 replace hm := ifT hg4 hm
 replace F := F.bT 15 hg4 rfl
 refine bk [0] F H rfl trivial ?_; clear F; intro a F
 refine g_onP F rfl rfl rfl rfl ?_
 obtain ⟨x5, ex5, hm⟩ := ob hm
 obtain ⟨b6, o6, hp6⟩ := H.slP 0 rfl (idxO_some ex5).2
 obtain ⟨cs7, hcl7, H⟩ := H.slEl 0 rfl hp6 (idxO_some ex5).2
 obtain ⟨rfl, hl8⟩ := H.rcBN 1 rfl
 replace H := H.dp 1 rfl
 clear hcl7
 refine s_val wkP F rfl rfl rfl rfl (y_idxS F elem22 rfl rfl rfl hp6 ex5) ?_; clear F; intro a F
 refine bk [999] F H rfl ⟨rfl, (aggn agg32 ((bcells_length _).trans hl8)), trivial⟩ ?_; clear F; intro a F
 refine g_onP F rfl rfl rfl rfl ?_
 refine s_val wkP F rfl rfl rfl rfl (y_build F rfl rfl (cs := bcells ([7, 0, 0, 0, 0, 0, 0, 0, 0, 0, 0, 0, 0, 0, 0, 0, 0, 0, 0, 0, 0, 0, 0, 0, 0, 0, 0, 0, 0, 0, 0, 0] : List UInt8)) (by kernel_rfl)) ?_; clear F; intro a F
 refine g_onP F rfl rfl rfl rfl ?_
 refine s_val wkP F rfl rfl rfl rfl (y_eqlA F key32 rfl rfl rfl hl8 rfl) ?_; clear F; intro a F
 refine bk [0, 0] F H rfl trivial ?_; clear F; intro a F
 refine nl (wr ?_)
 cases hm
 refine x_ret1 F rfl rfl ?_
 exact ⟨_, rfl, rfl, (H.pm 3 [] rfl:)⟩
 replace hm := ifF hg4 hm
 replace F := F.bF 15 hg4 rfl
 refine bk (List.replicate 7 0) F H rfl trivial ?_; clear F; intro a F
 refine nl (wr ?_)
 cases hm
 refine x_ret1 F rfl rfl ?_
 exact ⟨_, rfl, rfl, (H.pm 2 [] rfl:)⟩
 replace hm := ifF hg3 hm
 replace F := F.bF 10 hg3 rfl
 refine bk (List.replicate 12 0) F H rfl trivial ?_; clear F; intro a F
 refine nl (wr ?_)
 cases hm
 refine x_ret1 F rfl rfl ?_
 exact ⟨_, rfl, rfl, (H.pm 2 [] rfl:)⟩
theorem ent4 : ∀ args w, (callFunc 4 args).run Tryd.prog w = .ok (.enter 4 args) w := enters Tryd.func4 (by kernel_rfl) rfl
theorem ent5 : ∀ args w, (callFunc 5 args).run Tryd.prog w = .ok (.enter 5 args) w := enters Tryd.func5 (by kernel_rfl) rfl
theorem ent6 : ∀ args w, (callFunc 6 args).run Tryd.prog w = .ok (.enter 6 args) w := enters Tryd.func6 (by kernel_rfl) rfl
set_option maxRecDepth 100000 in
set_option maxHeartbeats 4000000 in
theorem w_m_triremelaw17_DiffCuts {x0_ : List (List UInt8)} {x1_ : Int} {p1 : Option Addr} {c1 : Nat} {w0 w : World} {l : List HP}  {r : Bool} (hm : m_triremelaw17_DiffCuts x0_ x1_ = some r) (H : St w0 w (HP.sl (rBytesN 32) p1 c1 x0_ :: l)) :
  Calls Tryd.prog 3 [.slice p1 (x0_).length c1, .int .i64 (x1_)].toArray w (fun e w' => ∃ v, e = .returned v ∧ v = .bool (r) ∧ St w0 w' (l)) := by
 unfold m_triremelaw17_DiffCuts at hm
 refine x_enter Tryd.func3 rfl rfl rfl ?_
 intro a F
 refine sr (bk [0] F H rfl trivial ?_); clear F; intro a F
 refine nl (sq (sr ?_))
 obtain ⟨x2, ex2, hm⟩ := ob hm
 refine sc wkP F rfl ent4 (w_m_triremelaw17_speaks ex2 H:) ?_; clear F H; rintro _ w a ⟨rfl, H⟩ F
 refine bk [0] F H rfl trivial ?_; clear F; intro a F
 replace H := H.nf 1 rfl
 refine nl (cB F rfl (fun hg3 => ?_) (fun hg3 => ?_))
 replace hm := ifT hg3 hm
 refine sr (bk [0] F H rfl trivial ?_); clear F; intro a F
 refine nl (wr (tr ?_))
 cases hm
 refine x_ret1 F rfl rfl ?_
 exact ⟨_, rfl, rfl, (H.pm 1 [] rfl:)⟩
 replace hm := ifF (nT hg3) hm
 refine sk (ct (sq (sr (bk [0, 0, 0] F H rfl ⟨⟨_, Tryd.underlying22⟩, trivial⟩ ?_)))); clear F; intro a F
 refine nl (cP F rfl (fun hg4 => ?_) (fun hg4 => ?_))
 replace hm := ifT hg4 hm
 refine sr (bk [0] F H rfl trivial ?_); clear F; intro a F
 refine nl (wr (tr ?_))
 cases hm
 refine x_ret1 F rfl rfl ?_
 exact ⟨_, rfl, rfl, (H.pm 1 [] rfl:)⟩
 replace hm := ifF hg4 hm
 refine sk (ct (sr (bk [0, 0] F H rfl trivial ?_))); clear F; intro a F
 obtain ⟨x5, ex5, hm⟩ := ob hm
 refine sc wkP F rfl ent5 (w_m_diff_Cut ex5 (H.pm 1 [0, 0] rfl:):) ?_; clear F H; rintro _ w a ⟨p6, c6, rfl, H⟩ F
 refine s_build0O (R := (rBytesN 32)) wkP F rfl rfl rfl elem22 rfl H ?_; clear F H; intro b7 w a H F
 refine bk [0, 0] F H rfl trivial ?_; clear F; intro a F
 replace H := H.nf 3 rfl
 refine nl (sq (sr (bk [0, 0, 0] F H rfl ⟨⟨_, Tryd.underlying24⟩, trivial⟩ ?_))); clear F; intro a F
 refine nl ?_
 obtain ⟨o96, eo96, hm96⟩ := ob hm; clear hm; revert eo96; intro hm
 refine x_mid (fun aa ww => ∃ r96, o96 = Sum.inl r96 ∧ ∃ (p97 : Option Addr) (c97 : Nat), Fr ⟨67, []⟩ aa [(0, .slice p1 (x0_).length c1), (6, .slice p97 (r96).length c97)] ∧ St w0 ww (HP.sl (rBytesN 32) p1 c1 x0_ :: HP.ow (rBytesN 32) 32 p97 c97 r96 :: l)) ?_ ?_
 refine bl ?_
 refine x_loopO _ (fun (s156 : (List (List UInt8)) × Int) aa ww => ∃ (p157 : Option Addr) (c157 : Nat), Fr ⟨67, []⟩ aa [(0, .slice p1 (x0_).length c1), (1, .int .i64 (x1_)), (5, .slice p6 (x5).length c6), (6, .slice p157 (s156.1).length c157), (18, .slice p6 (x5).length c6), (19, .int .i64 (((x5).length : Int))), (20, .int .i64 (s156.2))] ∧ St w0 ww (HP.sl (rSl (rBytesN 32)) p6 c6 x5 :: HP.sl (rBytesN 32) p1 c1 x0_ :: HP.ow (rBytesN 32) 32 p157 c157 s156.1 :: l)) hm ⟨(some ⟨b7, 0, none⟩), 0, F.sl rfl, (H.pm 3 [1, 2, 0] rfl:)⟩ ?_
 clear F H hm
 rintro s156 a w o ⟨p157, c157, F, H⟩ hm
 refine sr (bk [0] F H rfl trivial ?_); clear F; intro a F
 refine nl (sq (cP F rfl (fun hg158 => ?_) (fun hg158 => ?_)))
 replace hm := ifT hg158 hm
 refine sk (ct (sq (bl (sr (bk [0] F H rfl trivial ?_))))); clear F; intro a F
 obtain ⟨x159, ex159, hm⟩ := ob hm
 obtain ⟨b160, o160, hp160⟩ := H.slP 0 rfl (idxO_some ex159).2
 obtain ⟨cs161, hcl161, H⟩ := H.slEl 0 rfl hp160 (idxO_some ex159).2
 obtain ⟨p162, c162, rfl, H⟩ := H.rcSl 1 rfl
 replace H := H.dp 2 rfl
 clear hcl161
 refine s_val wkP F rfl rfl rfl rfl (y_idxS F elem24 rfl rfl rfl hp160 ex159) ?_; clear F; intro a F
 refine bk [1000, 0, 0] F H rfl ⟨rfl, plain22, trivial⟩ ?_; clear F; intro a F
 refine nl (sq (sr (bk [0, 0, 0, 0] F H rfl ⟨⟨_, Tryd.underlying22⟩, trivial⟩ ?_))); clear F; intro a F
 by_cases hg163 : ((x159).length : Int) = 0
 replace hm := ifT hg163 hm
 replace F := F.bT 28 hg163 rfl
 refine bk (List.replicate 31 0) F H rfl trivial ?_; clear F; intro a F
 refine nl (cT F rfl ?_)
 refine sr (bk [0] F H rfl trivial ?_); clear F; intro a F
 refine nl (wr (tr (br (tr (tr ?_))))); cases hm; refine ⟨_, rfl, ?_⟩; rintro rfl
 refine br (tr ?_)
 replace hm := elimR hm96
 refine tr ?_
 cases hm
 refine x_ret1 F rfl rfl ?_
 exact ⟨_, rfl, rfl, (H.pm 5 [] rfl:)⟩
 replace hm := ifF hg163 hm
 replace F := F.bF 28 hg163 rfl
 refine bk [0, 0, 0] F H rfl trivial ?_; clear F; intro a F
 by_cases hg164 : 0 < x1_
 replace hm := ifT hg164 hm
 replace F := F.bT 31 hg164 rfl
 refine bk (List.replicate 5 0) F H rfl ⟨⟨_, Tryd.underlying22⟩, trivial⟩ ?_; clear F; intro a F
 by_cases hg165 : x1_ < ((x159).length : Int)
 replace hm := ifT hg165 hm
 replace F := F.bT 36 hg165 rfl
 refine bk (List.replicate 23 0) F H rfl trivial ?_; clear F; intro a F
 refine nl (cT F rfl ?_)
 refine sr (bk [0] F H rfl trivial ?_); clear F; intro a F
 refine nl (wr (tr (br (tr (tr ?_))))); cases hm; refine ⟨_, rfl, ?_⟩; rintro rfl
 refine br (tr ?_)
 replace hm := elimR hm96
 refine tr ?_
 cases hm
 refine x_ret1 F rfl rfl ?_
 exact ⟨_, rfl, rfl, (H.pm 5 [] rfl:)⟩
 replace hm := ifF hg165 hm
 replace F := F.bF 36 hg165 rfl
 refine bk (List.replicate 5 0) F H rfl ⟨⟨_, Tryd.underlying22⟩, trivial⟩ ?_; clear F; intro a F
 by_cases hg166 : ((x159).length : Int) < x1_
 replace hm := ifT hg166 hm
 replace F := F.bT 41 hg166 rfl
 refine bk (List.replicate 10 0) F H rfl ⟨⟨_, Tryd.underlying24⟩, trivial⟩ ?_; clear F; intro a F
 by_cases hg167 : s156.2 < (IntKind.i64.wrap (((x5).length : Int) - 1))
 replace hm := ifT hg167 hm
 replace F := F.bT 51 hg167 rfl
 refine bk (List.replicate 8 0) F H rfl trivial ?_; clear F; intro a F
 refine nl (cT F rfl ?_)
 refine sr (bk [0] F H rfl trivial ?_); clear F; intro a F
 refine nl (wr (tr (br (tr (tr ?_))))); cases hm; refine ⟨_, rfl, ?_⟩; rintro rfl
 refine br (tr ?_)
 replace hm := elimR hm96
 refine tr ?_
 cases hm
 refine x_ret1 F rfl rfl ?_
 exact ⟨_, rfl, rfl, (H.pm 5 [] rfl:)⟩
 replace hm := ifF hg167 hm
 replace F := F.bF 51 hg167 rfl
 refine bk [0, 0, 0] F H rfl trivial ?_; clear F; intro a F
 by_cases hg168 : x1_ < 1
 replace hm := ifT hg168 hm
 replace F := F.bT 54 hg168 rfl
 refine bk (List.replicate 5 0) F H rfl ⟨⟨_, Tryd.underlying24⟩, trivial⟩ ?_; clear F; intro a F
 refine nl (cN F rfl (fun hg169 => ?_) (fun hg169 => ?_))
 replace hm := ifF hg169 hm
 refine sr (bk [0] F H rfl trivial ?_); clear F; intro a F
 refine nl (wr (tr (br (tr (tr ?_))))); cases hm; refine ⟨_, rfl, ?_⟩; rintro rfl
 refine br (tr ?_)
 replace hm := elimR hm96
 refine tr ?_
 cases hm
 refine x_ret1 F rfl rfl ?_
 exact ⟨_, rfl, rfl, (H.pm 5 [] rfl:)⟩
 replace hm := ifT hg169 hm
 refine sk (ct (rl (bk [0, 0] F H rfl trivial ?_))); clear F; intro a F
 obtain ⟨x171, ex171, hm⟩ := ob hm
 refine s_app wkP F rfl rfl rfl rfl rfl rfl elem22 rfl ex171 H 4 0 rfl rfl ?_; clear F H; intro p170 c170 w a H F
 refine bk [0] F H rfl trivial ?_; clear F; intro a F
 replace H := H.nf 5 rfl
 refine lz (bn (ct (rl (bk [0, 0] F H rfl trivial ?_)))); clear F; intro a F
 refine lz (ct ?_); cases hm
 exact ⟨_, rfl, ⟨p170, c170, F.sl rfl, (H.pm 5 [2, 3, 4] rfl:)⟩⟩
 replace hm := ifF hg168 hm
 replace F := F.bF 54 hg168 rfl
 refine bk (List.replicate 5 0) F H rfl trivial ?_; clear F; intro a F
 refine nl (cF F rfl ?_)
 refine sk (ct (rl (bk [0, 0] F H rfl trivial ?_))); clear F; intro a F
 obtain ⟨x173, ex173, hm⟩ := ob hm
 refine s_app wkP F rfl rfl rfl rfl rfl rfl elem22 rfl ex173 H 4 0 rfl rfl ?_; clear F H; intro p172 c172 w a H F
 refine bk [0] F H rfl trivial ?_; clear F; intro a F
 replace H := H.nf 5 rfl
 refine lz (bn (ct (rl (bk [0, 0] F H rfl trivial ?_)))); clear F; intro a F
 refine lz (ct ?_); cases hm
 exact ⟨_, rfl, ⟨p172, c172, F.sl rfl, (H.pm 5 [2, 3, 4] rfl:)⟩⟩
 replace hm := ifF hg166 hm
 replace F := F.bF 41 hg166 rfl
 refine bk (List.replicate 13 0) F H rfl trivial ?_; clear F; intro a F
 by_cases hg174 : x1_ < 1
 replace hm := ifT hg174 hm
 replace F := F.bT 54 hg174 rfl
 refine bk (List.replicate 5 0) F H rfl ⟨⟨_, Tryd.underlying24⟩, trivial⟩ ?_; clear F; intro a F
 refine nl (cN F rfl (fun hg175 => ?_) (fun hg175 => ?_))
 replace hm := ifF hg175 hm
 refine sr (bk [0] F H rfl trivial ?_); clear F; intro a F
 refine nl (wr (tr (br (tr (tr ?_))))); cases hm; refine ⟨_, rfl, ?_⟩; rintro rfl
 refine br (tr ?_)
 replace hm := elimR hm96
 refine tr ?_
 cases hm
 refine x_ret1 F rfl rfl ?_
 exact ⟨_, rfl, rfl, (H.pm 5 [] rfl:)⟩
 replace hm := ifT hg175 hm
 refine sk (ct (rl (bk [0, 0] F H rfl trivial ?_))); clear F; intro a F
 obtain ⟨x177, ex177, hm⟩ := ob hm
 refine s_app wkP F rfl rfl rfl rfl rfl rfl elem22 rfl ex177 H 4 0 rfl rfl ?_; clear F H; intro p176 c176 w a H F
 refine bk [0] F H rfl trivial ?_; clear F; intro a F
 replace H := H.nf 5 rfl
 refine lz (bn (ct (rl (bk [0, 0] F H rfl trivial ?_)))); clear F; intro a F
 refine lz (ct ?_); cases hm
 exact ⟨_, rfl, ⟨p176, c176, F.sl rfl, (H.pm 5 [2, 3, 4] rfl:)⟩⟩
 replace hm := ifF hg174 hm
 replace F := F.bF 54 hg174 rfl
 refine bk (List.replicate 5 0) F H rfl trivial ?_; clear F; intro a F
 refine nl (cF F rfl ?_)
 refine sk (ct (rl (bk [0, 0] F H rfl trivial ?_))); clear F; intro a F
 obtain ⟨x179, ex179, hm⟩ := ob hm
 refine s_app wkP F rfl rfl rfl rfl rfl rfl elem22 rfl ex179 H 4 0 rfl rfl ?_; clear F H; intro p178 c178 w a H F
 refine bk [0] F H rfl trivial ?_; clear F; intro a F
 replace H := H.nf 5 rfl
 refine lz (bn (ct (rl (bk [0, 0] F H rfl trivial ?_)))); clear F; intro a F
 refine lz (ct ?_); cases hm
 exact ⟨_, rfl, ⟨p178, c178, F.sl rfl, (H.pm 5 [2, 3, 4] rfl:)⟩⟩
 replace hm := ifF hg164 hm
 replace F := F.bF 31 hg164 rfl
 refine bk (List.replicate 23 0) F H rfl trivial ?_; clear F; intro a F
 by_cases hg180 : x1_ < 1
 replace hm := ifT hg180 hm
 replace F := F.bT 54 hg180 rfl
 refine bk (List.replicate 5 0) F H rfl ⟨⟨_, Tryd.underlying24⟩, trivial⟩ ?_; clear F; intro a F
 refine nl (cN F rfl (fun hg181 => ?_) (fun hg181 => ?_))
 replace hm := ifF hg181 hm
 refine sr (bk [0] F H rfl trivial ?_); clear F; intro a F
 refine nl (wr (tr (br (tr (tr ?_))))); cases hm; refine ⟨_, rfl, ?_⟩; rintro rfl
 refine br (tr ?_)
 replace hm := elimR hm96
 refine tr ?_
 cases hm
 refine x_ret1 F rfl rfl ?_
 exact ⟨_, rfl, rfl, (H.pm 5 [] rfl:)⟩
 replace hm := ifT hg181 hm
 refine sk (ct (rl (bk [0, 0] F H rfl trivial ?_))); clear F; intro a F
 obtain ⟨x183, ex183, hm⟩ := ob hm
 refine s_app wkP F rfl rfl rfl rfl rfl rfl elem22 rfl ex183 H 4 0 rfl rfl ?_; clear F H; intro p182 c182 w a H F
 refine bk [0] F H rfl trivial ?_; clear F; intro a F
 replace H := H.nf 5 rfl
 refine lz (bn (ct (rl (bk [0, 0] F H rfl trivial ?_)))); clear F; intro a F
 refine lz (ct ?_); cases hm
 exact ⟨_, rfl, ⟨p182, c182, F.sl rfl, (H.pm 5 [2, 3, 4] rfl:)⟩⟩
 replace hm := ifF hg180 hm
 replace F := F.bF 54 hg180 rfl
 refine bk (List.replicate 5 0) F H rfl trivial ?_; clear F; intro a F
 refine nl (cF F rfl ?_)
 refine sk (ct (rl (bk [0, 0] F H rfl trivial ?_))); clear F; intro a F
 obtain ⟨x185, ex185, hm⟩ := ob hm
 refine s_app wkP F rfl rfl rfl rfl rfl rfl elem22 rfl ex185 H 4 0 rfl rfl ?_; clear F H; intro p184 c184 w a H F
 refine bk [0] F H rfl trivial ?_; clear F; intro a F
 replace H := H.nf 5 rfl
 refine lz (bn (ct (rl (bk [0, 0] F H rfl trivial ?_)))); clear F; intro a F
 refine lz (ct ?_); cases hm
 exact ⟨_, rfl, ⟨p184, c184, F.sl rfl, (H.pm 5 [2, 3, 4] rfl:)⟩⟩
 replace hm := ifF hg158 hm
 refine ex (cx (cx ?_)); cases hm; refine ⟨_, rfl, ?_⟩; rintro rfl
 refine ch (ct ?_)
 exact ⟨_, rfl, p157, c157, F.sl rfl, (H.pm 3 [1, 2] rfl:)⟩
 clear F H hm
 rintro a w ⟨r96, rfl, p97, c97, F, H⟩; have hm := elimL hm96; clear hm96
 refine ct (sr (bk [0, 0] F H rfl trivial ?_)); clear F; intro a F
 replace H := H.frz 1 rfl
 obtain ⟨x186, ex186, hm⟩ := ob hm
 refine sc wkP F rfl ent6 (w_m_triremeref05_Same ex186 (H.pm 2 [0, 1, 0, 1] rfl:):) ?_; clear F H; rintro _ w a ⟨rfl, H⟩ F
 refine bk [0] F H rfl trivial ?_; clear F; intro a F
 replace H := H.nf 2 rfl
 refine nl (wr ?_)
 cases hm
 refine x_ret1 F rfl rfl ?_
 exact ⟨_, rfl, rfl, (H.pm 2 [] rfl:)⟩
end Go.Proofs.YtgcgggjihhdonaaDoor
