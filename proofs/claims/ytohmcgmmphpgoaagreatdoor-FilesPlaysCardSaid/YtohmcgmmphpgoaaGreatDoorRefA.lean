/- refs -/
import Derived.Test.YtohmcgmmphpgoaaGreatDoorLawA
set_option linter.unusedSimpArgs false
set_option linter.unusedVariables false
namespace Go.Proofs.YtohmcgmmphpgoaaGreatDoor
open Go.RowKit Go.Tri
set_option maxRecDepth 100000 in
set_option maxHeartbeats 4000000 in
theorem w_m_triremeref09_Name {x0_ : List UInt8}  {w0 w : World} {l : List HP}  {r : Bool} (hm : m_triremeref09_Name x0_ = some r) (H : St w0 w (l)) :
  Calls Tryz.prog 71 [.string (txb (x0_))].toArray w (fun e w' => ∃ v, e = .returned v ∧ v = .bool (r) ∧ St w0 w' (l)) := by
 unfold m_triremeref09_Name at hm
 refine x_enter Tryz.func71 rfl rfl rfl ?_
 intro a F
 refine sr (bk [0] F H rfl trivial ?_); clear F; intro a F
 refine nl (sq (sr (bk [0] F H rfl trivial ?_))); clear F; intro a F
 refine s_val wkP F rfl rfl rfl rfl (y_lenT (l := x0_) F rfl Tryz.underlying9 rfl) ?_; clear F; intro a F
 refine bk [0, 0] F H rfl trivial ?_; clear F; intro a F
 by_cases hg1 : ((x0_).length : Int) < 1
 replace hm := ifT hg1 hm
 replace F := F.bT 7 hg1 rfl
 refine bk [0, 0, 0, 0] F H rfl trivial ?_; clear F; intro a F
 refine nl (cT F rfl ?_)
 refine sr (bk [0] F H rfl trivial ?_); clear F; intro a F
 refine nl (wr (tr ?_))
 cases hm
 refine x_ret1 F rfl rfl ?_
 exact ⟨_, rfl, rfl, H⟩
 replace hm := ifF hg1 hm
 replace F := F.bF 7 hg1 rfl
 refine bk [0] F H rfl trivial ?_; clear F; intro a F
 refine g_onP F rfl rfl rfl rfl ?_
 refine s_val wkP F rfl rfl rfl rfl (y_lenT (l := x0_) F rfl Tryz.underlying9 rfl) ?_; clear F; intro a F
 refine bk [0, 0] F H rfl trivial ?_; clear F; intro a F
 refine nl (cP F rfl (fun hg2 => ?_) (fun hg2 => ?_))
 replace hm := ifT hg2 hm
 refine sr (bk [0] F H rfl trivial ?_); clear F; intro a F
 refine nl (wr (tr ?_))
 cases hm
 refine x_ret1 F rfl rfl ?_
 exact ⟨_, rfl, rfl, H⟩
 replace hm := ifF hg2 hm
 refine sk (ct (sq (sr (bk [0] F H rfl trivial ?_)))); clear F; intro a F
 refine nl ?_
 obtain ⟨o25, eo25, hm25⟩ := ob hm; clear hm; revert eo25; intro hm
 refine x_mid (fun aa ww => ∃ r25, o25 = Sum.inl r25 ∧ Fr ⟨34, []⟩ aa [] ∧ St w0 ww (l)) ?_ ?_
 refine bl (x_loopO _ (fun (s40 : Int) aa ww => Fr ⟨34, []⟩ aa [(0, .string (txb (x0_))), (3, .int .i64 (s40))] ∧ St w0 ww (l)) hm ⟨F.sl rfl, H⟩ ?_)
 clear F H hm
 rintro s40 a w o ⟨F, H⟩ hm
 refine sq (sr (bk [0, 0] F H rfl trivial ?_)); clear F; intro a F
 refine s_val wkP F rfl rfl rfl rfl (y_lenT (l := x0_) F rfl Tryz.underlying9 rfl) ?_; clear F; intro a F
 refine bk [0] F H rfl trivial ?_; clear F; intro a F
 refine nl (cP F rfl (fun hg41 => ?_) (fun hg41 => ?_))
 replace hm := ifT hg41 hm
 refine sk (ct (sq (bl (sr (bk [0, 0] F H rfl trivial ?_))))); clear F; intro a F
 obtain ⟨x42, ex42, hm⟩ := ob hm
 refine s_val wkP F rfl rfl rfl rfl (y_idxT F rfl Tryz.underlying9 rfl rfl ex42) ?_; clear F; intro a F
 refine bk [0, 0] F H rfl trivial ?_; clear F; intro a F
 by_cases hg43 : ((x42).toNat : Int) < 33
 replace hm := ifT hg43 hm
 replace F := F.bT 22 hg43 rfl
 refine bk (List.replicate 11 0) F H rfl trivial ?_; clear F; intro a F
 refine nl (cT F rfl ?_)
 refine sr (bk [0] F H rfl trivial ?_); clear F; intro a F
 refine nl (wr (br (tr (tr ?_)))); cases hm; refine ⟨_, rfl, ?_⟩; rintro rfl
 refine br (tr ?_)
 replace hm := elimR hm25
 refine tr ?_
 cases hm
 refine x_ret1 F rfl rfl ?_
 exact ⟨_, rfl, rfl, H⟩
 replace hm := ifF hg43 hm
 replace F := F.bF 22 hg43 rfl
 refine bk [0, 0] F H rfl trivial ?_; clear F; intro a F
 refine g_onP F rfl rfl rfl rfl ?_
 obtain ⟨x44, ex44, hm⟩ := ob hm
 refine s_val wkP F rfl rfl rfl rfl (y_idxT F rfl Tryz.underlying9 rfl rfl ex44) ?_; clear F; intro a F
 refine bk [0, 0, 0] F H rfl trivial ?_; clear F; intro a F
 by_cases hg45 : 126 < ((x44).toNat : Int)
 replace hm := ifT hg45 hm
 replace F := F.bT 28 hg45 rfl
 refine bk (List.replicate 5 0) F H rfl trivial ?_; clear F; intro a F
 refine nl (cT F rfl ?_)
 refine sr (bk [0] F H rfl trivial ?_); clear F; intro a F
 refine nl (wr (br (tr (tr ?_)))); cases hm; refine ⟨_, rfl, ?_⟩; rintro rfl
 refine br (tr ?_)
 replace hm := elimR hm25
 refine tr ?_
 cases hm
 refine x_ret1 F rfl rfl ?_
 exact ⟨_, rfl, rfl, H⟩
 replace hm := ifF hg45 hm
 replace F := F.bF 28 hg45 rfl
 refine bk [0, 0] F H rfl trivial ?_; clear F; intro a F
 refine g_onP F rfl rfl rfl rfl ?_
 obtain ⟨x46, ex46, hm⟩ := ob hm
 refine s_val wkP F rfl rfl rfl rfl (y_idxT F rfl Tryz.underlying9 rfl rfl ex46) ?_; clear F; intro a F
 refine bk [0, 0] F H rfl trivial ?_; clear F; intro a F
 refine nl (cP F rfl (fun hg47 => ?_) (fun hg47 => ?_))
 replace hm := ifT hg47 hm
 refine sr (bk [0] F H rfl trivial ?_); clear F; intro a F
 refine nl (wr (br (tr (tr ?_)))); cases hm; refine ⟨_, rfl, ?_⟩; rintro rfl
 refine br (tr ?_)
 replace hm := elimR hm25
 refine tr ?_
 cases hm
 refine x_ret1 F rfl rfl ?_
 exact ⟨_, rfl, rfl, H⟩
 replace hm := ifF hg47 hm
 refine sk (bn (ct (rl (bk [0, 0, 0] F H rfl trivial ?_)))); clear F; intro a F
 refine lz (ct ?_); cases hm
 exact ⟨_, rfl, ⟨F.sl rfl, H⟩⟩
 replace hm := ifF hg41 hm
 refine ex (cx (cx ?_)); cases hm; refine ⟨_, rfl, ?_⟩; rintro rfl
 refine ch (ct ?_)
 exact ⟨_, rfl, F.cut _ trivial, H⟩
 clear F H hm
 rintro a w ⟨r25, rfl, F, H⟩; have hm := elimL hm25; clear hm25
 refine ct (sr (bk [0] F H rfl trivial ?_)); clear F; intro a F
 refine nl (wr ?_)
 cases hm
 refine x_ret1 F rfl rfl ?_
 exact ⟨_, rfl, rfl, H⟩
theorem ent71 : ∀ args w, (callFunc 71 args).run Tryz.prog w = .ok (.enter 71 args) w := enters Tryz.func71 (by kernel_rfl) rfl
set_option maxRecDepth 100000 in
set_option maxHeartbeats 4000000 in
theorem w_m_triremeref09_Split {x0_ : List UInt8}  {w0 w : World} {l : List HP}  {r : (List (List UInt8)) × Bool} (hm : m_triremeref09_Split x0_ = some r) (H : St w0 w (l)) :
  Calls Tryz.prog 46 [.string (txb (x0_))].toArray w (fun e w' => ∃ v, e = .returned v ∧ ∃ (p1 : Option Addr) (c1 : Nat), v = .tuple [.slice p1 (r.1).length c1, .bool (r.2)].toArray ∧ St w0 w' (HP.sl rStr p1 c1 r.1 :: l)) := by
 unfold m_triremeref09_Split at hm
 refine x_enter Tryz.func46 rfl rfl rfl ?_
 intro a F
 refine sr (bk [0, 0] F H rfl trivial ?_); clear F; intro a F
 refine nl (sr (s_build0O (R := rStr) wkP F rfl rfl rfl elem35 rfl H ?_)); clear F H; intro b2 w a H F
 refine bk [0] F H rfl trivial ?_; clear F; intro a F
 replace H := H.nf 1 rfl
 refine nl (sq (sr (bk [0] F H rfl trivial ?_))); clear F; intro a F
 refine s_val wkP F rfl rfl rfl rfl (y_eqT (l := x0_) (m := [47]) F rfl rfl rfl) ?_; clear F; intro a F
 refine nl (cP F rfl (fun hg3 => ?_) (fun hg3 => ?_))
 replace hm := ifT hg3 hm
 refine sr (bk [0, 0, 0] F H rfl trivial ?_); clear F; intro a F
 refine nl (wr (tr ?_))
 replace H := H.frz 0 rfl
 cases hm
 refine x_ret2 F rfl rfl rfl ?_
 exact ⟨_, rfl, (some ⟨b2, 0, none⟩), 0, rfl, H⟩
 replace hm := ifF hg3 hm
 refine sk (ct (sq (sr (bk [0] F H rfl trivial ?_)))); clear F; intro a F
 refine s_val wkP F rfl rfl rfl rfl (y_lenT (l := x0_) F rfl Tryz.underlying9 rfl) ?_; clear F; intro a F
 refine bk [0, 0] F H rfl trivial ?_; clear F; intro a F
 by_cases hg4 : ((x0_).length : Int) < 2
 replace hm := ifT hg4 hm
 replace F := F.bT 14 hg4 rfl
 refine bk (List.replicate 9 0) F H rfl trivial ?_; clear F; intro a F
 refine nl (cT F rfl ?_)
 refine sr (bk [0, 0, 0] F H rfl trivial ?_); clear F; intro a F
 refine nl (wr (tr ?_))
 replace H := H.frz 0 rfl
 cases hm
 refine x_ret2 F rfl rfl rfl ?_
 exact ⟨_, rfl, (some ⟨b2, 0, none⟩), 0, rfl, H⟩
 replace hm := ifF hg4 hm
 replace F := F.bF 14 hg4 rfl
 refine bk [0] F H rfl trivial ?_; clear F; intro a F
 refine g_onP F rfl rfl rfl rfl ?_
 refine s_val wkP F rfl rfl rfl rfl (y_lenT (l := x0_) F rfl Tryz.underlying9 rfl) ?_; clear F; intro a F
 refine bk [0, 0, 0] F H rfl trivial ?_; clear F; intro a F
 by_cases hg5 : 24 < ((x0_).length : Int)
 replace hm := ifT hg5 hm
 replace F := F.bT 19 hg5 rfl
 refine bk [0, 0, 0, 0] F H rfl trivial ?_; clear F; intro a F
 refine nl (cT F rfl ?_)
 refine sr (bk [0, 0, 0] F H rfl trivial ?_); clear F; intro a F
 refine nl (wr (tr ?_))
 replace H := H.frz 0 rfl
 cases hm
 refine x_ret2 F rfl rfl rfl ?_
 exact ⟨_, rfl, (some ⟨b2, 0, none⟩), 0, rfl, H⟩
 replace hm := ifF hg5 hm
 replace F := F.bF 19 hg5 rfl
 refine bk [0] F H rfl trivial ?_; clear F; intro a F
 refine g_onP F rfl rfl rfl rfl ?_
 obtain ⟨x6, ex6, hm⟩ := ob hm
 refine s_val wkP F rfl rfl rfl rfl (y_idxT F rfl Tryz.underlying9 rfl rfl ex6) ?_; clear F; intro a F
 refine bk [0, 0] F H rfl trivial ?_; clear F; intro a F
 refine nl (cN F rfl (fun hg7 => ?_) (fun hg7 => ?_))
 replace hm := ifF hg7 hm
 refine sr (bk [0, 0, 0] F H rfl trivial ?_); clear F; intro a F
 refine nl (wr (tr ?_))
 replace H := H.frz 0 rfl
 cases hm
 refine x_ret2 F rfl rfl rfl ?_
 exact ⟨_, rfl, (some ⟨b2, 0, none⟩), 0, rfl, H⟩
 replace hm := ifT hg7 hm
 refine sk (ct (sr (bk [0] F H rfl trivial ?_))); clear F; intro a F
 refine nl (sq (sr (bk [0] F H rfl trivial ?_))); clear F; intro a F
 refine nl ?_
 obtain ⟨o135, eo135, hm135⟩ := ob hm; clear hm; revert eo135; intro hm
 refine x_mid (fun aa ww => ∃ r135, o135 = Sum.inl r135 ∧ ∃ (p136 : Option Addr) (c136 : Nat), Fr ⟨58, []⟩ aa [(4, .slice p136 (r135).length c136)] ∧ St w0 ww (HP.ow rStr 9 p136 c136 r135 :: l)) ?_ ?_
 refine bl (x_loopO _ (fun (s221 : (List (List UInt8)) × Int × Int) aa ww => ∃ (p222 : Option Addr) (c222 : Nat), Fr ⟨58, []⟩ aa [(0, .string (txb (x0_))), (4, .slice p222 (s221.1).length c222), (5, .int .i64 (s221.2.1)), (6, .int .i64 (s221.2.2))] ∧ St w0 ww (HP.ow rStr 9 p222 c222 s221.1 :: l)) hm ⟨(some ⟨b2, 0, none⟩), 0, F.sl rfl, H⟩ ?_)
 clear F H hm
 rintro s221 a w o ⟨p222, c222, F, H⟩ hm
 refine sq (sr (bk [0, 0] F H rfl trivial ?_)); clear F; intro a F
 refine s_val wkP F rfl rfl rfl rfl (y_lenT (l := x0_) F rfl Tryz.underlying9 rfl) ?_; clear F; intro a F
 refine bk [0] F H rfl trivial ?_; clear F; intro a F
 refine nl (cP F rfl (fun hg223 => ?_) (fun hg223 => ?_))
 replace hm := ifT hg223 hm
 refine sk (ct (sq ?_))
 obtain ⟨o243, eo243, hm243⟩ := ob hm; clear hm; revert eo243; intro hm
 refine x_mid (fun aa ww => ∃ r243, o243 = Sum.inl r243 ∧ ∃ (p244 : Option Addr) (c244 : Nat), Fr ⟨58, []⟩ aa [(0, .string (txb (x0_))), (4, .slice p244 (r243.1).length c244), (5, .int .i64 (r243.2)), (6, .int .i64 (s221.2.2))] ∧ St w0 ww (HP.ow rStr 9 p244 c244 r243.1 :: l)) ?_ ?_
 refine bl (sq (sr (bk [0, 0] F H rfl trivial ?_))); clear F; intro a F
 refine s_val wkP F rfl rfl rfl rfl (y_lenT (l := x0_) F rfl Tryz.underlying9 rfl) ?_; clear F; intro a F
 refine bk [0, 0] F H rfl trivial ?_; clear F; intro a F
 by_cases hg245 : s221.2.2 < ((x0_).length : Int)
 replace hm := ifT hg245 hm
 replace F := F.bT 35 hg245 rfl
 refine bk [0, 0] F H rfl trivial ?_; clear F; intro a F
 refine g_onP F rfl rfl rfl rfl ?_
 obtain ⟨x246, ex246, hm⟩ := ob hm
 refine s_val wkP F rfl rfl rfl rfl (y_idxT F rfl Tryz.underlying9 rfl rfl ex246) ?_; clear F; intro a F
 refine bk [0, 0] F H rfl trivial ?_; clear F; intro a F
 refine nl (cN F rfl (fun hg247 => ?_) (fun hg247 => ?_))
 replace hm := ifF hg247 hm
 refine ex (cx (ch ?_))
 cases hm
 refine ct ?_
 exact ⟨_, rfl, p222, c222, F.sl rfl, H⟩
 replace hm := ifT hg247 hm
 refine sk (ct (sq (sr (bk [0, 0, 0] F H rfl trivial ?_)))); clear F; intro a F
 obtain ⟨x248, ex248, hm⟩ := ob hm
 refine s_val wkP F rfl rfl rfl rfl (y_slTLH F rfl Tryz.underlying9 rfl rfl rfl ex248) ?_; clear F; intro a F
 obtain ⟨x249, ex249, hm⟩ := ob hm
 refine sc wkP F rfl ent71 (w_m_triremeref09_Name ex249 H:) ?_; clear F H; rintro _ w a ⟨rfl, H⟩ F
 refine bk [0] F H rfl trivial ?_; clear F; intro a F
 replace H := H.nf 1 rfl
 refine nl (cB F rfl (fun hg250 => ?_) (fun hg250 => ?_))
 replace hm := ifT hg250 hm
 refine sr (s_build0O (R := rStr) wkP F rfl rfl rfl elem35 rfl H ?_); clear F H; intro b251 w a H F
 refine bk [0, 0] F H rfl trivial ?_; clear F; intro a F
 replace H := H.nf 2 rfl
 refine nl (wr (tr (br (tr ?_))))
 cases hm
 replace hm := elimR hm243
 refine tr (tr ?_); cases hm; refine ⟨_, rfl, ?_⟩; rintro rfl
 refine br (tr ?_)
 replace hm := elimR hm135
 refine tr ?_
 replace H := H.frz 0 rfl
 cases hm
 refine x_ret2 F rfl rfl rfl ?_
 exact ⟨_, rfl, (some ⟨b251, 0, none⟩), 0, rfl, (H.pm 2 [0] rfl:)⟩
 replace hm := ifF (nT hg250) hm
 refine sk (ct (sr (bk [0, 0, 0, 0] F H rfl trivial ?_))); clear F; intro a F
 obtain ⟨x252, ex252, hm⟩ := ob hm
 refine s_val wkP F rfl rfl rfl rfl (y_slTLH F rfl Tryz.underlying9 rfl rfl rfl ex252) ?_; clear F; intro a F
 refine s_buildC wkP F rfl rfl rfl elem35 zero9 rfl rfl rfl rfl (by simp [Value.cells]) (by decide) H ?_; clear F H; intro b253 w a H F
 replace H := H.blkOw1 (R := rStr) (x := x252) (fun gg => rfl)
 replace H := H.frz 0 rfl
 obtain ⟨x255, ex255, hm⟩ := ob hm
 refine s_app wkP F rfl rfl rfl rfl rfl rfl elem35 rfl ex255 H 1 0 rfl rfl ?_; clear F H; intro p254 c254 w a H F
 refine bk [0] F H rfl trivial ?_; clear F; intro a F
 replace H := H.nf 2 rfl
 refine nl (rl (bk [0, 0, 0] F H rfl trivial ?_)); clear F; intro a F
 refine lz (bn ?_)
 cases hm
 refine ct ?_
 exact ⟨_, rfl, p254, c254, F.sl rfl, (H.pm 2 [1] rfl:)⟩
 replace hm := ifF hg245 hm
 replace F := F.bF 35 hg245 rfl
 refine bk (List.replicate 5 0) F H rfl trivial ?_; clear F; intro a F
 refine nl (cF F rfl ?_)
 refine sk (ct (sq (sr (bk [0, 0, 0] F H rfl trivial ?_)))); clear F; intro a F
 obtain ⟨x256, ex256, hm⟩ := ob hm
 refine s_val wkP F rfl rfl rfl rfl (y_slTLH F rfl Tryz.underlying9 rfl rfl rfl ex256) ?_; clear F; intro a F
 obtain ⟨x257, ex257, hm⟩ := ob hm
 refine sc wkP F rfl ent71 (w_m_triremeref09_Name ex257 H:) ?_; clear F H; rintro _ w a ⟨rfl, H⟩ F
 refine bk [0] F H rfl trivial ?_; clear F; intro a F
 replace H := H.nf 1 rfl
 refine nl (cB F rfl (fun hg258 => ?_) (fun hg258 => ?_))
 replace hm := ifT hg258 hm
 refine sr (s_build0O (R := rStr) wkP F rfl rfl rfl elem35 rfl H ?_); clear F H; intro b259 w a H F
 refine bk [0, 0] F H rfl trivial ?_; clear F; intro a F
 replace H := H.nf 2 rfl
 refine nl (wr (tr (br (tr ?_))))
 cases hm
 replace hm := elimR hm243
 refine tr (tr ?_); cases hm; refine ⟨_, rfl, ?_⟩; rintro rfl
 refine br (tr ?_)
 replace hm := elimR hm135
 refine tr ?_
 replace H := H.frz 0 rfl
 cases hm
 refine x_ret2 F rfl rfl rfl ?_
 exact ⟨_, rfl, (some ⟨b259, 0, none⟩), 0, rfl, (H.pm 2 [0] rfl:)⟩
 replace hm := ifF (nT hg258) hm
 refine sk (ct (sr (bk [0, 0, 0, 0] F H rfl trivial ?_))); clear F; intro a F
 obtain ⟨x260, ex260, hm⟩ := ob hm
 refine s_val wkP F rfl rfl rfl rfl (y_slTLH F rfl Tryz.underlying9 rfl rfl rfl ex260) ?_; clear F; intro a F
 refine s_buildC wkP F rfl rfl rfl elem35 zero9 rfl rfl rfl rfl (by simp [Value.cells]) (by decide) H ?_; clear F H; intro b261 w a H F
 replace H := H.blkOw1 (R := rStr) (x := x260) (fun gg => rfl)
 replace H := H.frz 0 rfl
 obtain ⟨x263, ex263, hm⟩ := ob hm
 refine s_app wkP F rfl rfl rfl rfl rfl rfl elem35 rfl ex263 H 1 0 rfl rfl ?_; clear F H; intro p262 c262 w a H F
 refine bk [0] F H rfl trivial ?_; clear F; intro a F
 replace H := H.nf 2 rfl
 refine nl (rl (bk [0, 0, 0] F H rfl trivial ?_)); clear F; intro a F
 refine lz (bn ?_)
 cases hm
 refine ct ?_
 exact ⟨_, rfl, p262, c262, F.sl rfl, (H.pm 2 [1] rfl:)⟩
 clear F H hm
 rintro a w ⟨r243, rfl, p244, c244, F, H⟩; have hm := elimL hm243; clear hm243
 refine ct (rl (bk [0, 0, 0] F H rfl trivial ?_)); clear F; intro a F
 refine lz (ct ?_); cases hm
 exact ⟨_, rfl, ⟨p244, c244, F.sl rfl, H⟩⟩
 replace hm := ifF hg223 hm
 refine ex (cx (cx ?_)); cases hm; refine ⟨_, rfl, ?_⟩; rintro rfl
 refine ch (ct ?_)
 exact ⟨_, rfl, p222, c222, F.sl rfl, H⟩
 clear F H hm
 rintro a w ⟨r135, rfl, p136, c136, F, H⟩; have hm := elimL hm135; clear hm135
 refine ct (sr (bk [0, 0, 0] F H rfl trivial ?_)); clear F; intro a F
 refine nl (wr ?_)
 replace H := H.frz 0 rfl
 cases hm
 refine x_ret2 F rfl rfl rfl ?_
 exact ⟨_, rfl, p136, c136, rfl, H⟩
set_option maxRecDepth 100000 in
set_option maxHeartbeats 4000000 in
theorem w_m_triremeref09_Join {x0_ : List (List UInt8)} {p1 : Option Addr} {c1 : Nat} {w0 w : World} {l : List HP}  {r : (List UInt8)} (hm : m_triremeref09_Join x0_ = some r) (H : St w0 w (HP.sl rStr p1 c1 x0_ :: l)) :
  Calls Tryz.prog 47 [.slice p1 (x0_).length c1].toArray w (fun e w' => ∃ v, e = .returned v ∧ v = .string (txb (r)) ∧ St w0 w' (l)) := by
 unfold m_triremeref09_Join at hm
 refine x_enter Tryz.func47 rfl rfl rfl ?_
 intro a F
 refine sr (bk [0] F H rfl trivial ?_); clear F; intro a F
 refine nl (sq (sr (bk [0, 0, 0] F H rfl ⟨⟨_, Tryz.underlying35⟩, trivial⟩ ?_))); clear F; intro a F
 refine nl (cP F rfl (fun hg2 => ?_) (fun hg2 => ?_))
 replace hm := ifT hg2 hm
 refine sr (bk [0] F H rfl trivial ?_); clear F; intro a F
 refine nl (wr (tr ?_))
 cases hm
 refine x_ret1 F rfl rfl ?_
 exact ⟨_, rfl, rfl, (H.pm 1 [] rfl:)⟩
 replace hm := ifF hg2 hm
 refine sk (ct (sr (bk [0] F H rfl trivial ?_))); clear F; intro a F
 refine nl (sq (sr (bk [0] F H rfl trivial ?_))); clear F; intro a F
 refine nl ?_
 obtain ⟨r22, er22, hm22⟩ := ob hm; clear hm; revert er22; intro hm
 refine x_mid (fun aa ww => Fr ⟨22, []⟩ aa [(3, .string (txb (r22)))] ∧ St w0 ww (l)) ?_ ?_
 refine bl (x_loopO _ (fun (s35 : (List UInt8) × Int) aa ww => Fr ⟨22, []⟩ aa [(0, .slice p1 (x0_).length c1), (3, .string (txb (s35.1))), (4, .int .i64 (s35.2))] ∧ St w0 ww (HP.sl rStr p1 c1 x0_ :: l)) hm ⟨F.sl rfl, H⟩ ?_)
 clear F H hm
 rintro s35 a w o ⟨F, H⟩ hm
 refine sq (sr (bk [0, 0, 0, 0] F H rfl ⟨⟨_, Tryz.underlying35⟩, trivial⟩ ?_)); clear F; intro a F
 refine nl (cP F rfl (fun hg36 => ?_) (fun hg36 => ?_))
 replace hm := ifT hg36 hm
 refine sk (ct (sq (bl (rl (bk [0, 0, 0] F H rfl trivial ?_))))); clear F; intro a F
 obtain ⟨x37, ex37, hm⟩ := ob hm
 obtain ⟨b38, o38, hp38⟩ := H.slP 0 rfl (idxO_some ex37).2
 obtain ⟨cs39, hcl39, H⟩ := H.slEl 0 rfl hp38 (idxO_some ex37).2
 obtain rfl := H.rcStr 1 rfl
 replace H := H.dp 1 rfl
 clear hcl39
 refine s_val wkP F rfl rfl rfl rfl (y_idxS F elem35 rfl rfl rfl hp38 ex37) ?_; clear F; intro a F
 refine bk [0] F H rfl ⟨rfl, plain9, trivial⟩ ?_; clear F; intro a F
 obtain ⟨x40, ex40, hm⟩ := ob hm
 refine s_val wkP F rfl rfl rfl rfl (y_addO F rfl rfl rfl ex40) ?_; clear F; intro a F
 obtain ⟨x41, ex41, hm⟩ := ob hm
 refine s_val wkP F rfl rfl rfl rfl (y_addO F rfl rfl rfl ex41) ?_; clear F; intro a F
 refine bk [0] F H rfl trivial ?_; clear F; intro a F
 refine lz (bn (ct (rl (bk [0, 0, 0] F H rfl trivial ?_)))); clear F; intro a F
 refine lz (ct ?_); cases hm
 exact ⟨_, rfl, ⟨F.sl rfl, (H.pm 2 [1] rfl:)⟩⟩
 replace hm := ifF hg36 hm
 refine ex (cx (cx ?_)); cases hm; refine ⟨_, rfl, ?_⟩; rintro rfl
 refine ch (ct ?_)
 exact ⟨F.sl rfl, (H.pm 1 [] rfl:)⟩
 clear F H hm
 rintro a w ⟨F, H⟩; have hm := hm22; clear hm22
 refine ct (sr (bk [0, 0] F H rfl trivial ?_)); clear F; intro a F
 refine nl (wr ?_)
 cases hm
 refine x_ret1 F rfl rfl ?_
 exact ⟨_, rfl, rfl, H⟩
theorem ent46 : ∀ args w, (callFunc 46 args).run Tryz.prog w = .ok (.enter 46 args) w := enters Tryz.func46 (by kernel_rfl) rfl
set_option maxRecDepth 100000 in
set_option maxHeartbeats 4000000 in
theorem w_m_triremeref09_Right {x0_ : List UInt8}  {w0 w : World} {l : List HP}  {r : Bool} (hm : m_triremeref09_Right x0_ = some r) (H : St w0 w (l)) :
  Calls Tryz.prog 28 [.string (txb (x0_))].toArray w (fun e w' => ∃ v, e = .returned v ∧ v = .bool (r) ∧ St w0 w' (l)) := by
 unfold m_triremeref09_Right at hm
 refine x_enter Tryz.func28 rfl rfl rfl ?_
 intro a F
 refine sr (bk [0] F H rfl trivial ?_); clear F; intro a F
 refine nl (sr (bk [0] F H rfl trivial ?_)); clear F; intro a F
 obtain ⟨x1, ex1, hm⟩ := ob hm
 refine sc wkP F rfl ent46 (w_m_triremeref09_Split ex1 H:) ?_; clear F H; rintro _ w a ⟨p2, c2, rfl, H⟩ F
 refine bk (List.replicate 5 0) F H rfl trivial ?_; clear F; intro a F
 replace H := H.nf 1 rfl
 refine nl (sr (bk [0, 0] F H rfl trivial ?_)); clear F; intro a F
 refine nl (wr ?_)
 cases hm
 refine x_ret1 F rfl rfl ?_
 exact ⟨_, rfl, rfl, (H.pm 1 [] rfl:)⟩
theorem ent47 : ∀ args w, (callFunc 47 args).run Tryz.prog w = .ok (.enter 47 args) w := enters Tryz.func47 (by kernel_rfl) rfl
set_option maxRecDepth 100000 in
set_option maxHeartbeats 4000000 in
theorem w_m_triremeref09_Parent {x0_ : List UInt8}  {w0 w : World} {l : List HP}  {r : (List UInt8)} (hm : m_triremeref09_Parent x0_ = some r) (H : St w0 w (l)) :
  Calls Tryz.prog 29 [.string (txb (x0_))].toArray w (fun e w' => ∃ v, e = .returned v ∧ v = .string (txb (r)) ∧ St w0 w' (l)) := by
 unfold m_triremeref09_Parent at hm
 refine x_enter Tryz.func29 rfl rfl rfl ?_
 intro a F
 refine sr (bk [0] F H rfl trivial ?_); clear F; intro a F
 refine nl (sr (bk [0] F H rfl trivial ?_)); clear F; intro a F
 obtain ⟨x1, ex1, hm⟩ := ob hm
 refine sc wkP F rfl ent46 (w_m_triremeref09_Split ex1 H:) ?_; clear F H; rintro _ w a ⟨p2, c2, rfl, H⟩ F
 refine bk (List.replicate 5 0) F H rfl trivial ?_; clear F; intro a F
 replace H := H.nf 1 rfl
 refine nl (sq (sr (bk [0, 0, 0] F H rfl ⟨⟨_, Tryz.underlying35⟩, trivial⟩ ?_))); clear F; intro a F
 refine nl (cP F rfl (fun hg3 => ?_) (fun hg3 => ?_))
 replace hm := ifT hg3 hm
 refine sr (bk [0] F H rfl trivial ?_); clear F; intro a F
 refine nl (wr (tr ?_))
 cases hm
 refine x_ret1 F rfl rfl ?_
 exact ⟨_, rfl, rfl, (H.pm 1 [] rfl:)⟩
 replace hm := ifF hg3 hm
 refine sk (ct (sr (bk [0, 0, 0, 0] F H rfl ⟨⟨_, Tryz.underlying35⟩, trivial⟩ ?_))); clear F; intro a F
 obtain ⟨x5, ex5, hm⟩ := ob hm
 have hc4 := H.slCap 0 rfl
 replace H := H.slSubN 1 rfl 0 rfl ex5
 refine s_val wkP F rfl rfl rfl rfl (y_slH F elem35 rfl rfl rfl ex5 hc4) ?_; clear F; intro a F
 obtain ⟨x6, ex6, hm⟩ := ob hm
 refine sc wkP F rfl ent47 (w_m_triremeref09_Join ex6 (H.pm 2 [0, 0, 1] rfl:):) ?_; clear F H; rintro _ w a ⟨rfl, H⟩ F
 refine bk [0] F H rfl trivial ?_; clear F; intro a F
 replace H := H.nf 2 rfl
 refine nl (wr ?_)
 cases hm
 refine x_ret1 F rfl rfl ?_
 exact ⟨_, rfl, rfl, (H.pm 2 [] rfl:)⟩
set_option maxRecDepth 100000 in
set_option maxHeartbeats 4000000 in
theorem w_m_triremeref09_Base {x0_ : List UInt8}  {w0 w : World} {l : List HP}  {r : (List UInt8)} (hm : m_triremeref09_Base x0_ = some r) (H : St w0 w (l)) :
  Calls Tryz.prog 70 [.string (txb (x0_))].toArray w (fun e w' => ∃ v, e = .returned v ∧ v = .string (txb (r)) ∧ St w0 w' (l)) := by
 unfold m_triremeref09_Base at hm
 refine x_enter Tryz.func70 rfl rfl rfl ?_
 intro a F
 refine sr (bk [0] F H rfl trivial ?_); clear F; intro a F
 refine nl (sr (bk [0] F H rfl trivial ?_)); clear F; intro a F
 obtain ⟨x1, ex1, hm⟩ := ob hm
 refine sc wkP F rfl ent46 (w_m_triremeref09_Split ex1 H:) ?_; clear F H; rintro _ w a ⟨p2, c2, rfl, H⟩ F
 refine bk (List.replicate 5 0) F H rfl trivial ?_; clear F; intro a F
 replace H := H.nf 1 rfl
 refine nl (sq (sr (bk [0, 0, 0] F H rfl ⟨⟨_, Tryz.underlying35⟩, trivial⟩ ?_))); clear F; intro a F
 refine nl (cP F rfl (fun hg3 => ?_) (fun hg3 => ?_))
 replace hm := ifT hg3 hm
 refine sr (bk [0] F H rfl trivial ?_); clear F; intro a F
 refine nl (wr (tr ?_))
 cases hm
 refine x_ret1 F rfl rfl ?_
 exact ⟨_, rfl, rfl, (H.pm 1 [] rfl:)⟩
 replace hm := ifF hg3 hm
 refine sk (ct (sr (bk [0, 0, 0, 0] F H rfl ⟨⟨_, Tryz.underlying35⟩, trivial⟩ ?_))); clear F; intro a F
 obtain ⟨x4, ex4, hm⟩ := ob hm
 obtain ⟨b5, o5, hp5⟩ := H.slP 0 rfl (idxO_some ex4).2
 obtain ⟨cs6, hcl6, H⟩ := H.slEl 0 rfl hp5 (idxO_some ex4).2
 obtain rfl := H.rcStr 1 rfl
 replace H := H.dp 1 rfl
 clear hcl6
 refine s_val wkP F rfl rfl rfl rfl (y_idxS F elem35 rfl rfl rfl hp5 ex4) ?_; clear F; intro a F
 refine bk [0, 0] F H rfl ⟨rfl, plain9, trivial⟩ ?_; clear F; intro a F
 refine nl (wr ?_)
 cases hm
 refine x_ret1 F rfl rfl ?_
 exact ⟨_, rfl, rfl, (H.pm 2 [] rfl:)⟩
theorem ent28 : ∀ args w, (callFunc 28 args).run Tryz.prog w = .ok (.enter 28 args) w := enters Tryz.func28 (by kernel_rfl) rfl
set_option maxRecDepth 100000 in
set_option maxHeartbeats 4000000 in
theorem w_m_triremeref09_Within {x0_ : List UInt8} {x1_ : List UInt8}  {w0 w : World} {l : List HP}  {r : Bool} (hm : m_triremeref09_Within x0_ x1_ = some r) (H : St w0 w (l)) :
  Calls Tryz.prog 69 [.string (txb (x0_)), .string (txb (x1_))].toArray w (fun e w' => ∃ v, e = .returned v ∧ v = .bool (r) ∧ St w0 w' (l)) := by
 unfold m_triremeref09_Within at hm
 refine x_enter Tryz.func69 rfl rfl rfl ?_
 intro a F
 refine sr (bk [0] F H rfl trivial ?_); clear F; intro a F
 refine nl (sq (sr (bk [0] F H rfl trivial ?_))); clear F; intro a F
 obtain ⟨x1, ex1, hm⟩ := ob hm
 refine sc wkP F rfl ent28 (w_m_triremeref09_Right ex1 H:) ?_; clear F H; rintro _ w a ⟨rfl, H⟩ F
 refine bk [0, 0] F H rfl trivial ?_; clear F; intro a F
 by_cases hg2 : (!x1) = true
 replace hm := ifT hg2 hm
 replace F := F.vT 8 hg2 rfl
 refine bk [0, 0, 0, 0] F H rfl trivial ?_; clear F; intro a F
 refine nl (cT F rfl ?_)
 refine sr (bk [0] F H rfl trivial ?_); clear F; intro a F
 refine nl (wr (tr ?_))
 cases hm
 refine x_ret1 F rfl rfl ?_
 exact ⟨_, rfl, rfl, H⟩
 replace hm := ifF hg2 hm
 replace F := F.vF 8 hg2 rfl
 refine bk [0] F H rfl trivial ?_; clear F; intro a F
 refine g_onP F rfl rfl rfl rfl ?_
 obtain ⟨x3, ex3, hm⟩ := ob hm
 refine sc wkP F rfl ent28 (w_m_triremeref09_Right ex3 H:) ?_; clear F H; rintro _ w a ⟨rfl, H⟩ F
 refine bk [0, 0] F H rfl trivial ?_; clear F; intro a F
 refine nl (cB F rfl (fun hg4 => ?_) (fun hg4 => ?_))
 replace hm := ifT hg4 hm
 refine sr (bk [0] F H rfl trivial ?_); clear F; intro a F
 refine nl (wr (tr ?_))
 cases hm
 refine x_ret1 F rfl rfl ?_
 exact ⟨_, rfl, rfl, H⟩
 replace hm := ifF (nT hg4) hm
 refine sk (ct (sq (sr (bk [0] F H rfl trivial ?_)))); clear F; intro a F
 refine s_val wkP F rfl rfl rfl rfl (y_eqT (l := x0_) (m := [47]) F rfl rfl rfl) ?_; clear F; intro a F
 refine bk [0] F H rfl trivial ?_; clear F; intro a F
 by_cases hg5 : x0_ = ([47])
 replace hm := ifT hg5 hm
 replace F := F.bT 15 hg5 rfl
 refine bk [0, 0, 0, 0] F H rfl trivial ?_; clear F; intro a F
 refine nl (cT F rfl ?_)
 refine sr (bk [0] F H rfl trivial ?_); clear F; intro a F
 refine nl (wr (tr ?_))
 cases hm
 refine x_ret1 F rfl rfl ?_
 exact ⟨_, rfl, rfl, H⟩
 replace hm := ifF hg5 hm
 replace F := F.bF 15 hg5 rfl
 refine bk [0, 0] F H rfl trivial ?_; clear F; intro a F
 refine g_onP F rfl rfl rfl rfl ?_
 refine s_val wkP F rfl rfl rfl rfl (y_eqT (l := x0_) (m := x1_) F rfl rfl rfl) ?_; clear F; intro a F
 refine bk [0] F H rfl trivial ?_; clear F; intro a F
 refine nl (cP F rfl (fun hg6 => ?_) (fun hg6 => ?_))
 replace hm := ifT hg6 hm
 refine sr (bk [0] F H rfl trivial ?_); clear F; intro a F
 refine nl (wr (tr ?_))
 cases hm
 refine x_ret1 F rfl rfl ?_
 exact ⟨_, rfl, rfl, H⟩
 replace hm := ifF hg6 hm
 refine sk (ct (sr (bk [0] F H rfl trivial ?_))); clear F; intro a F
 refine s_val wkP F rfl rfl rfl rfl (y_lenT (l := x1_) F rfl Tryz.underlying9 rfl) ?_; clear F; intro a F
 refine bk [0] F H rfl trivial ?_; clear F; intro a F
 refine s_val wkP F rfl rfl rfl rfl (y_lenT (l := x0_) F rfl Tryz.underlying9 rfl) ?_; clear F; intro a F
 refine bk [0, 0] F H rfl trivial ?_; clear F; intro a F
 by_cases hg7 : ((x0_).length : Int) < ((x1_).length : Int)
 replace hm := ifT hg7 hm
 replace F := F.bT 25 hg7 rfl
 refine bk [0, 0] F H rfl trivial ?_; clear F; intro a F
 refine g_onP F rfl rfl rfl rfl ?_
 refine s_val wkP F rfl rfl rfl rfl (y_lenT (l := x0_) F rfl Tryz.underlying9 rfl) ?_; clear F; intro a F
 refine g_onP F rfl rfl rfl rfl ?_
 obtain ⟨x8, ex8, hm⟩ := ob hm
 refine s_val wkP F rfl rfl rfl rfl (y_slTH F rfl Tryz.underlying9 rfl rfl ex8) ?_; clear F; intro a F
 refine bk [0] F H rfl trivial ?_; clear F; intro a F
 refine g_onP F rfl rfl rfl rfl ?_
 refine s_val wkP F rfl rfl rfl rfl (y_eqT (l := x8) (m := x0_) F rfl rfl rfl) ?_; clear F; intro a F
 refine bk [0, 0] F H rfl trivial ?_; clear F; intro a F
 by_cases hg9 : x8 = x0_
 replace hm := ifT hg9 hm
 replace F := F.bT 33 hg9 rfl
 refine bk [0, 0] F H rfl trivial ?_; clear F; intro a F
 refine g_onP F rfl rfl rfl rfl ?_
 refine s_val wkP F rfl rfl rfl rfl (y_lenT (l := x0_) F rfl Tryz.underlying9 rfl) ?_; clear F; intro a F
 refine g_onP F rfl rfl rfl rfl ?_
 obtain ⟨x10, ex10, hm⟩ := ob hm
 refine s_val wkP F rfl rfl rfl rfl (y_idxT F rfl Tryz.underlying9 rfl rfl ex10) ?_; clear F; intro a F
 refine bk [0, 0, 0] F H rfl trivial ?_; clear F; intro a F
 refine nl (wr ?_)
 cases hm
 refine x_ret1 F rfl rfl ?_
 exact ⟨_, rfl, rfl, H⟩
 replace hm := ifF hg9 hm
 replace F := F.bF 33 hg9 rfl
 refine bk (List.replicate 7 0) F H rfl trivial ?_; clear F; intro a F
 refine nl (wr ?_)
 cases hm
 refine x_ret1 F rfl rfl ?_
 exact ⟨_, rfl, rfl, H⟩
 replace hm := ifF hg7 hm
 replace F := F.bF 25 hg7 rfl
 refine bk (List.replicate 15 0) F H rfl trivial ?_; clear F; intro a F
 refine nl (wr ?_)
 cases hm
 refine x_ret1 F rfl rfl ?_
 exact ⟨_, rfl, rfl, H⟩
theorem elem30 : ElemT Tryz.prog 30 50 3 48 (.agg [.string ByteArray.empty, .bool false, .slice none 0 0].toArray) := ⟨Tryz.underlying30, by kernel_rfl, by kernel_rfl, by decide⟩
theorem fld50_0 : FieldT Tryz.prog 50 0 0 := by unfold FieldT; rw [Tryz.underlying50]; kernel_rfl
set_option maxRecDepth 100000 in
set_option maxHeartbeats 4000000 in
theorem w_m_triremeref11_Find {x0_ : List T_triremeref11_Node} {x1_ : List UInt8} {p1 : Option Addr} {c1 : Nat} {w0 w : World} {l : List HP}  {r : Int} (hm : m_triremeref11_Find x0_ x1_ = some r) (H : St w0 w (HP.sl R_triremeref11_Node p1 c1 x0_ :: l)) :
  Calls Tryz.prog 27 [.slice p1 (x0_).length c1, .string (txb (x1_))].toArray w (fun e w' => ∃ v, e = .returned v ∧ v = .int .i64 (r) ∧ St w0 w' (l)) := by
 unfold m_triremeref11_Find at hm
 refine x_enter Tryz.func27 rfl rfl rfl ?_
 intro a F
 refine sr (bk [0] F H rfl trivial ?_); clear F; intro a F
 refine nl (sq (sr (bk [0] F H rfl trivial ?_))); clear F; intro a F
 refine nl ?_
 obtain ⟨o24, eo24, hm24⟩ := ob hm; clear hm; revert eo24; intro hm
 refine x_mid (fun aa ww => ∃ r24, o24 = Sum.inl r24 ∧ Fr ⟨20, []⟩ aa [] ∧ St w0 ww (l)) ?_ ?_
 refine bl (x_loopO _ (fun (s39 : Int) aa ww => Fr ⟨20, []⟩ aa [(0, .slice p1 (x0_).length c1), (1, .string (txb (x1_))), (5, .int .i64 (s39))] ∧ St w0 ww (HP.sl R_triremeref11_Node p1 c1 x0_ :: l)) hm ⟨F.sl rfl, H⟩ ?_)
 clear F H hm
 rintro s39 a w o ⟨F, H⟩ hm
 refine sq (sr (bk [0, 0, 0, 0] F H rfl ⟨⟨_, Tryz.underlying30⟩, trivial⟩ ?_)); clear F; intro a F
 refine nl (cP F rfl (fun hg40 => ?_) (fun hg40 => ?_))
 replace hm := ifT hg40 hm
 refine sk (ct (sq (bl (sr (bk [0, 0] F H rfl trivial ?_))))); clear F; intro a F
 obtain ⟨x41, ex41, hm⟩ := ob hm
 obtain ⟨b42, o42, hp42⟩ := H.slP 0 rfl (idxO_some ex41).2
 obtain ⟨cs43, hcl43, H⟩ := H.slEl 0 rfl hp42 (idxO_some ex41).2
 clear hcl43
 refine s_val wkP F rfl rfl rfl rfl (y_idxS F elem30 rfl rfl rfl hp42 ex41) ?_; clear F; intro a F
 refine bk [0] F H rfl ⟨fld50_0, trivial⟩ ?_; clear F; intro a F
 replace H := rc_triremeref11_Node (H.pk 1 rfl); obtain ⟨p44, c45, rfl, H⟩ := H
 refine bk [1000, 0] F H rfl ⟨rfl, plain9, trivial⟩ ?_; clear F; intro a F
 refine s_val wkP F rfl rfl rfl rfl (y_eqT (l := x41.1) (m := x1_) F rfl rfl rfl) ?_; clear F; intro a F
 refine nl (cP F rfl (fun hg46 => ?_) (fun hg46 => ?_))
 replace hm := ifT hg46 hm
 refine sr (bk [0, 0] F H rfl trivial ?_); clear F; intro a F
 refine nl (wr (br (tr (tr ?_)))); cases hm; refine ⟨_, rfl, ?_⟩; rintro rfl
 refine br (tr ?_)
 replace hm := elimR hm24
 refine tr ?_
 cases hm
 refine x_ret1 F rfl rfl ?_
 exact ⟨_, rfl, rfl, (H.pm 3 [] rfl:)⟩
 replace hm := ifF hg46 hm
 refine sk (bn (ct (rl (bk [0, 0, 0] F H rfl trivial ?_)))); clear F; intro a F
 refine lz (ct ?_); cases hm
 exact ⟨_, rfl, ⟨F.sl rfl, (H.pm 3 [2] rfl:)⟩⟩
 replace hm := ifF hg40 hm
 refine ex (cx (cx ?_)); cases hm; refine ⟨_, rfl, ?_⟩; rintro rfl
 refine ch (ct ?_)
 exact ⟨_, rfl, F.cut _ trivial, (H.pm 1 [] rfl:)⟩
 clear F H hm
 rintro a w ⟨r24, rfl, F, H⟩; have hm := elimL hm24; clear hm24
 refine ct (sr (bk [0] F H rfl trivial ?_)); clear F; intro a F
 refine nl (wr ?_)
 cases hm
 refine x_ret1 F rfl rfl ?_
 exact ⟨_, rfl, rfl, H⟩
set_option maxRecDepth 100000 in
set_option maxHeartbeats 4000000 in
theorem w_m_triremeref11_put {x0_ : List T_api_Pair} {x1_ : T_api_Pair} {p1 : Option Addr} {c1 : Nat} {cs2 : List Value} {w0 w : World} {l : List HP}  {r : (List T_api_Pair)} (hm : m_triremeref11_put x0_ x1_ = some r) (H : St w0 w (HP.sl R_api_Pair p1 c1 x0_ :: HP.rc R_api_Pair cs2 x1_ :: l)) :
  Calls Tryz.prog 45 [.slice p1 (x0_).length c1, .agg cs2.toArray].toArray w (fun e w' => ∃ v, e = .returned v ∧ ∃ (p3 : Option Addr) (c3 : Nat), v = .slice p3 (r).length c3 ∧ St w0 w' (HP.sl R_api_Pair p3 c3 r :: l)) := by
 unfold m_triremeref11_put at hm
 refine x_enter Tryz.func45 rfl rfl rfl ?_
 intro a F
 refine sr (s_boxA wkP F rfl rfl rfl rfl rfl H ?_); clear F H; intro b4 w a H F
 refine bk [0] F H rfl trivial ?_; clear F; intro a F
 replace H := H.nf 3 rfl
 refine nl (sq ?_)
 obtain ⟨r22, er22, hm22⟩ := ob hm; clear hm; revert er22; intro hm
 refine x_mid (fun aa ww => ∃ (p23 : Option Addr) (c23 : Nat), Fr ⟨55, []⟩ aa [(5, .slice p23 (r22).length c23)] ∧ St w0 ww (HP.blk b4 (cs2) 60 :: HP.rc R_api_Pair cs2 x1_ :: HP.ow R_api_Pair 60 p23 c23 r22 :: l)) ?_ ?_
 refine mix_region [0, 2, 4, 5] [] (.step 0 1 (.step 0 3 (.fork 0 (.fork 2 (.step 2 4 (.step 2 5 (.step 0 6 .done))) 4 (.step 2 2 (.step 2 5 (.step 0 6 .done)))) 4 (.step 2 0 (.step 2 2 (.step 2 5 (.step 0 6 .done))))))) (fun u => ∃ ls, St w0 u (HP.blk b4 (cs2) 60 :: HP.rc R_api_Pair cs2 x1_ :: ls)) (by kernel_rfl) (by kernel_rfl) ⟨_, (H.drew.pm 3 [0, 2, 1, 2] rfl:)⟩ ?_
 replace H := H.drew
 generalize w.drew = w at H ⊢
 refine mbk [0] F H rfl trivial ?_; clear F; intro a F
 refine m_pure F rfl rfl rfl rfl (fun u hu => y_loadA F agg60 rfl rfl ((hu.choose_spec.blk 0 rfl).row) (hu.choose_spec.rcLen 1 rfl)) ?_; clear F; intro a F
 refine m_fork rfl rfl rfl rfl ?_ ?_
 refine m_heavy rfl rfl ?_
 refine s_build0O (R := R_api_Pair) wkP F rfl rfl rfl elem22 rfl H ?_; clear F H; intro b24 w a H F
 refine lz ?_; refine ct ⟨⟨_, (H.pm 4 [1, 3, 0, 2, 3] rfl:)⟩, ?_⟩
 refine m_fork rfl rfl rfl rfl ?_ ?_
 refine m_heavy rfl rfl ?_
 obtain ⟨x26, ex26, hm⟩ := ob hm
 refine s_app wkP F rfl rfl rfl rfl rfl rfl elem22 rfl ex26 H 0 2 rfl rfl ?_; clear F H; intro p25 c25 w a H F
 refine lz ?_; refine ct ⟨⟨_, (H.pm 4 [1, 3, 0, 2, 3] rfl:)⟩, ?_⟩
 refine m_heavy rfl rfl ?_
 refine s_build1 wkP F rfl rfl rfl agg60 elem22 rfl rfl (H.rcLen 3 rfl) (by decide) H ?_; clear F H; intro b27 w a H F
 replace H := H.blkOw1 (R := R_api_Pair) (x := x1_) (fun gg => (gg 4 _ rfl).choose_spec)
 refine lz ?_; refine ct ⟨⟨_, (H.pm 5 [2, 4, 0, 1, 3, 4] rfl:)⟩, ?_⟩
 refine m_heavy rfl rfl ?_
 replace H := H.frz 0 rfl
 obtain ⟨x29, ex29, hm⟩ := ob hm
 refine s_app wkP F rfl rfl rfl rfl rfl rfl elem22 rfl ex29 H 1 0 rfl rfl ?_; clear F H; intro p28 c28 w a H F
 refine lz ?_; refine ct ⟨⟨_, (H.pm 5 [2, 4, 0, 1, 3, 4] rfl:)⟩, ?_⟩
 refine mbk [0] F H rfl trivial ?_; clear F; intro a F
 refine m_nil ?_
 cases hm
 refine ct ?_
 exact ⟨p28, c28, F.sl rfl, (H.pm 5 [2, 4, 1] rfl:)⟩
 refine m_heavy rfl rfl ?_
 refine s_build1 wkP F rfl rfl rfl agg60 elem22 rfl rfl (H.rcLen 3 rfl) (by decide) H ?_; clear F H; intro b30 w a H F
 replace H := H.blkOw1 (R := R_api_Pair) (x := x1_) (fun gg => (gg 4 _ rfl).choose_spec)
 refine lz ?_; refine ct ⟨⟨_, (H.pm 5 [2, 4, 0, 1, 3, 4] rfl:)⟩, ?_⟩
 refine m_heavy rfl rfl ?_
 obtain ⟨x32, ex32, hm⟩ := ob hm
 refine s_app wkP F rfl rfl rfl rfl rfl rfl elem22 rfl ex32 H 1 3 rfl rfl ?_; clear F H; intro p31 c31 w a H F
 refine lz ?_; refine ct ⟨⟨_, (H.pm 5 [2, 4, 0, 1, 3, 4] rfl:)⟩, ?_⟩
 refine m_heavy rfl rfl ?_
 replace H := H.frz 0 rfl
 obtain ⟨x34, ex34, hm⟩ := ob hm
 refine s_app wkP F rfl rfl rfl rfl rfl rfl elem22 rfl ex34 H 1 0 rfl rfl ?_; clear F H; intro p33 c33 w a H F
 refine lz ?_; refine ct ⟨⟨_, (H.pm 5 [2, 4, 0, 1, 3, 4] rfl:)⟩, ?_⟩
 refine mbk [0] F H rfl trivial ?_; clear F; intro a F
 refine m_nil ?_
 cases hm
 refine ct ?_
 exact ⟨p33, c33, F.sl rfl, (H.pm 5 [2, 4, 1] rfl:)⟩
 refine m_heavy rfl rfl ?_
 refine s_build1 wkP F rfl rfl rfl agg60 elem22 rfl rfl (H.rcLen 2 rfl) (by decide) H ?_; clear F H; intro b35 w a H F
 replace H := H.blkOw1 (R := R_api_Pair) (x := x1_) (fun gg => (gg 3 _ rfl).choose_spec)
 refine lz ?_; refine ct ⟨⟨_, (H.pm 4 [1, 3, 0, 2, 3] rfl:)⟩, ?_⟩
 refine m_heavy rfl rfl ?_
 refine s_build0O (R := R_api_Pair) wkP F rfl rfl rfl elem22 rfl H ?_; clear F H; intro b36 w a H F
 refine lz ?_; refine ct ⟨⟨_, (H.pm 5 [2, 4, 0, 1, 3, 4] rfl:)⟩, ?_⟩
 refine m_heavy rfl rfl ?_
 obtain ⟨x38, ex38, hm⟩ := ob hm
 refine s_app wkP F rfl rfl rfl rfl rfl rfl elem22 rfl ex38 H 0 3 rfl rfl ?_; clear F H; intro p37 c37 w a H F
 refine lz ?_; refine ct ⟨⟨_, (H.pm 5 [2, 4, 0, 1, 3, 4] rfl:)⟩, ?_⟩
 refine m_heavy rfl rfl ?_
 replace H := H.frz 1 rfl
 obtain ⟨x40, ex40, hm⟩ := ob hm
 refine s_app wkP F rfl rfl rfl rfl rfl rfl elem22 rfl ex40 H 1 0 rfl rfl ?_; clear F H; intro p39 c39 w a H F
 refine lz ?_; refine ct ⟨⟨_, (H.pm 5 [2, 4, 0, 1, 3, 4] rfl:)⟩, ?_⟩
 refine mbk [0] F H rfl trivial ?_; clear F; intro a F
 refine m_nil ?_
 cases hm
 refine ct ?_
 exact ⟨p39, c39, F.sl rfl, (H.pm 5 [2, 4, 1] rfl:)⟩
 clear F H hm
 rintro a w ⟨p23, c23, F, H⟩; have hm := hm22; clear hm22
 refine ct (sq (sr (bk [0, 0, 0, 0] F H rfl ⟨⟨_, Tryz.underlying22⟩, trivial⟩ ?_))); clear F; intro a F
 refine nl ?_
 obtain ⟨r117, er117, hm117⟩ := ob hm; clear hm; revert er117; intro hm
 refine x_mid (fun aa ww => ∃ (p118 : Option Addr) (c118 : Nat), Fr ⟨55, []⟩ aa [(5, .slice p118 (r117).length c118)] ∧ St w0 ww (HP.blk b4 (cs2) 60 :: HP.rc R_api_Pair cs2 x1_ :: HP.ow R_api_Pair 60 p118 c118 r117 :: l)) ?_ ?_
 refine bl (x_loopO _ (fun (s169 : (List T_api_Pair) × Int) aa ww => ∃ (p170 : Option Addr) (c170 : Nat), Fr ⟨55, []⟩ aa [(5, .slice p170 (s169.1).length c170), (6, .int .i64 (s169.2))] ∧ St w0 ww (HP.blk b4 (cs2) 60 :: HP.rc R_api_Pair cs2 x1_ :: HP.ow R_api_Pair 60 p170 c170 s169.1 :: l)) hm ⟨p23, c23, F.sl rfl, H⟩ ?_)
 clear F H hm
 rintro s169 a w o ⟨p170, c170, F, H⟩ hm
 refine sq (sq ?_)
 by_cases hg171 : 0 < s169.2
 replace hm := ifT hg171 hm
 obtain ⟨x172, ex172, hm⟩ := ob hm
 obtain ⟨b173, hp173⟩ := H.owP 2 rfl (idxO_some ex172).2
 obtain ⟨css174, H⟩ := H.oxOpen 2 rfl
 obtain ⟨cs174, hcs174, hcl174, H⟩ := H.oxEl 2 rfl (idxO_some ex172).2
 replace H := rc_api_Pair (H.pk 0 rfl); obtain ⟨p175, c176, p177, c178, rfl, H⟩ := H
 obtain ⟨x179, ex179, hm⟩ := ob hm
 obtain ⟨cs180, hcs180, hcl180, H⟩ := H.oxEl 4 rfl (idxO_some ex179).2
 replace H := rc_api_Pair (H.pk 0 rfl); obtain ⟨p181, c182, p183, c184, rfl, H⟩ := H
 refine qr H (by kernel_rfl) (by kernel_rfl) ?_
 refine qbk [0, 0, 0] F rfl trivial ?_; clear F; intro a F
 replace F := F.bT 19 hg171 rfl
 refine qbk [0, 0] F rfl trivial ?_; clear F; intro a F
 refine qg_on F rfl rfl rfl rfl ?_
 refine q_val F rfl rfl rfl (fun u hu => y_idxS F elem22 rfl rfl rfl hp173 ex172) ?_; clear F; intro a F
 refine qbk [0] F rfl ⟨fld60_0, trivial⟩ ?_; clear F; intro a F
 refine qg_on F rfl rfl rfl rfl ?_
 refine q_val F rfl rfl rfl (fun u hu => y_load1 F plain23 rfl rfl (row_at (v := .slice p175 (x172.1).length c176) (hu.oxRow 6 rfl hp173 hcs174 hcl174) rfl)) ?_; clear F; intro a F
 refine qg_on F rfl rfl rfl rfl ?_
 refine q_val F rfl rfl rfl (fun u hu => y_b2s F Tryz.underlying23 Tryz.underlying9 Tryz.underlying5 rfl rfl (hu) 2 rfl) ?_; clear F; intro a F
 refine qbk [0, 0, 0] F rfl trivial ?_; clear F; intro a F
 refine qg_on F rfl rfl rfl rfl ?_
 refine q_val F rfl rfl rfl (fun u hu => y_idxS F elem22 rfl rfl rfl hp173 ex179) ?_; clear F; intro a F
 refine qbk [0] F rfl ⟨fld60_0, trivial⟩ ?_; clear F; intro a F
 refine qg_on F rfl rfl rfl rfl ?_
 refine q_val F rfl rfl rfl (fun u hu => y_load1 F plain23 rfl rfl (row_at (v := .slice p181 (x179.1).length c182) (hu.oxRow 6 rfl hp173 hcs180 hcl180) rfl)) ?_; clear F; intro a F
 refine qg_on F rfl rfl rfl rfl ?_
 refine q_val F rfl rfl rfl (fun u hu => y_b2s F Tryz.underlying23 Tryz.underlying9 Tryz.underlying5 rfl rfl (hu) 0 rfl) ?_; clear F; intro a F
 refine qg_on F rfl rfl rfl rfl ?_
 refine q_val F rfl rfl rfl (fun u hu => y_lssT (l := x172.1) (m := x179.1) F rfl rfl rfl) ?_; clear F; intro a F
 refine qbk [0] F rfl trivial ?_; clear F; intro a F
 refine q_nil ?_; clear H; intro w H
 replace H := H.oxShut 6 rfl
 refine ct (cB F rfl (fun hg185 => ?_) (fun hg185 => ?_))
 replace hm := ifT hg185 hm
 refine sk (ct (sq (bl (sr (bk [0, 0] F H rfl trivial ?_))))); clear F; intro a F
 obtain ⟨x186, ex186, hm⟩ := ob hm
 obtain ⟨css187, H⟩ := H.oxOpen 6 rfl
 obtain ⟨cs187, hcs187, hcl187, H⟩ := H.oxEl 6 rfl (idxO_some ex186).2
 refine s_val wkP F rfl rfl rfl rfl (y_idxS F elem22 rfl rfl rfl hp173 ex186) ?_; clear F; intro a F
 refine s_val wkP F rfl rfl rfl rfl (y_loadA F agg60 rfl rfl (H.oxRow 7 rfl hp173 hcs187 hcl187) (H.rcLen 0 rfl)) ?_; clear F; intro a F
 replace H := H.owNil rByte 5
 replace H := H.owNil rByte 5
 refine s_allocA wkP F rfl rfl rfl agz60 rfl H ?_; clear F H; intro b188 w a H F
 refine s_storeA wkP F rfl rfl agg60 rfl rfl rfl H 0 rfl (H.rcLen 3 rfl) (by simp only [List.length_append, List.length_cons, List.length_nil, icells_length, bcells_length]) (H.rcFlat 3 rfl) ?_; clear H; intro w H
 replace H := H.nf 11 rfl
 refine nl ?_
 replace H := H.oxShut 10 rfl
 refine sr (bk (List.replicate 5 0) F H rfl trivial ?_); clear F; intro a F
 obtain ⟨x189, ex189, hm⟩ := ob hm
 obtain ⟨css190, H⟩ := H.oxOpen 10 rfl
 obtain ⟨cs190, hcs190, hcl190, H⟩ := H.oxEl 10 rfl (idxO_some ex189).2
 refine s_val wkP F rfl rfl rfl rfl (y_idxS F elem22 rfl rfl rfl hp173 ex189) ?_; clear F; intro a F
 refine s_val wkP F rfl rfl rfl rfl (y_loadA F agg60 rfl rfl (H.oxRow 11 rfl hp173 hcs190 hcl190) (H.rcLen 0 rfl)) ?_; clear F; intro a F
 obtain ⟨x191, ex191, hm⟩ := ob hm
 obtain ⟨cs192, hcs192, hcl192, H⟩ := H.oxEl 11 rfl (idxO_some ex191).2
 refine s_val wkP F rfl rfl rfl rfl (y_idxS F elem22 rfl rfl rfl hp173 ex191) ?_; clear F; intro a F
 replace H := H.oxShut 12 rfl
 refine s_owSetA wkP F rfl rfl agg60 rfl rfl rfl rfl H 12 rfl hp173 ex191 (zz := x189) (fun gg => (gg 1 _ rfl).choose_spec) (H.rcFlat 1 rfl) (H.rcLen 1 rfl) ?_; clear H; intro w H
 replace H : St w0 w (HP.rc R_api_Pair cs192 x191 :: HP.rc R_api_Pair cs190 x189 :: HP.blk b188 (cs187) 60 :: HP.ow rByte 5 none 0 ([] : List UInt8) :: HP.ow rByte 5 none 0 ([] : List UInt8) :: HP.rc R_api_Pair cs187 x186 :: HP.sl rByte p181 c182 x179.1 :: HP.sl rByte p183 c184 x179.2 :: HP.sl rByte p175 c176 x172.1 :: HP.sl rByte p177 c178 x172.2 :: HP.blk b4 (cs2) 60 :: HP.rc R_api_Pair cs2 x1_ :: HP.ow R_api_Pair 60 p170 c170 ((s169.1).set (s169.2 : Int).toNat x189) :: l) := (by have h := H; first | exact h | (simp only [List.length_set] at h ⊢; exact h))
 replace F := F.bool (k := 5) (u := .slice p170 ((s169.1).set (s169.2 : Int).toNat x189).length c170) rfl (by simp only [List.length_set])
 replace F := F.bool (k := 20) (u := .slice p170 ((s169.1).set (s169.2 : Int).toNat x189).length c170) rfl (by simp only [List.length_set])
 replace F := F.bool (k := 26) (u := .slice p170 ((s169.1).set (s169.2 : Int).toNat x189).length c170) rfl (by simp only [List.length_set])
 replace F := F.bool (k := 37) (u := .slice p170 ((s169.1).set (s169.2 : Int).toNat x189).length c170) rfl (by simp only [List.length_set])
 replace F := F.bool (k := 41) (u := .slice p170 ((s169.1).set (s169.2 : Int).toNat x189).length c170) rfl (by simp only [List.length_set])
 replace F := F.bool (k := 43) (u := .slice p170 ((s169.1).set (s169.2 : Int).toNat x189).length c170) rfl (by simp only [List.length_set])
 refine nl (rl (bk [0, 0, 0, 2999] F H rfl ⟨rfl, (aggn agg60 (H.rcLen 5 rfl)), trivial⟩ ?_)); clear F; intro a F
 obtain ⟨x193, ex193, hm⟩ := ob hm
 obtain ⟨css194, H⟩ := H.oxOpen 12 rfl
 obtain ⟨cs194, hcs194, hcl194, H⟩ := H.oxEl 12 rfl (idxO_some ex193).2
 refine s_val wkP F rfl rfl rfl rfl (y_idxS F elem22 rfl rfl rfl hp173 ex193) ?_; clear F; intro a F
 replace H := H.oxShut 13 rfl
 refine s_owSetA wkP F rfl rfl agg60 rfl rfl rfl rfl H 13 rfl hp173 ex193 (zz := x186) (fun gg => (gg 6 _ rfl).choose_spec) (H.rcFlat 6 rfl) (H.rcLen 6 rfl) ?_; clear H; intro w H
 replace H : St w0 w (HP.rc R_api_Pair cs194 x193 :: HP.rc R_api_Pair cs192 x191 :: HP.rc R_api_Pair cs190 x189 :: HP.blk b188 (cs187) 60 :: HP.ow rByte 5 none 0 ([] : List UInt8) :: HP.ow rByte 5 none 0 ([] : List UInt8) :: HP.rc R_api_Pair cs187 x186 :: HP.sl rByte p181 c182 x179.1 :: HP.sl rByte p183 c184 x179.2 :: HP.sl rByte p175 c176 x172.1 :: HP.sl rByte p177 c178 x172.2 :: HP.blk b4 (cs2) 60 :: HP.rc R_api_Pair cs2 x1_ :: HP.ow R_api_Pair 60 p170 c170 (((s169.1).set (s169.2 : Int).toNat x189).set (IntKind.i64.wrap (s169.2 - 1) : Int).toNat x186) :: l) := (by have h := H; first | exact h | (simp only [List.length_set] at h ⊢; exact h))
 replace F := F.bool (k := 5) (u := .slice p170 (((s169.1).set (s169.2 : Int).toNat x189).set (IntKind.i64.wrap (s169.2 - 1) : Int).toNat x186).length c170) rfl (by simp only [List.length_set])
 replace F := F.bool (k := 20) (u := .slice p170 (((s169.1).set (s169.2 : Int).toNat x189).set (IntKind.i64.wrap (s169.2 - 1) : Int).toNat x186).length c170) rfl (by simp only [List.length_set])
 replace F := F.bool (k := 26) (u := .slice p170 (((s169.1).set (s169.2 : Int).toNat x189).set (IntKind.i64.wrap (s169.2 - 1) : Int).toNat x186).length c170) rfl (by simp only [List.length_set])
 replace F := F.bool (k := 37) (u := .slice p170 (((s169.1).set (s169.2 : Int).toNat x189).set (IntKind.i64.wrap (s169.2 - 1) : Int).toNat x186).length c170) rfl (by simp only [List.length_set])
 replace F := F.bool (k := 41) (u := .slice p170 (((s169.1).set (s169.2 : Int).toNat x189).set (IntKind.i64.wrap (s169.2 - 1) : Int).toNat x186).length c170) rfl (by simp only [List.length_set])
 replace F := F.bool (k := 43) (u := .slice p170 (((s169.1).set (s169.2 : Int).toNat x189).set (IntKind.i64.wrap (s169.2 - 1) : Int).toNat x186).length c170) rfl (by simp only [List.length_set])
 replace F := F.bool (k := 49) (u := .slice p170 (((s169.1).set (s169.2 : Int).toNat x189).set (IntKind.i64.wrap (s169.2 - 1) : Int).toNat x186).length c170) rfl (by simp only [List.length_set])
 refine lz (bn (ct (rl (bk [0, 0, 0] F H rfl trivial ?_)))); clear F; intro a F
 refine lz (ct ?_); cases hm
 exact ⟨_, rfl, ⟨p170, c170, F.sl rfl, (H.pm 14 [11, 12, 13] rfl:)⟩⟩
 replace hm := ifF (nT hg185) hm
 refine ex (cx (cx ?_)); cases hm; refine ⟨_, rfl, ?_⟩; rintro rfl
 refine ch (ct ?_)
 exact ⟨p170, c170, F.sl rfl, (H.pm 7 [4, 5, 6] rfl:)⟩
 replace hm := ifF hg171 hm
 refine qr H (by kernel_rfl) (by kernel_rfl) ?_
 refine qbk [0, 0, 0] F rfl trivial ?_; clear F; intro a F
 replace F := F.bF 19 hg171 rfl
 refine qbk (List.replicate 15 0) F rfl trivial ?_; clear F; intro a F
 refine q_nil ?_; clear H; intro w H
 refine ct (cF F rfl ?_)
 refine ex (cx (cx ?_)); cases hm; refine ⟨_, rfl, ?_⟩; rintro rfl
 refine ch (ct ?_)
 exact ⟨p170, c170, F.sl rfl, H⟩
 clear F H hm
 rintro a w ⟨p118, c118, F, H⟩; have hm := hm117; clear hm117
 refine ct (sr (bk [0, 0] F H rfl trivial ?_)); clear F; intro a F
 refine nl (wr ?_)
 replace H := H.frz 2 rfl
 cases hm
 refine x_ret1 F rfl rfl ?_
 exact ⟨_, rfl, p118, c118, rfl, (H.pm 3 [0] rfl:)⟩
theorem agg50 : AggT Tryz.prog 50 3 [.string ByteArray.empty, .bool false, .slice none 0 0] := ⟨by rw [Tryz.underlying50]; rfl, by kernel_rfl, by kernel_rfl⟩
theorem agz50 : AggT Tryz.prog 50 3 ([.string (txb ([])), .bool false, .slice none (([] : List UInt8)).length 0]) := ⟨by rw [Tryz.underlying50]; rfl, by kernel_rfl, by kernel_rfl⟩
theorem fld50_1 : FieldT Tryz.prog 50 1 1 := by unfold FieldT; rw [Tryz.underlying50]; kernel_rfl
theorem ent45 : ∀ args w, (callFunc 45 args).run Tryz.prog w = .ok (.enter 45 args) w := enters Tryz.func45 (by kernel_rfl) rfl
theorem fld50_2 : FieldT Tryz.prog 50 2 2 := by unfold FieldT; rw [Tryz.underlying50]; kernel_rfl
set_option maxRecDepth 100000 in
set_option maxHeartbeats 4000000 in
theorem w_m_triremeref11_Pairs {x0_ : List T_triremeref11_Node} {p1 : Option Addr} {c1 : Nat} {w0 w : World} {l : List HP}  {r : (List T_api_Pair)} (hm : m_triremeref11_Pairs x0_ = some r) (H : St w0 w (HP.sl R_triremeref11_Node p1 c1 x0_ :: l)) :
  Calls Tryz.prog 20 [.slice p1 (x0_).length c1].toArray w (fun e w' => ∃ v, e = .returned v ∧ ∃ (p2 : Option Addr) (c2 : Nat), v = .slice p2 (r).length c2 ∧ St w0 w' (HP.sl R_api_Pair p2 c2 r :: l)) := by
 unfold m_triremeref11_Pairs at hm
 refine x_enter Tryz.func20 rfl rfl rfl ?_
 intro a F
 refine sr (bk [0] F H rfl trivial ?_); clear F; intro a F
 refine nl (sr (s_build0O (R := R_api_Pair) wkP F rfl rfl rfl elem22 rfl H ?_)); clear F H; intro b3 w a H F
 refine bk [0] F H rfl trivial ?_; clear F; intro a F
 replace H := H.nf 2 rfl
 refine nl (sq (sr (bk [0] F H rfl trivial ?_))); clear F; intro a F
 refine nl ?_
 obtain ⟨r3419, er3419, hm3419⟩ := ob hm; clear hm; revert er3419; intro hm
 refine x_mid (fun aa ww => ∃ (p3420 : Option Addr) (c3420 : Nat), Fr ⟨79, []⟩ aa [(3, .slice p3420 (r3419).length c3420)] ∧ St w0 ww (HP.sl R_api_Pair p3420 c3420 r3419 :: l)) ?_ ?_
 refine bl ?_
 replace H := H.frz 0 rfl
 refine x_loopO _ (fun (s5697 : (List T_api_Pair) × Int) aa ww => ∃ (p5698 : Option Addr) (c5698 : Nat), Fr ⟨79, []⟩ aa [(0, .slice p1 (x0_).length c1), (3, .slice p5698 (s5697.1).length c5698), (4, .int .i64 (s5697.2))] ∧ St w0 ww (HP.sl R_triremeref11_Node p1 c1 x0_ :: HP.sl R_api_Pair p5698 c5698 s5697.1 :: l)) hm ⟨(some ⟨b3, 0, none⟩), 0, F.sl rfl, (H.pm 2 [1, 0] rfl:)⟩ ?_
 clear F H hm
 rintro s5697 a w o ⟨p5698, c5698, F, H⟩ hm
 refine sq (sr (bk [0, 0, 0, 0] F H rfl ⟨⟨_, Tryz.underlying30⟩, trivial⟩ ?_)); clear F; intro a F
 refine nl (cP F rfl (fun hg5699 => ?_) (fun hg5699 => ?_))
 replace hm := ifT hg5699 hm
 refine sk (ct (sq ?_))
 obtain ⟨r6267, er6267, hm6267⟩ := ob hm; clear hm; revert er6267; intro hm
 refine x_mid (fun aa ww => ∃ (p6268 : Option Addr) (c6268 : Nat), Fr ⟨79, []⟩ aa [(0, .slice p1 (x0_).length c1), (3, .slice p6268 (r6267).length c6268), (4, .int .i64 (s5697.2))] ∧ St w0 ww (HP.sl R_triremeref11_Node p1 c1 x0_ :: HP.sl R_api_Pair p6268 c6268 r6267 :: l)) ?_ ?_
 refine bl (sr (bk [0, 0] F H rfl trivial ?_)); clear F; intro a F
 obtain ⟨x6269, ex6269, hm⟩ := ob hm
 obtain ⟨b6270, o6270, hp6270⟩ := H.slP 0 rfl (idxO_some ex6269).2
 obtain ⟨cs6271, hcl6271, H⟩ := H.slEl 0 rfl hp6270 (idxO_some ex6269).2
 clear hcl6271
 refine s_val wkP F rfl rfl rfl rfl (y_idxS F elem30 rfl rfl rfl hp6270 ex6269) ?_; clear F; intro a F
 refine bk [999] F H rfl ⟨rfl, (aggn agg50 (H.rcLen 1 rfl)), trivial⟩ ?_; clear F; intro a F
 replace H := H.owNil rByte 5
 refine s_allocA wkP F rfl rfl rfl agz50 rfl H ?_; clear F H; intro b6272 w a H F
 refine s_storeA wkP F rfl rfl agg50 rfl rfl rfl H 0 rfl (H.rcLen 3 rfl) (by simp only [List.length_append, List.length_cons, List.length_nil, icells_length, bcells_length]) (H.rcFlat 3 rfl) ?_; clear H; intro w H
 replace H := H.nf 6 rfl
 refine nl (sq (sr (bk [1] F H rfl ⟨fld50_1, trivial⟩ ?_))); clear F; intro a F
 replace H := rc_triremeref11_Node (H.pk 3 rfl); obtain ⟨p6273, c6274, rfl, H⟩ := H
 refine bk [1001] F H rfl ⟨rfl, plain4, trivial⟩ ?_; clear F; intro a F
 refine nl (cB F rfl (fun hg6275 => ?_) (fun hg6275 => ?_))
 replace hm := ifT hg6275 hm
 refine sr (bk [0, 0, 1000] F H rfl ⟨fld50_0, rfl, plain9, trivial⟩ ?_); clear F; intro a F
 obtain ⟨x6276, ex6276, hm⟩ := ob hm
 refine s_val wkP F rfl rfl rfl rfl (y_addO F rfl rfl rfl ex6276) ?_; clear F; intro a F
 refine s_cvT (e := 5) (xs := x6276) wkP F rfl rfl rfl Tryz.underlying9 Tryz.underlying23 Tryz.underlying5 rfl rfl H ?_; clear F H; intro b6277 c6277 w a H F
 obtain ⟨x6279, ex6279, hm⟩ := ob hm
 refine s_buildC wkP F rfl rfl rfl elem23 zero5 rfl rfl rfl rfl (by simp [Value.cells]) (by decide) H ?_; clear F H; intro b6278 w a H F
 replace H := H.blkOw1 (R := rByte) (x := x6279) (fun gg => (congrArg (fun z => [Value.int .u8 z]) (u8O_some ex6279).symm))
 refine s_convSl wkP F rfl rfl rfl Tryz.underlying23 Tryz.underlying5 rfl rfl H 0 rfl ?_; clear F H; intro w a H F
 refine s_val wkP F rfl rfl rfl rfl (y_build F rfl rfl (cs := [.slice (some ⟨b6277, 0, none⟩) (x6276).length c6277, .slice (some ⟨b6278, 0, none⟩) ([x6279]).length (([x6279]).length)]) (by kernel_rfl)) ?_; clear F; intro a F
 replace H := H.cvFrz 1 rfl
 replace H := H.mkRc (R := R_api_Pair) (cs := [.slice (some ⟨b6277, 0, none⟩) (x6276).length c6277, .slice (some ⟨b6278, 0, none⟩) ([x6279]).length (([x6279]).length)]) (x := (x6276, [x6279])) (fun gg => ⟨_, _, rfl, ⟨_, _, rfl, (gg 0 _ rfl).choose_spec⟩, ⟨_, _, rfl, (gg 1 _ rfl).choose_spec⟩⟩)
 obtain ⟨x6280, ex6280, hm⟩ := ob hm
 refine sc wkP F rfl ent45 (w_m_triremeref11_put ex6280 (H.pm 9 [8, 0, 0, 1, 2, 3, 4, 5, 6, 7, 8] rfl:):) ?_; clear F H; rintro _ w a ⟨p6281, c6281, rfl, H⟩ F
 refine bk [0] F H rfl trivial ?_; clear F; intro a F
 replace H := H.nf 10 rfl
 refine nl (ex (cx (ch ?_)))
 cases hm
 refine ct ?_
 exact ⟨p6281, c6281, F.sl rfl, (H.pm 10 [8, 0] rfl:)⟩
 replace hm := ifF (nT hg6275) hm
 refine sk (ct (sr (bk [2, 1002, 0, 0] F H rfl ⟨fld50_2, rfl, plain23, ⟨_, Tryz.underlying23⟩, trivial⟩ ?_))); clear F; intro a F
 refine nl (sr (bk [0, 0, 1000] F H rfl ⟨fld50_0, rfl, plain9, trivial⟩ ?_)); clear F; intro a F
 obtain ⟨x6282, ex6282, hm⟩ := ob hm
 refine s_val wkP F rfl rfl rfl rfl (y_addO F rfl rfl rfl ex6282) ?_; clear F; intro a F
 refine s_cvT (e := 5) (xs := x6282) wkP F rfl rfl rfl Tryz.underlying9 Tryz.underlying23 Tryz.underlying5 rfl rfl H ?_; clear F H; intro b6283 c6283 w a H F
 refine bk [0] F H rfl trivial ?_; clear F; intro a F
 obtain ⟨x6284, ex6284, hm⟩ := ob hm
 refine s_val wkP F rfl rfl rfl rfl (i_quo F rfl rfl rfl ex6284) ?_; clear F; intro a F
 refine bk [1, 0] F H rfl ⟨Tryz.underlying3, Tryz.underlying5, trivial⟩ ?_; clear F; intro a F
 obtain ⟨x6285, ex6285, hm⟩ := ob hm
 refine s_val wkP F rfl rfl rfl rfl (i_rem F rfl rfl rfl ex6285) ?_; clear F; intro a F
 refine bk [1] F H rfl ⟨Tryz.underlying3, Tryz.underlying5, trivial⟩ ?_; clear F; intro a F
 obtain ⟨x6287, ex6287, hm⟩ := ob hm
 obtain ⟨x6288, ex6288, hm⟩ := ob hm
 obtain ⟨x6289, ex6289, hm⟩ := ob hm
 refine s_buildC wkP F rfl rfl rfl elem23 zero5 rfl rfl rfl rfl (by simp [Value.cells]) (by decide) H ?_; clear F H; intro b6286 w a H F
 replace H : St w0 w (HP.ow rByte 5 (some ⟨b6286, 0, none⟩) (([x6287, x6288, x6289]).length) ([x6287, x6288, x6289]) :: HP.cv 5 b6283 c6283 x6282 :: HP.sl rByte p6273 c6274 x6269.2.2 :: HP.blk b6272 ([.string (txb (x6269.1)), .bool (x6269.2.1), .slice p6273 (x6269.2.2).length c6274]) 50 :: HP.ow rByte 5 none 0 ([] : List UInt8) :: HP.row b6270 (o6270 + (s5697.2 : Int).toNat * 3) ([.string (txb (x6269.1)), .bool (x6269.2.1), .slice p6273 (x6269.2.2).length c6274]) :: HP.sl R_triremeref11_Node p1 c1 x0_ :: HP.sl R_api_Pair p5698 c5698 s5697.1 :: l) := H.blkOw (R := rByte) 0 rfl (fun gg => ⟨[[.int .u8 (102)], [.int .u8 (IntKind.u8.wrap (x6284))], [.int .u8 (IntKind.u8.wrap (x6285))]], rfl, (congrArg (fun z => [Value.int .u8 z]) (u8O_some ex6287).symm), (congrArg (fun z => [Value.int .u8 z]) (u8O_some ex6288).symm), (congrArg (fun z => [Value.int .u8 z]) (u8O_some ex6289).symm), trivial⟩) (by simp)
 refine s_val wkP F rfl rfl rfl rfl (y_build F rfl rfl (cs := [.slice (some ⟨b6283, 0, none⟩) (x6282).length c6283, .slice (some ⟨b6286, 0, none⟩) ([x6287, x6288, x6289]).length (([x6287, x6288, x6289]).length)]) (by kernel_rfl)) ?_; clear F; intro a F
 replace H := H.cvFrz 1 rfl
 replace H := H.frz 1 rfl
 replace H := H.mkRc (R := R_api_Pair) (cs := [.slice (some ⟨b6283, 0, none⟩) (x6282).length c6283, .slice (some ⟨b6286, 0, none⟩) ([x6287, x6288, x6289]).length (([x6287, x6288, x6289]).length)]) (x := (x6282, [x6287, x6288, x6289])) (fun gg => ⟨_, _, rfl, ⟨_, _, rfl, (gg 1 _ rfl).choose_spec⟩, ⟨_, _, rfl, (gg 0 _ rfl).choose_spec⟩⟩)
 obtain ⟨x6290, ex6290, hm⟩ := ob hm
 refine sc wkP F rfl ent45 (w_m_triremeref11_put ex6290 (H.pm 9 [8, 0, 0, 1, 2, 3, 4, 5, 6, 7, 8] rfl:):) ?_; clear F H; rintro _ w a ⟨p6291, c6291, rfl, H⟩ F
 refine bk [0] F H rfl trivial ?_; clear F; intro a F
 replace H := H.nf 10 rfl
 refine nl (sr (bk [0] F H rfl trivial ?_)); clear F; intro a F
 refine nl ?_
 obtain ⟨r6563, er6563, hm6563⟩ := ob hm; clear hm; revert er6563; intro hm
 refine x_mid (fun aa ww => ∃ (p6564 : Option Addr) (c6564 : Nat), Fr ⟨79, []⟩ aa [(0, .slice p1 (x0_).length c1), (3, .slice p6564 (r6563).length c6564), (4, .int .i64 (s5697.2))] ∧ St w0 ww (HP.sl rByte p6273 c6274 x6269.2.2 :: HP.blk b6272 ([.string (txb (x6269.1)), .bool (x6269.2.1), .slice p6273 (x6269.2.2).length c6274]) 50 :: HP.ow rByte 5 none 0 ([] : List UInt8) :: HP.row b6270 (o6270 + (s5697.2 : Int).toNat * 3) ([.string (txb (x6269.1)), .bool (x6269.2.1), .slice p6273 (x6269.2.2).length c6274]) :: HP.sl R_triremeref11_Node p1 c1 x0_ :: HP.sl R_api_Pair p6564 c6564 r6563 :: l)) ?_ ?_
 refine bl ?_
 refine x_loopO _ (fun (s6745 : (List T_api_Pair) × Int) aa ww => ∃ (p6746 : Option Addr) (c6746 : Nat), Fr ⟨79, []⟩ aa [(0, .slice p1 (x0_).length c1), (3, .slice p6746 (s6745.1).length c6746), (4, .int .i64 (s5697.2)), (5, .pointer (some ⟨b6272, 0, none⟩)), (6, .int .i64 (((x6269.2.2).length : Int))), (7, .int .i64 (s6745.2))] ∧ St w0 ww (HP.sl rByte p6273 c6274 x6269.2.2 :: HP.blk b6272 ([.string (txb (x6269.1)), .bool (x6269.2.1), .slice p6273 (x6269.2.2).length c6274]) 50 :: HP.ow rByte 5 none 0 ([] : List UInt8) :: HP.row b6270 (o6270 + (s5697.2 : Int).toNat * 3) ([.string (txb (x6269.1)), .bool (x6269.2.1), .slice p6273 (x6269.2.2).length c6274]) :: HP.sl R_triremeref11_Node p1 c1 x0_ :: HP.sl R_api_Pair p6746 c6746 s6745.1 :: l)) hm ⟨p6291, c6291, F.sl rfl, (H.pm 10 [4, 5, 6, 7, 8, 0] rfl:)⟩ ?_
 clear F H hm
 rintro s6745 a w o ⟨p6746, c6746, F, H⟩ hm
 refine sq (sr (bk [0, 0, 0, 0] F H rfl trivial ?_)); clear F; intro a F
 refine nl (cP F rfl (fun hg6747 => ?_) (fun hg6747 => ?_))
 replace hm := ifT hg6747 hm
 refine sk (ct (sq ?_))
 obtain ⟨r6791, er6791, hm6791⟩ := ob hm; clear hm; revert er6791; intro hm
 refine x_mid (fun aa ww => ∃ (p6792 : Option Addr) (c6792 : Nat), Fr ⟨79, []⟩ aa [(0, .slice p1 (x0_).length c1), (3, .slice p6792 (r6791).length c6792), (4, .int .i64 (s5697.2)), (5, .pointer (some ⟨b6272, 0, none⟩)), (6, .int .i64 (((x6269.2.2).length : Int))), (7, .int .i64 (s6745.2))] ∧ St w0 ww (HP.sl rByte p6273 c6274 x6269.2.2 :: HP.blk b6272 ([.string (txb (x6269.1)), .bool (x6269.2.1), .slice p6273 (x6269.2.2).length c6274]) 50 :: HP.ow rByte 5 none 0 ([] : List UInt8) :: HP.row b6270 (o6270 + (s5697.2 : Int).toNat * 3) ([.string (txb (x6269.1)), .bool (x6269.2.1), .slice p6273 (x6269.2.2).length c6274]) :: HP.sl R_triremeref11_Node p1 c1 x0_ :: HP.sl R_api_Pair p6792 c6792 r6791 :: l)) ?_ ?_
 refine bl (sr (bk [0, 0, 0, 0] F H rfl trivial ?_)); clear F; intro a F
 refine nl (sq (sr (bk [0, 0, 0] F H rfl trivial ?_))); clear F; intro a F
 refine nl ?_
 obtain ⟨r6794, er6794, hm6794⟩ := ob hm; clear hm; revert er6794; intro hm
 refine x_mid (fun aa ww => Fr ⟨79, []⟩ aa [(0, .slice p1 (x0_).length c1), (3, .slice p6746 (s6745.1).length c6746), (4, .int .i64 (s5697.2)), (5, .pointer (some ⟨b6272, 0, none⟩)), (6, .int .i64 (((x6269.2.2).length : Int))), (7, .int .i64 (s6745.2)), (8, .int .i64 (r6794))] ∧ St w0 ww (HP.sl rByte p6273 c6274 x6269.2.2 :: HP.blk b6272 ([.string (txb (x6269.1)), .bool (x6269.2.1), .slice p6273 (x6269.2.2).length c6274]) 50 :: HP.ow rByte 5 none 0 ([] : List UInt8) :: HP.row b6270 (o6270 + (s5697.2 : Int).toNat * 3) ([.string (txb (x6269.1)), .bool (x6269.2.1), .slice p6273 (x6269.2.2).length c6274]) :: HP.sl R_triremeref11_Node p1 c1 x0_ :: HP.sl R_api_Pair p6746 c6746 s6745.1 :: l)) ?_ ?_
 refine cP F rfl (fun hg6795 => ?_) (fun hg6795 => ?_)
 replace hm := ifT hg6795 hm
 refine rl (bk [0, 0] F H rfl trivial ?_); clear F; intro a F
 refine lz ?_
 cases hm
 refine ct ?_
 exact ⟨F.sl rfl, H⟩
 replace hm := ifF hg6795 hm
 refine sk ?_
 cases hm
 refine ct ?_
 exact ⟨F.sl rfl, H⟩
 clear F H hm
 rintro a w ⟨F, H⟩; have hm := hm6794; clear hm6794
 refine ct ?_
 obtain ⟨r6815, er6815, hm6815⟩ := ob hm; clear hm; revert er6815; intro hm
 refine x_mid (fun aa ww => ∃ (p6816 : Option Addr) (c6816 : Nat), Fr ⟨79, []⟩ aa [(0, .slice p1 (x0_).length c1), (3, .slice p6816 (r6815).length c6816), (4, .int .i64 (s5697.2)), (5, .pointer (some ⟨b6272, 0, none⟩)), (6, .int .i64 (((x6269.2.2).length : Int))), (7, .int .i64 (s6745.2))] ∧ St w0 ww (HP.sl rByte p6273 c6274 x6269.2.2 :: HP.blk b6272 ([.string (txb (x6269.1)), .bool (x6269.2.1), .slice p6273 (x6269.2.2).length c6274]) 50 :: HP.ow rByte 5 none 0 ([] : List UInt8) :: HP.row b6270 (o6270 + (s5697.2 : Int).toNat * 3) ([.string (txb (x6269.1)), .bool (x6269.2.1), .slice p6273 (x6269.2.2).length c6274]) :: HP.sl R_triremeref11_Node p1 c1 x0_ :: HP.sl R_api_Pair p6816 c6816 r6815 :: l)) ?_ ?_
 obtain ⟨x6817, ex6817, hm⟩ := ob hm
 obtain ⟨x6819, ex6819, hm⟩ := ob hm
 have hc6818 := H.slCap 0 rfl
 replace H := H.slSubN 1 rfl 0 rfl ex6819
 refine mix_region [4, 7, 8, 16] [] (.step 0 0 (.step 0 1 (.step 0 2 (.step 0 3 (.step 0 5 (.step 0 6 (.step 0 9 (.step 0 10 (.step 0 11 (.step 0 12 (.step 0 13 (.step 0 14 (.fork 4 (.step 2 7 (.step 2 8 (.step 0 15 (.step 2 16 (.step 0 17 .done))))) 7 (.step 2 4 (.step 2 8 (.step 0 15 (.step 2 16 (.step 0 17 .done)))))))))))))))))) (fun u => ∃ ls, St w0 u (HP.blk b6272 ([.string (txb (x6269.1)), .bool (x6269.2.1), .slice p6273 (x6269.2.2).length c6274]) 50 :: ls)) (by kernel_rfl) (by kernel_rfl) ⟨_, (H.drew.pm 7 [2, 0, 1, 3, 4, 5, 6] rfl:)⟩ ?_
 replace H := H.drew
 generalize w.drew = w at H ⊢
 refine mbk [0, 0] F H rfl ⟨fld50_0, trivial⟩ ?_; clear F; intro a F
 refine m_pure F rfl rfl rfl rfl (fun u hu => y_load1 F plain9 rfl rfl (row_at (v := .string (txb (x6269.1))) ((hu.choose_spec.blk 0 rfl).row) rfl)) ?_; clear F; intro a F
 refine m_pure F rfl rfl rfl rfl (fun u hu => y_addO F rfl rfl rfl ex6817) ?_; clear F; intro a F
 refine mbk [0, 1, 2] F H rfl ⟨Tryz.underlying3, Tryz.underlying5, fld50_2, trivial⟩ ?_; clear F; intro a F
 refine m_pure F rfl rfl rfl rfl (fun u hu => y_load1 F plain23 rfl rfl (row_at (v := .slice p6273 (x6269.2.2).length c6274) ((hu.choose_spec.blk 0 rfl).row) rfl)) ?_; clear F; intro a F
 refine mbk [0, 0, 0] F H rfl trivial ?_; clear F; intro a F
 refine m_pure F rfl rfl rfl rfl (fun u hu => y_slLH F elem23 rfl rfl rfl rfl ex6819 hc6818) ?_; clear F; intro a F
 refine m_fork rfl rfl rfl rfl ?_ ?_
 refine m_heavy rfl rfl ?_
 refine s_cvT (e := 5) (xs := x6817) wkP F rfl rfl rfl Tryz.underlying9 Tryz.underlying23 Tryz.underlying5 rfl rfl H ?_; clear F H; intro b6820 c6820 w a H F
 refine lz ?_; refine ct ⟨⟨_, (H.pm 8 [3, 0, 1, 2, 4, 5, 6, 7] rfl:)⟩, ?_⟩
 refine m_heavy rfl rfl ?_
 obtain ⟨x6822, ex6822, hm⟩ := ob hm
 obtain ⟨x6823, ex6823, hm⟩ := ob hm
 refine s_buildC wkP F rfl rfl rfl elem23 zero5 rfl rfl rfl rfl (by simp [Value.cells]) (by decide) H ?_; clear F H; intro b6821 w a H F
 replace H : St w0 w (HP.ow rByte 5 (some ⟨b6821, 0, none⟩) (([x6822, x6823]).length) ([x6822, x6823]) :: HP.cv 5 b6820 c6820 x6817 :: HP.sl rByte (shp p6273 c6274 ((IntKind.i64.wrap (64 * s6745.2)) : Int).toNat 1) (c6274 - ((IntKind.i64.wrap (64 * s6745.2)) : Int).toNat) x6819 :: HP.sl rByte p6273 c6274 x6269.2.2 :: HP.blk b6272 ([.string (txb (x6269.1)), .bool (x6269.2.1), .slice p6273 (x6269.2.2).length c6274]) 50 :: HP.ow rByte 5 none 0 ([] : List UInt8) :: HP.row b6270 (o6270 + (s5697.2 : Int).toNat * 3) ([.string (txb (x6269.1)), .bool (x6269.2.1), .slice p6273 (x6269.2.2).length c6274]) :: HP.sl R_triremeref11_Node p1 c1 x0_ :: HP.sl R_api_Pair p6746 c6746 s6745.1 :: l) := H.blkOw (R := rByte) 0 rfl (fun gg => ⟨[[.int .u8 (0)], [.int .u8 (IntKind.u8.wrap (s6745.2))]], rfl, (congrArg (fun z => [Value.int .u8 z]) (u8O_some ex6822).symm), (congrArg (fun z => [Value.int .u8 z]) (u8O_some ex6823).symm), trivial⟩) (by simp)
 refine lz ?_; refine ct ⟨⟨_, (H.pm 9 [4, 0, 1, 2, 3, 5, 6, 7, 8] rfl:)⟩, ?_⟩
 refine m_heavy rfl rfl ?_
 replace H := H.frz 0 rfl
 obtain ⟨x6825, ex6825, hm⟩ := ob hm
 refine s_appCv wkP F rfl rfl rfl rfl rfl rfl elem23 rfl ex6825 rfl H 1 0 rfl rfl ?_; clear F H; intro p6824 c6824 w a H F
 refine lz ?_; refine ct ⟨⟨_, (H.pm 9 [4, 0, 1, 2, 3, 5, 6, 7, 8] rfl:)⟩, ?_⟩
 refine m_pure F rfl rfl rfl rfl (fun u hu => y_build F rfl rfl (cs := [.slice p6824 (x6825).length c6824, .slice (shp p6273 c6274 ((IntKind.i64.wrap (64 * s6745.2)) : Int).toNat 1) (x6819).length (c6274 - ((IntKind.i64.wrap (64 * s6745.2)) : Int).toNat)]) (by kernel_rfl)) ?_; clear F; intro a F
 refine m_heavy rfl rfl ?_
 replace H := H.mkRc (R := R_api_Pair) (cs := [.slice p6824 (x6825).length c6824, .slice (shp p6273 c6274 ((IntKind.i64.wrap (64 * s6745.2)) : Int).toNat 1) (x6819).length (c6274 - ((IntKind.i64.wrap (64 * s6745.2)) : Int).toNat)]) (x := (x6825, x6819)) (fun gg => ⟨_, _, rfl, ⟨_, _, rfl, (gg 0 _ rfl).choose_spec⟩, ⟨_, _, rfl, (gg 2 _ rfl).choose_spec⟩⟩)
 obtain ⟨x6826, ex6826, hm⟩ := ob hm
 refine sc wkP F rfl ent45 (w_m_triremeref11_put ex6826 (H.pm 10 [9, 0, 0, 1, 2, 3, 4, 5, 6, 7, 8, 9] rfl:):) ?_; clear F H; rintro _ w a ⟨p6827, c6827, rfl, H⟩ F
 refine lz ?_; refine ct ⟨⟨_, (H.pm 11 [6, 0, 1, 2, 3, 4, 5, 7, 8, 9, 10] rfl:)⟩, ?_⟩
 refine mbk [0] F H rfl trivial ?_; clear F; intro a F
 refine m_nil ?_
 cases hm
 refine ct ?_
 exact ⟨p6827, c6827, F.sl rfl, (H.pm 11 [5, 6, 7, 8, 9, 0] rfl:)⟩
 refine m_heavy rfl rfl ?_
 obtain ⟨x6829, ex6829, hm⟩ := ob hm
 obtain ⟨x6830, ex6830, hm⟩ := ob hm
 refine s_buildC wkP F rfl rfl rfl elem23 zero5 rfl rfl rfl rfl (by simp [Value.cells]) (by decide) H ?_; clear F H; intro b6828 w a H F
 replace H : St w0 w (HP.ow rByte 5 (some ⟨b6828, 0, none⟩) (([x6829, x6830]).length) ([x6829, x6830]) :: HP.sl rByte (shp p6273 c6274 ((IntKind.i64.wrap (64 * s6745.2)) : Int).toNat 1) (c6274 - ((IntKind.i64.wrap (64 * s6745.2)) : Int).toNat) x6819 :: HP.sl rByte p6273 c6274 x6269.2.2 :: HP.blk b6272 ([.string (txb (x6269.1)), .bool (x6269.2.1), .slice p6273 (x6269.2.2).length c6274]) 50 :: HP.ow rByte 5 none 0 ([] : List UInt8) :: HP.row b6270 (o6270 + (s5697.2 : Int).toNat * 3) ([.string (txb (x6269.1)), .bool (x6269.2.1), .slice p6273 (x6269.2.2).length c6274]) :: HP.sl R_triremeref11_Node p1 c1 x0_ :: HP.sl R_api_Pair p6746 c6746 s6745.1 :: l) := H.blkOw (R := rByte) 0 rfl (fun gg => ⟨[[.int .u8 (0)], [.int .u8 (IntKind.u8.wrap (s6745.2))]], rfl, (congrArg (fun z => [Value.int .u8 z]) (u8O_some ex6829).symm), (congrArg (fun z => [Value.int .u8 z]) (u8O_some ex6830).symm), trivial⟩) (by simp)
 refine lz ?_; refine ct ⟨⟨_, (H.pm 8 [3, 0, 1, 2, 4, 5, 6, 7] rfl:)⟩, ?_⟩
 refine m_heavy rfl rfl ?_
 refine s_cvT (e := 5) (xs := x6817) wkP F rfl rfl rfl Tryz.underlying9 Tryz.underlying23 Tryz.underlying5 rfl rfl H ?_; clear F H; intro b6831 c6831 w a H F
 refine lz ?_; refine ct ⟨⟨_, (H.pm 9 [4, 0, 1, 2, 3, 5, 6, 7, 8] rfl:)⟩, ?_⟩
 refine m_heavy rfl rfl ?_
 replace H := H.frz 1 rfl
 obtain ⟨x6833, ex6833, hm⟩ := ob hm
 refine s_appCv wkP F rfl rfl rfl rfl rfl rfl elem23 rfl ex6833 rfl H 1 0 rfl rfl ?_; clear F H; intro p6832 c6832 w a H F
 refine lz ?_; refine ct ⟨⟨_, (H.pm 9 [4, 0, 1, 2, 3, 5, 6, 7, 8] rfl:)⟩, ?_⟩
 refine m_pure F rfl rfl rfl rfl (fun u hu => y_build F rfl rfl (cs := [.slice p6832 (x6833).length c6832, .slice (shp p6273 c6274 ((IntKind.i64.wrap (64 * s6745.2)) : Int).toNat 1) (x6819).length (c6274 - ((IntKind.i64.wrap (64 * s6745.2)) : Int).toNat)]) (by kernel_rfl)) ?_; clear F; intro a F
 refine m_heavy rfl rfl ?_
 replace H := H.mkRc (R := R_api_Pair) (cs := [.slice p6832 (x6833).length c6832, .slice (shp p6273 c6274 ((IntKind.i64.wrap (64 * s6745.2)) : Int).toNat 1) (x6819).length (c6274 - ((IntKind.i64.wrap (64 * s6745.2)) : Int).toNat)]) (x := (x6833, x6819)) (fun gg => ⟨_, _, rfl, ⟨_, _, rfl, (gg 0 _ rfl).choose_spec⟩, ⟨_, _, rfl, (gg 2 _ rfl).choose_spec⟩⟩)
 obtain ⟨x6834, ex6834, hm⟩ := ob hm
 refine sc wkP F rfl ent45 (w_m_triremeref11_put ex6834 (H.pm 10 [9, 0, 0, 1, 2, 3, 4, 5, 6, 7, 8, 9] rfl:):) ?_; clear F H; rintro _ w a ⟨p6835, c6835, rfl, H⟩ F
 refine lz ?_; refine ct ⟨⟨_, (H.pm 11 [6, 0, 1, 2, 3, 4, 5, 7, 8, 9, 10] rfl:)⟩, ?_⟩
 refine mbk [0] F H rfl trivial ?_; clear F; intro a F
 refine m_nil ?_
 cases hm
 refine ct ?_
 exact ⟨p6835, c6835, F.sl rfl, (H.pm 11 [5, 6, 7, 8, 9, 0] rfl:)⟩
 clear F H hm
 rintro a w ⟨p6816, c6816, F, H⟩; have hm := hm6815; clear hm6815
 refine bn ?_
 cases hm
 refine ct ?_
 exact ⟨p6816, c6816, F.sl rfl, H⟩
 clear F H hm
 rintro a w ⟨p6792, c6792, F, H⟩; have hm := hm6791; clear hm6791
 refine ct (rl (bk [0, 0, 0] F H rfl trivial ?_)); clear F; intro a F
 refine lz (ct ?_); cases hm
 exact ⟨_, rfl, ⟨p6792, c6792, F.sl rfl, H⟩⟩
 replace hm := ifF hg6747 hm
 refine ex (cx (cx ?_)); cases hm; refine ⟨_, rfl, ?_⟩; rintro rfl
 refine ch (ct ?_)
 exact ⟨p6746, c6746, F.sl rfl, H⟩
 clear F H hm
 rintro a w ⟨p6564, c6564, F, H⟩; have hm := hm6563; clear hm6563
 refine bn ?_
 cases hm
 refine ct ?_
 exact ⟨p6564, c6564, F.sl rfl, (H.pm 6 [4, 5] rfl:)⟩
 clear F H hm
 rintro a w ⟨p6268, c6268, F, H⟩; have hm := hm6267; clear hm6267
 refine ct (rl (bk [0, 0, 0] F H rfl trivial ?_)); clear F; intro a F
 refine lz (ct ?_); cases hm
 exact ⟨_, rfl, ⟨p6268, c6268, F.sl rfl, H⟩⟩
 replace hm := ifF hg5699 hm
 refine ex (cx (cx ?_)); cases hm; refine ⟨_, rfl, ?_⟩; rintro rfl
 refine ch (ct ?_)
 exact ⟨p5698, c5698, F.sl rfl, (H.pm 2 [1] rfl:)⟩
 clear F H hm
 rintro a w ⟨p3420, c3420, F, H⟩; have hm := hm3419; clear hm3419
 refine ct (sr (bk [0, 0] F H rfl trivial ?_)); clear F; intro a F
 refine nl (wr ?_)
 cases hm
 refine x_ret1 F rfl rfl ?_
 exact ⟨_, rfl, p3420, c3420, rfl, H⟩
theorem ent27 : ∀ args w, (callFunc 27 args).run Tryz.prog w = .ok (.enter 27 args) w := enters Tryz.func27 (by kernel_rfl) rfl
set_option maxRecDepth 100000 in
set_option maxHeartbeats 4000000 in
theorem w_m_triremeref11_Look {x0_ : List T_triremeref11_Node} {x1_ : List UInt8} {p1 : Option Addr} {c1 : Nat} {w0 w : World} {l : List HP}  {r : Int × Int} (hm : m_triremeref11_Look x0_ x1_ = some r) (H : St w0 w (HP.sl R_triremeref11_Node p1 c1 x0_ :: l)) :
  Calls Tryz.prog 42 [.slice p1 (x0_).length c1, .string (txb (x1_))].toArray w (fun e w' => ∃ v, e = .returned v ∧ v = .tuple [.int .i64 (r.1), .int .i64 (r.2)].toArray ∧ St w0 w' (l)) := by
 unfold m_triremeref11_Look at hm
 refine x_enter Tryz.func42 rfl rfl rfl ?_
 intro a F
 refine sr (bk [0, 0] F H rfl trivial ?_); clear F; intro a F
 refine nl (sr (bk [0] F H rfl trivial ?_)); clear F; intro a F
 obtain ⟨x2, ex2, hm⟩ := ob hm
 refine sc wkP F rfl ent46 (w_m_triremeref09_Split ex2 H:) ?_; clear F H; rintro _ w a ⟨p3, c3, rfl, H⟩ F
 refine bk (List.replicate 5 0) F H rfl trivial ?_; clear F; intro a F
 replace H := H.nf 2 rfl
 refine nl (sq (sr (bk [0, 0] F H rfl trivial ?_))); clear F; intro a F
 refine nl (cB F rfl (fun hg4 => ?_) (fun hg4 => ?_))
 replace hm := ifT hg4 hm
 refine sr (bk [0, 0] F H rfl trivial ?_); clear F; intro a F
 refine nl (wr (tr ?_))
 cases hm
 refine x_ret2 F rfl rfl rfl ?_
 exact ⟨_, rfl, rfl, (H.pm 2 [] rfl:)⟩
 replace hm := ifF (nT hg4) hm
 refine sk (ct (sq (sr (bk [0] F H rfl trivial ?_)))); clear F; intro a F
 refine nl ?_
 obtain ⟨o42, eo42, hm42⟩ := ob hm; clear hm; revert eo42; intro hm
 refine x_mid (fun aa ww => ∃ r42, o42 = Sum.inl r42 ∧ Fr ⟨44, []⟩ aa [(0, .slice p1 (x0_).length c1), (1, .string (txb (x1_)))] ∧ St w0 ww (HP.sl R_triremeref11_Node p1 c1 x0_ :: l)) ?_ ?_
 refine bl (x_loopO _ (fun (s67 : Int) aa ww => Fr ⟨44, []⟩ aa [(0, .slice p1 (x0_).length c1), (1, .string (txb (x1_))), (6, .slice p3 (x2.1).length c3), (8, .int .i64 (s67))] ∧ St w0 ww (HP.sl rStr p3 c3 x2.1 :: HP.sl R_triremeref11_Node p1 c1 x0_ :: l)) hm ⟨F.sl rfl, H⟩ ?_)
 clear F H hm
 rintro s67 a w o ⟨F, H⟩ hm
 refine sq (sr (bk [0, 0, 0, 0] F H rfl ⟨⟨_, Tryz.underlying35⟩, trivial⟩ ?_)); clear F; intro a F
 refine nl (cP F rfl (fun hg68 => ?_) (fun hg68 => ?_))
 replace hm := ifT hg68 hm
 refine sk (ct (sq (bl (sr (bk [0, 0, 0] F H rfl trivial ?_))))); clear F; intro a F
 obtain ⟨x70, ex70, hm⟩ := ob hm
 have hc69 := H.slCap 0 rfl
 replace H := H.slSubN 1 rfl 0 rfl ex70
 refine s_val wkP F rfl rfl rfl rfl (y_slH F elem35 rfl rfl rfl ex70 hc69) ?_; clear F; intro a F
 obtain ⟨x71, ex71, hm⟩ := ob hm
 refine sc wkP F rfl ent47 (w_m_triremeref09_Join ex71 (H.pm 3 [0, 0, 1, 2] rfl:):) ?_; clear F H; rintro _ w a ⟨rfl, H⟩ F
 obtain ⟨x72, ex72, hm⟩ := ob hm
 refine sc wkP F rfl ent27 (w_m_triremeref11_Find ex72 (H.pm 3 [2, 0, 1, 2] rfl:):) ?_; clear F H; rintro _ w a ⟨rfl, H⟩ F
 refine bk [0] F H rfl trivial ?_; clear F; intro a F
 replace H := H.nf 3 rfl
 refine nl (sq (sr (bk [0, 0] F H rfl trivial ?_))); clear F; intro a F
 refine nl (cP F rfl (fun hg73 => ?_) (fun hg73 => ?_))
 replace hm := ifT hg73 hm
 refine sr (bk [0, 0] F H rfl trivial ?_); clear F; intro a F
 refine nl (wr (tr (br (tr (tr ?_))))); cases hm; refine ⟨_, rfl, ?_⟩; rintro rfl
 refine br (tr ?_)
 replace hm := elimR hm42
 refine tr ?_
 cases hm
 refine x_ret2 F rfl rfl rfl ?_
 exact ⟨_, rfl, rfl, (H.pm 3 [] rfl:)⟩
 replace hm := ifF hg73 hm
 refine sk (ct (sr (bk [0, 0] F H rfl trivial ?_))); clear F; intro a F
 obtain ⟨x74, ex74, hm⟩ := ob hm
 obtain ⟨b75, o75, hp75⟩ := H.slP 2 rfl (idxO_some ex74).2
 obtain ⟨cs76, hcl76, H⟩ := H.slEl 2 rfl hp75 (idxO_some ex74).2
 clear hcl76
 refine s_val wkP F rfl rfl rfl rfl (y_idxS F elem30 rfl rfl rfl hp75 ex74) ?_; clear F; intro a F
 refine bk [1] F H rfl ⟨fld50_1, trivial⟩ ?_; clear F; intro a F
 replace H := rc_triremeref11_Node (H.pk 1 rfl); obtain ⟨p77, c78, rfl, H⟩ := H
 refine bk [1001, 0] F H rfl ⟨rfl, plain4, trivial⟩ ?_; clear F; intro a F
 refine nl (cB F rfl (fun hg79 => ?_) (fun hg79 => ?_))
 replace hm := ifT hg79 hm
 refine sr (bk [0, 0] F H rfl trivial ?_); clear F; intro a F
 refine nl (wr (br (tr (tr ?_)))); cases hm; refine ⟨_, rfl, ?_⟩; rintro rfl
 refine br (tr ?_)
 replace hm := elimR hm42
 refine tr ?_
 cases hm
 refine x_ret2 F rfl rfl rfl ?_
 exact ⟨_, rfl, rfl, (H.pm 5 [] rfl:)⟩
 replace hm := ifF (nT hg79) hm
 refine sk (bn (ct (rl (bk [0, 0, 0] F H rfl trivial ?_)))); clear F; intro a F
 refine lz (ct ?_); cases hm
 exact ⟨_, rfl, ⟨F.sl rfl, (H.pm 5 [3, 4] rfl:)⟩⟩
 replace hm := ifF hg68 hm
 refine ex (cx (cx ?_)); cases hm; refine ⟨_, rfl, ?_⟩; rintro rfl
 refine ch (ct ?_)
 exact ⟨_, rfl, F.sl rfl, (H.pm 2 [1] rfl:)⟩
 clear F H hm
 rintro a w ⟨r42, rfl, F, H⟩; have hm := elimL hm42; clear hm42
 refine ct (sr (bk [0, 0] F H rfl trivial ?_)); clear F; intro a F
 obtain ⟨x80, ex80, hm⟩ := ob hm
 refine sc wkP F rfl ent27 (w_m_triremeref11_Find ex80 (H.pm 1 [0, 0] rfl:):) ?_; clear F H; rintro _ w a ⟨rfl, H⟩ F
 refine bk [0] F H rfl trivial ?_; clear F; intro a F
 replace H := H.nf 1 rfl
 refine nl (sq (sr (bk [0, 0] F H rfl trivial ?_))); clear F; intro a F
 refine nl (cP F rfl (fun hg81 => ?_) (fun hg81 => ?_))
 replace hm := ifT hg81 hm
 refine sr (bk [0, 0] F H rfl trivial ?_); clear F; intro a F
 refine nl (wr (tr ?_))
 cases hm
 refine x_ret2 F rfl rfl rfl ?_
 exact ⟨_, rfl, rfl, (H.pm 1 [] rfl:)⟩
 replace hm := ifF hg81 hm
 refine sk (ct (sr (bk [0, 0, 0] F H rfl trivial ?_))); clear F; intro a F
 refine nl (wr ?_)
 cases hm
 refine x_ret2 F rfl rfl rfl ?_
 exact ⟨_, rfl, rfl, (H.pm 1 [] rfl:)⟩
theorem ent29 : ∀ args w, (callFunc 29 args).run Tryz.prog w = .ok (.enter 29 args) w := enters Tryz.func29 (by kernel_rfl) rfl
theorem ent42 : ∀ args w, (callFunc 42 args).run Tryz.prog w = .ok (.enter 42 args) w := enters Tryz.func42 (by kernel_rfl) rfl
set_option maxRecDepth 100000 in
set_option maxHeartbeats 4000000 in
theorem w_m_triremeref11_Room {x0_ : List T_triremeref11_Node} {x1_ : List UInt8} {p1 : Option Addr} {c1 : Nat} {w0 w : World} {l : List HP}  {r : Int} (hm : m_triremeref11_Room x0_ x1_ = some r) (H : St w0 w (HP.sl R_triremeref11_Node p1 c1 x0_ :: l)) :
  Calls Tryz.prog 38 [.slice p1 (x0_).length c1, .string (txb (x1_))].toArray w (fun e w' => ∃ v, e = .returned v ∧ v = .int .i64 (r) ∧ St w0 w' (l)) := by
 unfold m_triremeref11_Room at hm
 refine x_enter Tryz.func38 rfl rfl rfl ?_
 intro a F
 refine sr (bk [0] F H rfl trivial ?_); clear F; intro a F
 refine nl (sq (sr (bk [0] F H rfl trivial ?_))); clear F; intro a F
 obtain ⟨x2, ex2, hm⟩ := ob hm
 refine sc wkP F rfl ent28 (w_m_triremeref09_Right ex2 H:) ?_; clear F H; rintro _ w a ⟨rfl, H⟩ F
 refine bk [0] F H rfl trivial ?_; clear F; intro a F
 replace H := H.nf 1 rfl
 refine nl (cB F rfl (fun hg3 => ?_) (fun hg3 => ?_))
 replace hm := ifT hg3 hm
 refine sr (bk [0] F H rfl trivial ?_); clear F; intro a F
 refine nl (wr (tr ?_))
 cases hm
 refine x_ret1 F rfl rfl ?_
 exact ⟨_, rfl, rfl, (H.pm 1 [] rfl:)⟩
 replace hm := ifF (nT hg3) hm
 refine sk (ct (sq (sr (bk [0] F H rfl trivial ?_)))); clear F; intro a F
 refine s_val wkP F rfl rfl rfl rfl (y_eqT (l := x1_) (m := [47]) F rfl rfl rfl) ?_; clear F; intro a F
 refine nl (cP F rfl (fun hg4 => ?_) (fun hg4 => ?_))
 replace hm := ifT hg4 hm
 refine sr (bk [0] F H rfl trivial ?_); clear F; intro a F
 refine nl (wr (tr ?_))
 cases hm
 refine x_ret1 F rfl rfl ?_
 exact ⟨_, rfl, rfl, (H.pm 1 [] rfl:)⟩
 replace hm := ifF hg4 hm
 refine sk (ct (sr (bk [0, 0] F H rfl trivial ?_))); clear F; intro a F
 obtain ⟨x5, ex5, hm⟩ := ob hm
 refine sc wkP F rfl ent29 (w_m_triremeref09_Parent ex5 H:) ?_; clear F H; rintro _ w a ⟨rfl, H⟩ F
 obtain ⟨x6, ex6, hm⟩ := ob hm
 refine sc wkP F rfl ent42 (w_m_triremeref11_Look ex6 (H.pm 1 [0, 0] rfl:):) ?_; clear F H; rintro _ w a ⟨rfl, H⟩ F
 refine bk (List.replicate 5 0) F H rfl trivial ?_; clear F; intro a F
 replace H := H.nf 1 rfl
 refine nl (sq (sr (bk [0, 0] F H rfl trivial ?_))); clear F; intro a F
 refine nl (cN F rfl (fun hg7 => ?_) (fun hg7 => ?_))
 replace hm := ifF hg7 hm
 refine sr (bk [0, 0] F H rfl trivial ?_); clear F; intro a F
 refine nl (wr (tr ?_))
 cases hm
 refine x_ret1 F rfl rfl ?_
 exact ⟨_, rfl, rfl, (H.pm 1 [] rfl:)⟩
 replace hm := ifT hg7 hm
 refine sk (ct (sq (sr (bk [0, 0] F H rfl trivial ?_)))); clear F; intro a F
 obtain ⟨x8, ex8, hm⟩ := ob hm
 obtain ⟨b9, o9, hp9⟩ := H.slP 0 rfl (idxO_some ex8).2
 obtain ⟨cs10, hcl10, H⟩ := H.slEl 0 rfl hp9 (idxO_some ex8).2
 clear hcl10
 refine s_val wkP F rfl rfl rfl rfl (y_idxS F elem30 rfl rfl rfl hp9 ex8) ?_; clear F; intro a F
 refine bk [1] F H rfl ⟨fld50_1, trivial⟩ ?_; clear F; intro a F
 replace H := rc_triremeref11_Node (H.pk 1 rfl); obtain ⟨p11, c12, rfl, H⟩ := H
 refine bk [1001, 0] F H rfl ⟨rfl, plain4, trivial⟩ ?_; clear F; intro a F
 refine nl (cB F rfl (fun hg13 => ?_) (fun hg13 => ?_))
 replace hm := ifT hg13 hm
 refine sr (bk [0] F H rfl trivial ?_); clear F; intro a F
 refine nl (wr (tr ?_))
 cases hm
 refine x_ret1 F rfl rfl ?_
 exact ⟨_, rfl, rfl, (H.pm 3 [] rfl:)⟩
 replace hm := ifF (nT hg13) hm
 refine sk (ct (sq (sr (bk [0, 0] F H rfl trivial ?_)))); clear F; intro a F
 obtain ⟨x14, ex14, hm⟩ := ob hm
 refine sc wkP F rfl ent27 (w_m_triremeref11_Find ex14 (H.pm 3 [2, 0, 1, 2] rfl:):) ?_; clear F H; rintro _ w a ⟨rfl, H⟩ F
 refine bk [0] F H rfl trivial ?_; clear F; intro a F
 replace H := H.nf 3 rfl
 refine nl (cP F rfl (fun hg15 => ?_) (fun hg15 => ?_))
 replace hm := ifT hg15 hm
 refine sr (bk [0] F H rfl trivial ?_); clear F; intro a F
 refine nl (wr (tr ?_))
 cases hm
 refine x_ret1 F rfl rfl ?_
 exact ⟨_, rfl, rfl, (H.pm 3 [] rfl:)⟩
 replace hm := ifF hg15 hm
 refine sk (ct (sr (bk [0] F H rfl trivial ?_))); clear F; intro a F
 refine nl (wr ?_)
 cases hm
 refine x_ret1 F rfl rfl ?_
 exact ⟨_, rfl, rfl, (H.pm 3 [] rfl:)⟩
theorem ent70 : ∀ args w, (callFunc 70 args).run Tryz.prog w = .ok (.enter 70 args) w := enters Tryz.func70 (by kernel_rfl) rfl
set_option maxRecDepth 100000 in
set_option maxHeartbeats 4000000 in
theorem w_m_triremeref11_Below {x0_ : List T_triremeref11_Node} {x1_ : List UInt8} {p1 : Option Addr} {c1 : Nat} {w0 w : World} {l : List HP}  {r : (List (List UInt8))} (hm : m_triremeref11_Below x0_ x1_ = some r) (H : St w0 w (HP.sl R_triremeref11_Node p1 c1 x0_ :: l)) :
  Calls Tryz.prog 43 [.slice p1 (x0_).length c1, .string (txb (x1_))].toArray w (fun e w' => ∃ v, e = .returned v ∧ ∃ (p2 : Option Addr) (c2 : Nat), v = .slice p2 (r).length c2 ∧ St w0 w' (HP.sl rStr p2 c2 r :: l)) := by
 unfold m_triremeref11_Below at hm
 refine x_enter Tryz.func43 rfl rfl rfl ?_
 intro a F
 refine sr (bk [0] F H rfl trivial ?_); clear F; intro a F
 refine nl (sr (s_build0O (R := rStr) wkP F rfl rfl rfl elem35 rfl H ?_)); clear F H; intro b3 w a H F
 refine bk [0] F H rfl trivial ?_; clear F; intro a F
 replace H := H.nf 2 rfl
 refine nl (sq (sr (bk [0] F H rfl trivial ?_))); clear F; intro a F
 refine nl ?_
 obtain ⟨r689, er689, hm689⟩ := ob hm; clear hm; revert er689; intro hm
 refine x_mid (fun aa ww => ∃ (p690 : Option Addr) (c690 : Nat), Fr ⟨72, []⟩ aa [(5, .slice p690 (r689).length c690)] ∧ St w0 ww (HP.ow rStr 9 p690 c690 r689 :: l)) ?_ ?_
 refine bl ?_
 refine x_loopO _ (fun (s1147 : (List (List UInt8)) × Int) aa ww => ∃ (p1148 : Option Addr) (c1148 : Nat), Fr ⟨72, []⟩ aa [(0, .slice p1 (x0_).length c1), (1, .string (txb (x1_))), (5, .slice p1148 (s1147.1).length c1148), (6, .int .i64 (s1147.2))] ∧ St w0 ww (HP.sl R_triremeref11_Node p1 c1 x0_ :: HP.ow rStr 9 p1148 c1148 s1147.1 :: l)) hm ⟨(some ⟨b3, 0, none⟩), 0, F.sl rfl, (H.pm 2 [1, 0] rfl:)⟩ ?_
 clear F H hm
 rintro s1147 a w o ⟨p1148, c1148, F, H⟩ hm
 refine sq (sr (bk [0, 0, 0, 0] F H rfl ⟨⟨_, Tryz.underlying30⟩, trivial⟩ ?_)); clear F; intro a F
 refine nl (cP F rfl (fun hg1149 => ?_) (fun hg1149 => ?_))
 replace hm := ifT hg1149 hm
 refine sk (ct (sq ?_))
 obtain ⟨r1262, er1262, hm1262⟩ := ob hm; clear hm; revert er1262; intro hm
 refine x_mid (fun aa ww => ∃ (p1263 : Option Addr) (c1263 : Nat), Fr ⟨72, []⟩ aa [(0, .slice p1 (x0_).length c1), (1, .string (txb (x1_))), (5, .slice p1263 (r1262).length c1263), (6, .int .i64 (s1147.2))] ∧ St w0 ww (HP.sl R_triremeref11_Node p1 c1 x0_ :: HP.ow rStr 9 p1263 c1263 r1262 :: l)) ?_ ?_
 refine bl (sr (bk [0, 0] F H rfl trivial ?_)); clear F; intro a F
 obtain ⟨x1264, ex1264, hm⟩ := ob hm
 obtain ⟨b1265, o1265, hp1265⟩ := H.slP 0 rfl (idxO_some ex1264).2
 obtain ⟨cs1266, hcl1266, H⟩ := H.slEl 0 rfl hp1265 (idxO_some ex1264).2
 clear hcl1266
 refine s_val wkP F rfl rfl rfl rfl (y_idxS F elem30 rfl rfl rfl hp1265 ex1264) ?_; clear F; intro a F
 refine bk [0] F H rfl ⟨fld50_0, trivial⟩ ?_; clear F; intro a F
 replace H := rc_triremeref11_Node (H.pk 1 rfl); obtain ⟨p1267, c1268, rfl, H⟩ := H
 refine bk [1000, 0] F H rfl ⟨rfl, plain9, trivial⟩ ?_; clear F; intro a F
 refine nl (sq (sr (bk [0] F H rfl trivial ?_))); clear F; intro a F
 refine s_val wkP F rfl rfl rfl rfl (y_eqT (l := x1264.1) (m := [47]) F rfl rfl rfl) ?_; clear F; intro a F
 refine bk [0] F H rfl trivial ?_; clear F; intro a F
 by_cases hg1269 : x1264.1 = ([47])
 replace hm := ifT hg1269 hm
 replace F := F.bT 24 hg1269 rfl
 refine bk (List.replicate 5 0) F H rfl trivial ?_; clear F; intro a F
 refine nl (cT F rfl ?_)
 refine ex (cx (ch ?_))
 cases hm
 refine ct ?_
 exact ⟨p1148, c1148, F.sl rfl, (H.pm 4 [2, 3] rfl:)⟩
 replace hm := ifF hg1269 hm
 replace F := F.bF 24 hg1269 rfl
 refine bk [0] F H rfl trivial ?_; clear F; intro a F
 refine g_onP F rfl rfl rfl rfl ?_
 obtain ⟨x1270, ex1270, hm⟩ := ob hm
 refine sc wkP F rfl ent29 (w_m_triremeref09_Parent ex1270 H:) ?_; clear F H; rintro _ w a ⟨rfl, H⟩ F
 refine bk [0] F H rfl trivial ?_; clear F; intro a F
 refine g_onP F rfl rfl rfl rfl ?_
 refine s_val wkP F rfl rfl rfl rfl (y_neT (l := x1270) (m := x1_) F rfl rfl rfl) ?_; clear F; intro a F
 refine bk [0] F H rfl trivial ?_; clear F; intro a F
 replace H := H.nf 4 rfl
 refine nl (cN F rfl (fun hg1271 => ?_) (fun hg1271 => ?_))
 replace hm := ifF hg1271 hm
 refine ex (cx (ch ?_))
 cases hm
 refine ct ?_
 exact ⟨p1148, c1148, F.sl rfl, (H.pm 4 [2, 3] rfl:)⟩
 replace hm := ifT hg1271 hm
 refine sk (ct (sr (bk [0, 0] F H rfl trivial ?_))); clear F; intro a F
 obtain ⟨x1272, ex1272, hm⟩ := ob hm
 refine sc wkP F rfl ent70 (w_m_triremeref09_Base ex1272 H:) ?_; clear F H; rintro _ w a ⟨rfl, H⟩ F
 refine s_buildC wkP F rfl rfl rfl elem35 zero9 rfl rfl rfl rfl (by simp [Value.cells]) (by decide) H ?_; clear F H; intro b1273 w a H F
 replace H := H.blkOw1 (R := rStr) (x := x1272) (fun gg => rfl)
 replace H := H.frz 0 rfl
 obtain ⟨x1275, ex1275, hm⟩ := ob hm
 refine s_app wkP F rfl rfl rfl rfl rfl rfl elem35 rfl ex1275 H 4 0 rfl rfl ?_; clear F H; intro p1274 c1274 w a H F
 refine bk [0] F H rfl trivial ?_; clear F; intro a F
 replace H := H.nf 5 rfl
 refine nl (sr (bk [0, 0, 0, 0] F H rfl ⟨⟨_, Tryz.underlying35⟩, trivial⟩ ?_)); clear F; intro a F
 refine nl ?_
 obtain ⟨r1325, er1325, hm1325⟩ := ob hm; clear hm; revert er1325; intro hm
 refine x_mid (fun aa ww => ∃ (p1326 : Option Addr) (c1326 : Nat), Fr ⟨72, []⟩ aa [(0, .slice p1 (x0_).length c1), (1, .string (txb (x1_))), (5, .slice p1326 (r1325).length c1326), (6, .int .i64 (s1147.2))] ∧ St w0 ww (HP.row b1265 (o1265 + (s1147.2 : Int).toNat * 3) ([.string (txb (x1264.1)), .bool (x1264.2.1), .slice p1267 (x1264.2.2).length c1268]) :: HP.sl R_triremeref11_Node p1 c1 x0_ :: HP.ow rStr 9 p1326 c1326 r1325 :: l)) ?_ ?_
 refine bl ?_
 refine x_loopO _ (fun (s1359 : (List (List UInt8)) × Int) aa ww => ∃ (p1360 : Option Addr) (c1360 : Nat), Fr ⟨72, []⟩ aa [(0, .slice p1 (x0_).length c1), (1, .string (txb (x1_))), (5, .slice p1360 (s1359.1).length c1360), (6, .int .i64 (s1147.2)), (8, .int .i64 (s1359.2))] ∧ St w0 ww (HP.row b1265 (o1265 + (s1147.2 : Int).toNat * 3) ([.string (txb (x1264.1)), .bool (x1264.2.1), .slice p1267 (x1264.2.2).length c1268]) :: HP.sl R_triremeref11_Node p1 c1 x0_ :: HP.ow rStr 9 p1360 c1360 s1359.1 :: l)) hm ⟨p1274, c1274, F.sl rfl, (H.pm 5 [2, 3, 4] rfl:)⟩ ?_
 clear F H hm
 rintro s1359 a w o ⟨p1360, c1360, F, H⟩ hm
 refine sq (sq ?_)
 by_cases hg1361 : 0 < s1359.2
 replace hm := ifT hg1361 hm
 obtain ⟨x1362, ex1362, hm⟩ := ob hm
 obtain ⟨b1363, hp1363⟩ := H.owP 2 rfl (idxO_some ex1362).2
 obtain ⟨x1365, ex1365, hm⟩ := ob hm
 refine qr H (by kernel_rfl) (by kernel_rfl) ?_
 refine qbk [0, 0, 0] F rfl trivial ?_; clear F; intro a F
 replace F := F.bT 40 hg1361 rfl
 refine qbk [0, 0] F rfl trivial ?_; clear F; intro a F
 refine qg_on F rfl rfl rfl rfl ?_
 refine q_val F rfl rfl rfl (fun u hu => y_idxS F elem35 rfl rfl rfl hp1363 ex1362) ?_; clear F; intro a F
 refine qg_on F rfl rfl rfl rfl ?_
 refine q_val F rfl rfl rfl (fun u hu => y_load1 F plain9 rfl rfl (hu.owStr 2 rfl hp1363 ex1362)) ?_; clear F; intro a F
 refine qbk [0, 0, 0] F rfl trivial ?_; clear F; intro a F
 refine qg_on F rfl rfl rfl rfl ?_
 refine q_val F rfl rfl rfl (fun u hu => y_idxS F elem35 rfl rfl rfl hp1363 ex1365) ?_; clear F; intro a F
 refine qg_on F rfl rfl rfl rfl ?_
 refine q_val F rfl rfl rfl (fun u hu => y_load1 F plain9 rfl rfl (hu.owStr 2 rfl hp1363 ex1365)) ?_; clear F; intro a F
 refine qg_on F rfl rfl rfl rfl ?_
 refine q_val F rfl rfl rfl (fun u hu => y_lssT (l := x1362) (m := x1365) F rfl rfl rfl) ?_; clear F; intro a F
 refine qbk [0] F rfl trivial ?_; clear F; intro a F
 refine q_nil ?_; clear H; intro w H
 refine ct (cB F rfl (fun hg1367 => ?_) (fun hg1367 => ?_))
 replace hm := ifT hg1367 hm
 refine sk (ct (sq (bl (sr (bk [0, 0] F H rfl trivial ?_))))); clear F; intro a F
 obtain ⟨x1368, ex1368, hm⟩ := ob hm
 refine s_val wkP F rfl rfl rfl rfl (y_idxS F elem35 rfl rfl rfl hp1363 ex1368) ?_; clear F; intro a F
 refine s_val wkP F rfl rfl rfl rfl (y_load1 F plain9 rfl rfl (H.owStr 2 rfl hp1363 ex1368)) ?_; clear F; intro a F
 refine bk [0] F H rfl trivial ?_; clear F; intro a F
 refine nl (sr (bk (List.replicate 5 0) F H rfl trivial ?_)); clear F; intro a F
 obtain ⟨x1370, ex1370, hm⟩ := ob hm
 refine s_val wkP F rfl rfl rfl rfl (y_idxS F elem35 rfl rfl rfl hp1363 ex1370) ?_; clear F; intro a F
 refine s_val wkP F rfl rfl rfl rfl (y_load1 F plain9 rfl rfl (H.owStr 2 rfl hp1363 ex1370)) ?_; clear F; intro a F
 obtain ⟨x1372, ex1372, hm⟩ := ob hm
 refine s_val wkP F rfl rfl rfl rfl (y_idxS F elem35 rfl rfl rfl hp1363 ex1372) ?_; clear F; intro a F
 refine s_owSet1 wkP F rfl rfl zero9 rfl rfl rfl rfl rfl rfl H 2 rfl hp1363 ex1372 (zz := x1370) (fun gg => rfl) ?_; clear H; intro w H
 replace H : St w0 w (HP.row b1265 (o1265 + (s1147.2 : Int).toNat * 3) ([.string (txb (x1264.1)), .bool (x1264.2.1), .slice p1267 (x1264.2.2).length c1268]) :: HP.sl R_triremeref11_Node p1 c1 x0_ :: HP.ow rStr 9 p1360 c1360 ((s1359.1).set (s1359.2 : Int).toNat x1370) :: l) := (by have h := H; first | exact h | (simp only [List.length_set] at h ⊢; exact h))
 replace F := F.bool (k := 5) (u := .slice p1360 ((s1359.1).set (s1359.2 : Int).toNat x1370).length c1360) rfl (by simp only [List.length_set])
 replace F := F.bool (k := 41) (u := .slice p1360 ((s1359.1).set (s1359.2 : Int).toNat x1370).length c1360) rfl (by simp only [List.length_set])
 replace F := F.bool (k := 45) (u := .slice p1360 ((s1359.1).set (s1359.2 : Int).toNat x1370).length c1360) rfl (by simp only [List.length_set])
 replace F := F.bool (k := 54) (u := .slice p1360 ((s1359.1).set (s1359.2 : Int).toNat x1370).length c1360) rfl (by simp only [List.length_set])
 replace F := F.bool (k := 58) (u := .slice p1360 ((s1359.1).set (s1359.2 : Int).toNat x1370).length c1360) rfl (by simp only [List.length_set])
 replace F := F.bool (k := 60) (u := .slice p1360 ((s1359.1).set (s1359.2 : Int).toNat x1370).length c1360) rfl (by simp only [List.length_set])
 refine nl (rl (bk [0, 0, 0, 0] F H rfl trivial ?_)); clear F; intro a F
 obtain ⟨x1374, ex1374, hm⟩ := ob hm
 refine s_val wkP F rfl rfl rfl rfl (y_idxS F elem35 rfl rfl rfl hp1363 ex1374) ?_; clear F; intro a F
 refine s_owSet1 wkP F rfl rfl zero9 rfl rfl rfl rfl rfl rfl H 2 rfl hp1363 ex1374 (zz := x1368) (fun gg => rfl) ?_; clear H; intro w H
 replace H : St w0 w (HP.row b1265 (o1265 + (s1147.2 : Int).toNat * 3) ([.string (txb (x1264.1)), .bool (x1264.2.1), .slice p1267 (x1264.2.2).length c1268]) :: HP.sl R_triremeref11_Node p1 c1 x0_ :: HP.ow rStr 9 p1360 c1360 (((s1359.1).set (s1359.2 : Int).toNat x1370).set (IntKind.i64.wrap (s1359.2 - 1) : Int).toNat x1368) :: l) := (by have h := H; first | exact h | (simp only [List.length_set] at h ⊢; exact h))
 replace F := F.bool (k := 5) (u := .slice p1360 (((s1359.1).set (s1359.2 : Int).toNat x1370).set (IntKind.i64.wrap (s1359.2 - 1) : Int).toNat x1368).length c1360) rfl (by simp only [List.length_set])
 replace F := F.bool (k := 41) (u := .slice p1360 (((s1359.1).set (s1359.2 : Int).toNat x1370).set (IntKind.i64.wrap (s1359.2 - 1) : Int).toNat x1368).length c1360) rfl (by simp only [List.length_set])
 replace F := F.bool (k := 45) (u := .slice p1360 (((s1359.1).set (s1359.2 : Int).toNat x1370).set (IntKind.i64.wrap (s1359.2 - 1) : Int).toNat x1368).length c1360) rfl (by simp only [List.length_set])
 replace F := F.bool (k := 54) (u := .slice p1360 (((s1359.1).set (s1359.2 : Int).toNat x1370).set (IntKind.i64.wrap (s1359.2 - 1) : Int).toNat x1368).length c1360) rfl (by simp only [List.length_set])
 replace F := F.bool (k := 58) (u := .slice p1360 (((s1359.1).set (s1359.2 : Int).toNat x1370).set (IntKind.i64.wrap (s1359.2 - 1) : Int).toNat x1368).length c1360) rfl (by simp only [List.length_set])
 replace F := F.bool (k := 60) (u := .slice p1360 (((s1359.1).set (s1359.2 : Int).toNat x1370).set (IntKind.i64.wrap (s1359.2 - 1) : Int).toNat x1368).length c1360) rfl (by simp only [List.length_set])
 replace F := F.bool (k := 66) (u := .slice p1360 (((s1359.1).set (s1359.2 : Int).toNat x1370).set (IntKind.i64.wrap (s1359.2 - 1) : Int).toNat x1368).length c1360) rfl (by simp only [List.length_set])
 refine lz (bn (ct (rl (bk [0, 0, 0] F H rfl trivial ?_)))); clear F; intro a F
 refine lz (ct ?_); cases hm
 exact ⟨_, rfl, ⟨p1360, c1360, F.sl rfl, H⟩⟩
 replace hm := ifF (nT hg1367) hm
 refine ex (cx (cx ?_)); cases hm; refine ⟨_, rfl, ?_⟩; rintro rfl
 refine ch (ct ?_)
 exact ⟨p1360, c1360, F.sl rfl, H⟩
 replace hm := ifF hg1361 hm
 refine qr H (by kernel_rfl) (by kernel_rfl) ?_
 refine qbk [0, 0, 0] F rfl trivial ?_; clear F; intro a F
 replace F := F.bF 40 hg1361 rfl
 refine qbk (List.replicate 11 0) F rfl trivial ?_; clear F; intro a F
 refine q_nil ?_; clear H; intro w H
 refine ct (cF F rfl ?_)
 refine ex (cx (cx ?_)); cases hm; refine ⟨_, rfl, ?_⟩; rintro rfl
 refine ch (ct ?_)
 exact ⟨p1360, c1360, F.sl rfl, H⟩
 clear F H hm
 rintro a w ⟨p1326, c1326, F, H⟩; have hm := hm1325; clear hm1325
 refine bn ?_
 cases hm
 refine ct ?_
 exact ⟨p1326, c1326, F.sl rfl, (H.pm 3 [1, 2] rfl:)⟩
 clear F H hm
 rintro a w ⟨p1263, c1263, F, H⟩; have hm := hm1262; clear hm1262
 refine ct (rl (bk [0, 0, 0] F H rfl trivial ?_)); clear F; intro a F
 refine lz (ct ?_); cases hm
 exact ⟨_, rfl, ⟨p1263, c1263, F.sl rfl, H⟩⟩
 replace hm := ifF hg1149 hm
 refine ex (cx (cx ?_)); cases hm; refine ⟨_, rfl, ?_⟩; rintro rfl
 refine ch (ct ?_)
 exact ⟨p1148, c1148, F.sl rfl, (H.pm 2 [1] rfl:)⟩
 clear F H hm
 rintro a w ⟨p690, c690, F, H⟩; have hm := hm689; clear hm689
 refine ct (sr (bk [0, 0] F H rfl trivial ?_)); clear F; intro a F
 refine nl (wr ?_)
 replace H := H.frz 0 rfl
 cases hm
 refine x_ret1 F rfl rfl ?_
 exact ⟨_, rfl, p690, c690, rfl, H⟩
set_option maxRecDepth 100000 in
set_option maxHeartbeats 4000000 in
theorem w_m_triremeref11_resized {x0_ : List UInt8} {x1_ : Int} {p1 : Option Addr} {c1 : Nat} {w0 w : World} {l : List HP}  {r : (List UInt8)} (hm : m_triremeref11_resized x0_ x1_ = some r) (H : St w0 w (HP.sl rByte p1 c1 x0_ :: l)) :
  Calls Tryz.prog 68 [.slice p1 (x0_).length c1, .int .i64 (x1_)].toArray w (fun e w' => ∃ v, e = .returned v ∧ ∃ (p2 : Option Addr) (c2 : Nat), v = .slice p2 (r).length c2 ∧ St w0 w' (HP.sl rByte p2 c2 r :: l)) := by
 unfold m_triremeref11_resized at hm
 refine x_enter Tryz.func68 rfl rfl rfl ?_
 intro a F
 refine sr (bk [0] F H rfl trivial ?_); clear F; intro a F
 refine nl (sr (s_build0O (R := rByte) wkP F rfl rfl rfl elem23 rfl H ?_)); clear F H; intro b3 w a H F
 refine bk [0] F H rfl trivial ?_; clear F; intro a F
 replace H := H.nf 2 rfl
 refine nl (sq (sr (bk [0] F H rfl trivial ?_))); clear F; intro a F
 refine nl ?_
 obtain ⟨r173, er173, hm173⟩ := ob hm; clear hm; revert er173; intro hm
 refine x_mid (fun aa ww => ∃ (p174 : Option Addr) (c174 : Nat), Fr ⟨28, []⟩ aa [(5, .slice p174 (r173).length c174)] ∧ St w0 ww (HP.ow rByte 5 p174 c174 r173 :: l)) ?_ ?_
 refine bl (x_loopO _ (fun (s287 : (List UInt8) × Int) aa ww => ∃ (p288 : Option Addr) (c288 : Nat), Fr ⟨28, []⟩ aa [(0, .slice p1 (x0_).length c1), (1, .int .i64 (x1_)), (5, .slice p288 (s287.1).length c288), (6, .int .i64 (s287.2))] ∧ St w0 ww (HP.sl rByte p1 c1 x0_ :: HP.ow rByte 5 p288 c288 s287.1 :: l)) hm ⟨(some ⟨b3, 0, none⟩), 0, F.sl rfl, (H.pm 2 [1, 0] rfl:)⟩ ?_)
 clear F H hm
 rintro s287 a w o ⟨p288, c288, F, H⟩ hm
 refine sq (sr (bk [0, 0, 0] F H rfl trivial ?_)); clear F; intro a F
 refine nl (cP F rfl (fun hg289 => ?_) (fun hg289 => ?_))
 replace hm := ifT hg289 hm
 refine sk (ct (sq ?_))
 obtain ⟨r316, er316, hm316⟩ := ob hm; clear hm; revert er316; intro hm
 refine x_mid (fun aa ww => ∃ (p317 : Option Addr) (c317 : Nat), Fr ⟨28, []⟩ aa [(0, .slice p1 (x0_).length c1), (1, .int .i64 (x1_)), (5, .slice p317 (r316).length c317), (6, .int .i64 (s287.2))] ∧ St w0 ww (HP.sl rByte p1 c1 x0_ :: HP.ow rByte 5 p317 c317 r316 :: l)) ?_ ?_
 refine bl (sr (bk [0, 0, 0, 0] F H rfl ⟨⟨_, Tryz.underlying23⟩, trivial⟩ ?_)); clear F; intro a F
 refine nl ?_
 obtain ⟨r330, er330, hm330⟩ := ob hm; clear hm; revert er330; intro hm
 refine x_mid (fun aa ww => ∃ (p331 : Option Addr) (c331 : Nat), Fr ⟨28, []⟩ aa [(0, .slice p1 (x0_).length c1), (1, .int .i64 (x1_)), (5, .slice p331 (r330).length c331), (6, .int .i64 (s287.2))] ∧ St w0 ww (HP.sl rByte p1 c1 x0_ :: HP.ow rByte 5 p331 c331 r330 :: l)) ?_ ?_
 refine cP F rfl (fun hg332 => ?_) (fun hg332 => ?_)
 replace hm := ifT hg332 hm
 refine rl (bk [0, 0, 0] F H rfl trivial ?_); clear F; intro a F
 obtain ⟨x333, ex333, hm⟩ := ob hm
 obtain ⟨b334, o334, hp334⟩ := H.slP 0 rfl (idxO_some ex333).2
 obtain ⟨cs335, hcl335, H⟩ := H.slEl 0 rfl hp334 (idxO_some ex333).2
 obtain rfl := H.rcB 1 rfl
 replace H := H.dp 1 rfl
 clear hcl335
 refine s_val wkP F rfl rfl rfl rfl (y_idxS F elem23 rfl rfl rfl hp334 ex333) ?_; clear F; intro a F
 refine bk [0] F H rfl ⟨rfl, plain5, trivial⟩ ?_; clear F; intro a F
 obtain ⟨x337, ex337, hm⟩ := ob hm
 refine s_buildC wkP F rfl rfl rfl elem23 zero5 rfl rfl rfl rfl (by simp [Value.cells]) (by decide) H ?_; clear F H; intro b336 w a H F
 replace H := H.blkOw1 (R := rByte) (x := x337) (fun gg => (congrArg (fun z => [Value.int .u8 z]) (u8O_some ex337).symm))
 replace H := H.frz 0 rfl
 obtain ⟨x339, ex339, hm⟩ := ob hm
 refine s_app wkP F rfl rfl rfl rfl rfl rfl elem23 rfl ex339 H 3 0 rfl rfl ?_; clear F H; intro p338 c338 w a H F
 refine bk [0] F H rfl trivial ?_; clear F; intro a F
 replace H := H.nf 4 rfl
 refine lz ?_
 cases hm
 refine ct ?_
 exact ⟨p338, c338, F.sl rfl, (H.pm 4 [2, 3] rfl:)⟩
 replace hm := ifF hg332 hm
 refine rl (bk [0] F H rfl trivial ?_); clear F; intro a F
 obtain ⟨x341, ex341, hm⟩ := ob hm
 refine s_buildC wkP F rfl rfl rfl elem23 zero5 rfl rfl rfl rfl (by simp [Value.cells]) (by decide) H ?_; clear F H; intro b340 w a H F
 replace H := H.blkOw1 (R := rByte) (x := x341) (fun gg => (congrArg (fun z => [Value.int .u8 z]) (u8O_some ex341).symm))
 replace H := H.frz 0 rfl
 obtain ⟨x343, ex343, hm⟩ := ob hm
 refine s_app wkP F rfl rfl rfl rfl rfl rfl elem23 rfl ex343 H 2 0 rfl rfl ?_; clear F H; intro p342 c342 w a H F
 refine bk [0] F H rfl trivial ?_; clear F; intro a F
 replace H := H.nf 3 rfl
 refine lz ?_
 cases hm
 refine ct ?_
 exact ⟨p342, c342, F.sl rfl, (H.pm 3 [1, 2] rfl:)⟩
 clear F H hm
 rintro a w ⟨p331, c331, F, H⟩; have hm := hm330; clear hm330
 refine bn ?_
 cases hm
 refine ct ?_
 exact ⟨p331, c331, F.sl rfl, H⟩
 clear F H hm
 rintro a w ⟨p317, c317, F, H⟩; have hm := hm316; clear hm316
 refine ct (rl (bk [0, 0, 0] F H rfl trivial ?_)); clear F; intro a F
 refine lz (ct ?_); cases hm
 exact ⟨_, rfl, ⟨p317, c317, F.sl rfl, H⟩⟩
 replace hm := ifF hg289 hm
 refine ex (cx (cx ?_)); cases hm; refine ⟨_, rfl, ?_⟩; rintro rfl
 refine ch (ct ?_)
 exact ⟨p288, c288, F.sl rfl, (H.pm 2 [1] rfl:)⟩
 clear F H hm
 rintro a w ⟨p174, c174, F, H⟩; have hm := hm173; clear hm173
 refine ct (sr (bk [0, 0] F H rfl trivial ?_)); clear F; intro a F
 refine nl (wr ?_)
 replace H := H.frz 0 rfl
 cases hm
 refine x_ret1 F rfl rfl ?_
 exact ⟨_, rfl, p174, c174, rfl, H⟩
set_option maxRecDepth 100000 in
set_option maxHeartbeats 4000000 in
theorem w_m_triremeref11_no {x0_ : List T_triremeref11_Node} {x1_ : Int} {p1 : Option Addr} {c1 : Nat} {w0 w : World} {l : List HP}  {r : (List T_triremeref11_Node) × T_api_Answer} (hm : m_triremeref11_no x0_ x1_ = some r) (H : St w0 w (HP.sl R_triremeref11_Node p1 c1 x0_ :: l)) :
  Calls Tryz.prog 39 [.slice p1 (x0_).length c1, .int .i64 (x1_)].toArray w (fun e w' => ∃ v, e = .returned v ∧ ∃ (p2 : Option Addr) (c2 : Nat) (cs3 : List Value), v = .tuple [.slice p2 (r.1).length c2, .agg cs3.toArray].toArray ∧ St w0 w' (HP.sl R_triremeref11_Node p2 c2 r.1 :: HP.rc R_api_Answer cs3 r.2 :: l)) := by
 unfold m_triremeref11_no at hm
 refine x_enter Tryz.func39 rfl rfl rfl ?_
 intro a F
 refine sr (bk [0] F H rfl trivial ?_); clear F; intro a F
 replace H := H.owNil rByte 5
 replace H := H.owNil rStr 9
 refine s_allocA wkP F rfl rfl rfl agz37 rfl H ?_; clear F H; intro b4 w a H F
 replace H := H.nf 4 rfl
 refine nl (sr (bk [0, 0] F H rfl trivial ?_)); clear F; intro a F
 replace H := H.owNil rByte 5
 replace H := H.owNil rStr 9
 refine s_val wkP F rfl rfl rfl rfl (y_build F rfl rfl (cs := [.int .i64 (x1_), .int .i64 (0), .slice none (([] : List UInt8)).length 0, .slice none (([] : List (List UInt8))).length 0]) (by kernel_rfl)) ?_; clear F; intro a F
 refine bk [0] F H rfl trivial ?_; clear F; intro a F
 refine s_storeA wkP F rfl rfl agg37 rfl rfl rfl H 2 rfl (by simp only [List.length_append, List.length_cons, List.length_nil, icells_length, bcells_length]) (by simp only [List.length_append, List.length_cons, List.length_nil, icells_length, bcells_length]) (by intro v hv; simp only [List.mem_append, List.mem_cons, List.not_mem_nil, or_false] at hv; first | (rcases hv with h | h <;> first | (subst h; rfl) | exact bcells_flat _ _ h | exact icells_flat _ _ _ h | (rcases h with h | h <;> first | (subst h; rfl) | exact bcells_flat _ _ h | exact icells_flat _ _ _ h | (rcases h with h | h <;> first | (subst h; rfl) | exact bcells_flat _ _ h | (rcases h with h | h <;> first | (subst h; rfl) | (rcases h with h | h <;> (subst h; rfl)))))) | (subst hv; rfl)) ?_; clear H; intro w H
 replace H := H.nf 6 rfl
 refine nl (wr ?_)
 replace H := H.frz 1 rfl
 replace H := H.frz 1 rfl
 replace H := H.mkRc (R := R_api_Answer) (cs := [.int .i64 (x1_), .int .i64 (0), .slice none (([] : List UInt8)).length 0, .slice none (([] : List (List UInt8))).length 0]) (x := (x1_, 0, ([] : List UInt8), ([] : List (List UInt8)))) (fun gg => ⟨_, _, rfl, rfl, ⟨_, _, rfl, rfl, ⟨_, _, rfl, ⟨_, _, rfl, (gg 1 _ rfl).choose_spec⟩, ⟨_, _, rfl, (gg 0 _ rfl).choose_spec⟩⟩⟩⟩)
 cases hm
 refine x_resC2 F rfl rfl (⟨_, rfl, agg37.run_load (H.blk 3 rfl).row (by simp only [List.length_append, List.length_cons, List.length_nil, icells_length, bcells_length])⟩) ?_
 exact ⟨_, rfl, p1, c1, [.int .i64 (x1_), .int .i64 (0), .slice none (([] : List UInt8)).length 0, .slice none (([] : List (List UInt8))).length 0], rfl, (H.pm 7 [6, 0] rfl:)⟩
theorem ent39 : ∀ args w, (callFunc 39 args).run Tryz.prog w = .ok (.enter 39 args) w := enters Tryz.func39 (by kernel_rfl) rfl
theorem ent68 : ∀ args w, (callFunc 68 args).run Tryz.prog w = .ok (.enter 68 args) w := enters Tryz.func68 (by kernel_rfl) rfl
set_option maxRecDepth 100000 in
set_option maxHeartbeats 4000000 in
theorem w_rChange {list : List T_triremeref11_Node} {oq : T_api_Op} {p1 : Option Addr} {c1 : Nat} {cs2 : List Value} {w0 w : World} {l : List HP}  {r : (List T_triremeref11_Node) × T_api_Answer} (hm : rChange list oq = some r) (H : St w0 w (HP.sl R_triremeref11_Node p1 c1 list :: HP.rc R_api_Op cs2 oq :: l)) :
  Calls Tryz.prog 40 [.slice p1 (list).length c1, .agg cs2.toArray].toArray w (fun e w' => ∃ v, e = .returned v ∧ ∃ (p3 : Option Addr) (c3 : Nat) (cs4 : List Value), v = .tuple [.slice p3 (r.1).length c3, .agg cs4.toArray].toArray ∧ St w0 w' (HP.sl R_triremeref11_Node p3 c3 r.1 :: HP.rc R_api_Answer cs4 r.2 :: l)) := by
 unfold rChange at hm
 refine x_enter Tryz.func40 rfl rfl rfl ?_
 intro a F
 refine sr (s_boxA wkP F rfl rfl rfl rfl rfl H ?_); clear F H; intro b5 w a H F
 refine bk [0] F H rfl trivial ?_; clear F; intro a F
 replace H := H.owNil rByte 5
 replace H := H.owNil rStr 9
 refine s_allocA wkP F rfl rfl rfl agz37 rfl H ?_; clear F H; intro b6 w a H F
 replace H := H.nf 6 rfl
 refine nl (sr (bk [0, 1] F H rfl ⟨fld25_1, trivial⟩ ?_)); clear F; intro a F
 replace H := rc_api_Op (H.pk 5 rfl); obtain ⟨p7, c8, rfl, H⟩ := H
 refine bk [4001] F H rfl ⟨rfl, plain9, trivial⟩ ?_; clear F; intro a F
 obtain ⟨x9, ex9, hm⟩ := ob hm
 refine sc wkP F rfl ent42 (w_m_triremeref11_Look ex9 (H.pm 6 [5, 0, 1, 2, 3, 4, 5] rfl:):) ?_; clear F H; rintro _ w a ⟨rfl, H⟩ F
 refine bk (List.replicate 5 0) F H rfl trivial ?_; clear F; intro a F
 replace H := H.nf 6 rfl
 refine nl (sq (sr (bk [0, 0] F H rfl trivial ?_))); clear F; intro a F
 refine nl (cN F rfl (fun hg10 => ?_) (fun hg10 => ?_))
 replace hm := ifF hg10 hm
 refine sr (bk [0, 0] F H rfl trivial ?_); clear F; intro a F
 obtain ⟨x11, ex11, hm⟩ := ob hm
 refine sc wkP F rfl ent39 (w_m_triremeref11_no ex11 (H.pm 6 [5, 0, 1, 2, 3, 4, 5] rfl:):) ?_; clear F H; rintro _ w a ⟨p12, c12, cs13, rfl, H⟩ F
 refine bk [0, 0, 0] F H rfl trivial ?_; clear F; intro a F
 refine s_storeA wkP F rfl rfl agg37 rfl rfl rfl H 3 rfl (H.rcLen 1 rfl) (by simp only [List.length_append, List.length_cons, List.length_nil, icells_length, bcells_length]) (H.rcFlat 1 rfl) ?_; clear H; intro w H
 replace H := H.nf 8 rfl
 refine nl (wr (tr ?_))
 cases hm
 refine x_resC2 F rfl rfl (⟨_, rfl, agg37.run_load (H.blk 3 rfl).row (H.rcLen 1 rfl)⟩) ?_
 exact ⟨_, rfl, p12, c12, cs13, rfl, (H.pm 8 [0, 1] rfl:)⟩
 replace hm := ifT hg10 hm
 refine sk (ct (sr (bk [0, 0] F H rfl trivial ?_))); clear F; intro a F
 obtain ⟨x14, ex14, hm⟩ := ob hm
 obtain ⟨b15, o15, hp15⟩ := H.slP 5 rfl (idxO_some ex14).2
 obtain ⟨cs16, hcl16, H⟩ := H.slEl 5 rfl hp15 (idxO_some ex14).2
 clear hcl16
 refine s_val wkP F rfl rfl rfl rfl (y_idxS F elem30 rfl rfl rfl hp15 ex14) ?_; clear F; intro a F
 refine bk [999] F H rfl ⟨rfl, (aggn agg50 (H.rcLen 1 rfl)), trivial⟩ ?_; clear F; intro a F
 replace H := H.owNil rByte 5
 refine s_allocA wkP F rfl rfl rfl agz50 rfl H ?_; clear F H; intro b17 w a H F
 refine s_storeA wkP F rfl rfl agg50 rfl rfl rfl H 0 rfl (H.rcLen 3 rfl) (by simp only [List.length_append, List.length_cons, List.length_nil, icells_length, bcells_length]) (H.rcFlat 3 rfl) ?_; clear H; intro w H
 replace H := H.nf 10 rfl
 refine nl (sq (sr (bk [1] F H rfl ⟨fld50_1, trivial⟩ ?_))); clear F; intro a F
 replace H := rc_triremeref11_Node (H.pk 3 rfl); obtain ⟨p18, c19, rfl, H⟩ := H
 refine bk [1001] F H rfl ⟨rfl, plain4, trivial⟩ ?_; clear F; intro a F
 refine nl (cB F rfl (fun hg20 => ?_) (fun hg20 => ?_))
 replace hm := ifT hg20 hm
 refine sr (bk [0] F H rfl trivial ?_); clear F; intro a F
 obtain ⟨x21, ex21, hm⟩ := ob hm
 refine sc wkP F rfl ent39 (w_m_triremeref11_no ex21 (H.pm 10 [9, 0, 1, 2, 3, 4, 5, 6, 7, 8, 9] rfl:):) ?_; clear F H; rintro _ w a ⟨p22, c22, cs23, rfl, H⟩ F
 refine bk [0, 0, 0] F H rfl trivial ?_; clear F; intro a F
 refine s_storeA wkP F rfl rfl agg37 rfl rfl rfl H 7 rfl (H.rcLen 1 rfl) (by simp only [List.length_append, List.length_cons, List.length_nil, icells_length, bcells_length]) (H.rcFlat 1 rfl) ?_; clear H; intro w H
 replace H := H.nf 12 rfl
 refine nl (wr (tr ?_))
 cases hm
 refine x_resC2 F rfl rfl (⟨_, rfl, agg37.run_load (H.blk 7 rfl).row (H.rcLen 1 rfl)⟩) ?_
 exact ⟨_, rfl, p22, c22, cs23, rfl, (H.pm 12 [0, 1] rfl:)⟩
 replace hm := ifF (nT hg20) hm
 refine sk (ct (sq (sq ?_)))
 obtain ⟨r28, er28, hm28⟩ := ob hm; clear hm; revert er28; intro hm
 refine x_mid (fun aa ww => Fr ⟨196, []⟩ aa [(0, .slice p1 (list).length c1), (3, .pointer (some ⟨b5, 0, none⟩)), (5, .pointer (some ⟨b6, 0, none⟩)), (6, .int .i64 (x9.1)), (8, .pointer (some ⟨b17, 0, none⟩)), (55, .bool (r28))] ∧ St w0 ww (HP.sl rByte p18 c19 x14.2.2 :: HP.blk b17 ([.string (txb (x14.1)), .bool (x14.2.1), .slice p18 (x14.2.2).length c19]) 50 :: HP.ow rByte 5 none 0 ([] : List UInt8) :: HP.row b15 (o15 + (x9.1 : Int).toNat * 3) ([.string (txb (x14.1)), .bool (x14.2.1), .slice p18 (x14.2.2).length c19]) :: HP.sl rByte p7 c8 oq.2.2.2.2.2 :: HP.blk b6 ([.int .i64 (0), .int .i64 (0), .slice none (([] : List UInt8)).length 0, .slice none (([] : List (List UInt8))).length 0]) 37 :: HP.ow rStr 9 none 0 ([] : List (List UInt8)) :: HP.ow rByte 5 none 0 ([] : List UInt8) :: HP.blk b5 ([.int .i64 (oq.1), .string (txb (oq.2.1)), .string (txb (oq.2.2.1)), .int .i64 (oq.2.2.2.1), .int .i64 (oq.2.2.2.2.1), .slice p7 (oq.2.2.2.2.2).length c8]) 25 :: HP.sl R_triremeref11_Node p1 c1 list :: l)) ?_ ?_
 refine rl (bk [0, 8000, 0, 0] F H rfl ⟨fld25_0, rfl, plain3, trivial⟩ ?_); clear F; intro a F
 by_cases hg29 : oq.1 = 4
 replace hm := ifT hg29 hm
 replace F := F.nT 41 hg29 rfl
 refine bk [0, 0, 0, 0, 0, 0, 8000, 0, 0] F H rfl ⟨fld25_0, rfl, plain3, trivial⟩ ?_; clear F; intro a F
 by_cases hg30 : oq.1 = 3
 replace hm := ifT hg30 hm
 replace F := F.nT 50 hg30 rfl
 refine bk (List.replicate 5 0) F H rfl trivial ?_; clear F; intro a F
 refine lz ?_
 cases hm
 refine ct ?_
 exact ⟨F.sl rfl, H⟩
 replace hm := ifF hg30 hm
 replace F := F.nF 50 hg30 rfl
 refine bk [4, 8004, 0, 0, 0] F H rfl ⟨fld25_4, rfl, plain3, trivial⟩ ?_; clear F; intro a F
 refine lz ?_
 cases hm
 refine ct ?_
 exact ⟨F.sl rfl, H⟩
 replace hm := ifF hg29 hm
 replace F := F.nF 41 hg29 rfl
 refine bk [3, 8003, 0, 0, 0] F H rfl ⟨fld25_3, rfl, plain3, trivial⟩ ?_; clear F; intro a F
 by_cases hg31 : oq.2.2.2.1 < 0
 replace hm := ifT hg31 hm
 replace F := F.bT 46 hg31 rfl
 refine bk (List.replicate 9 0) F H rfl trivial ?_; clear F; intro a F
 refine lz ?_
 cases hm
 refine ct ?_
 exact ⟨F.sl rfl, H⟩
 replace hm := ifF hg31 hm
 replace F := F.bF 46 hg31 rfl
 refine bk [0, 8000, 0, 0] F H rfl ⟨fld25_0, rfl, plain3, trivial⟩ ?_; clear F; intro a F
 by_cases hg32 : oq.1 = 3
 replace hm := ifT hg32 hm
 replace F := F.nT 50 hg32 rfl
 refine bk (List.replicate 5 0) F H rfl trivial ?_; clear F; intro a F
 refine lz ?_
 cases hm
 refine ct ?_
 exact ⟨F.sl rfl, H⟩
 replace hm := ifF hg32 hm
 replace F := F.nF 50 hg32 rfl
 refine bk [4, 8004, 0, 0, 0] F H rfl ⟨fld25_4, rfl, plain3, trivial⟩ ?_; clear F; intro a F
 refine lz ?_
 cases hm
 refine ct ?_
 exact ⟨F.sl rfl, H⟩
 clear F H hm
 rintro a w ⟨F, H⟩; have hm := hm28; clear hm28
 refine ct (cB F rfl (fun hg33 => ?_) (fun hg33 => ?_))
 replace hm := ifT hg33 hm
 refine sr (bk [0] F H rfl trivial ?_); clear F; intro a F
 obtain ⟨x34, ex34, hm⟩ := ob hm
 refine sc wkP F rfl ent39 (w_m_triremeref11_no ex34 (H.pm 10 [9, 0, 1, 2, 3, 4, 5, 6, 7, 8, 9] rfl:):) ?_; clear F H; rintro _ w a ⟨p35, c35, cs36, rfl, H⟩ F
 refine bk [0, 0, 0] F H rfl trivial ?_; clear F; intro a F
 refine s_storeA wkP F rfl rfl agg37 rfl rfl rfl H 7 rfl (H.rcLen 1 rfl) (by simp only [List.length_append, List.length_cons, List.length_nil, icells_length, bcells_length]) (H.rcFlat 1 rfl) ?_; clear H; intro w H
 replace H := H.nf 12 rfl
 refine nl (wr (tr ?_))
 cases hm
 refine x_resC2 F rfl rfl (⟨_, rfl, agg37.run_load (H.blk 7 rfl).row (H.rcLen 1 rfl)⟩) ?_
 exact ⟨_, rfl, p35, c35, cs36, rfl, (H.pm 12 [0, 1] rfl:)⟩
 replace hm := ifF (nT hg33) hm
 refine sk (ct (sr ?_))
 replace H := H.owNil rByte 5
 replace H := H.owNil rStr 9
 refine s_val wkP F rfl rfl rfl rfl (y_build F rfl rfl (cs := [.int .i64 (0), .int .i64 (0), .slice none (([] : List UInt8)).length 0, .slice none (([] : List (List UInt8))).length 0]) (by kernel_rfl)) ?_; clear F; intro a F
 replace H := H.owNil rByte 5
 replace H := H.owNil rStr 9
 refine s_allocA wkP F rfl rfl rfl agz37 rfl H ?_; clear F H; intro b37 w a H F
 refine s_storeA wkP F rfl rfl agg37 rfl rfl rfl H 0 rfl (by simp only [List.length_append, List.length_cons, List.length_nil, icells_length, bcells_length]) (by simp only [List.length_append, List.length_cons, List.length_nil, icells_length, bcells_length]) (by intro v hv; simp only [List.mem_append, List.mem_cons, List.not_mem_nil, or_false] at hv; first | (rcases hv with h | h <;> first | (subst h; rfl) | exact bcells_flat _ _ h | exact icells_flat _ _ _ h | (rcases h with h | h <;> first | (subst h; rfl) | exact bcells_flat _ _ h | exact icells_flat _ _ _ h | (rcases h with h | h <;> first | (subst h; rfl) | exact bcells_flat _ _ h | (rcases h with h | h <;> first | (subst h; rfl) | (rcases h with h | h <;> (subst h; rfl)))))) | (subst hv; rfl)) ?_; clear H; intro w H
 replace H := H.nf 15 rfl
 refine nl (sr (bk [2, 6002, 0] F H rfl ⟨fld50_2, rfl, plain23, trivial⟩ ?_)); clear F; intro a F
 refine nl (sq (sr (bk [0, 13000] F H rfl ⟨fld25_0, rfl, plain3, trivial⟩ ?_))); clear F; intro a F
 refine nl ?_
 obtain ⟨o4475, eo4475, hm4475⟩ := ob hm; clear hm; revert eo4475; intro hm
 refine x_mid (fun aa ww => ∃ r4475, o4475 = Sum.inl r4475 ∧ ∃ (p4476 : Option Addr) (c4476 : Nat) (p4477 : Option Addr) (c4477 : Nat), Fr ⟨196, []⟩ aa [(0, .slice p1 (list).length c1), (5, .pointer (some ⟨b6, 0, none⟩)), (6, .int .i64 (x9.1)), (8, .pointer (some ⟨b17, 0, none⟩)), (9, .pointer (some ⟨b37, 0, none⟩)), (10, .slice p4477 (r4475.2).length c4477)] ∧ St w0 ww (HP.blk b37 ([.int .i64 (0), .int .i64 (r4475.1.1), .slice p4476 (r4475.1.2).length c4476, .slice none (([] : List (List UInt8))).length 0]) 37 :: HP.ow rStr 9 none 0 ([] : List (List UInt8)) :: HP.ow rByte 5 none 0 ([] : List UInt8) :: HP.ow rStr 9 none 0 ([] : List (List UInt8)) :: HP.sl rByte p18 c19 x14.2.2 :: HP.blk b17 ([.string (txb (x14.1)), .bool (x14.2.1), .slice p18 (x14.2.2).length c19]) 50 :: HP.ow rByte 5 none 0 ([] : List UInt8) :: HP.row b15 (o15 + (x9.1 : Int).toNat * 3) ([.string (txb (x14.1)), .bool (x14.2.1), .slice p18 (x14.2.2).length c19]) :: HP.sl rByte p7 c8 oq.2.2.2.2.2 :: HP.blk b6 ([.int .i64 (0), .int .i64 (0), .slice none (([] : List UInt8)).length 0, .slice none (([] : List (List UInt8))).length 0]) 37 :: HP.ow rStr 9 none 0 ([] : List (List UInt8)) :: HP.ow rByte 5 none 0 ([] : List UInt8) :: HP.blk b5 ([.int .i64 (oq.1), .string (txb (oq.2.1)), .string (txb (oq.2.2.1)), .int .i64 (oq.2.2.2.1), .int .i64 (oq.2.2.2.2.1), .slice p7 (oq.2.2.2.2.2).length c8]) 25 :: HP.sl R_triremeref11_Node p1 c1 list :: HP.ow rByte 5 p4476 c4476 r4475.1.2 :: HP.sl rByte p4477 c4477 r4475.2 :: l)) ?_ ?_
 refine bl (sr (bk [0, 0] F H rfl trivial ?_)); clear F; intro a F
 refine nl ?_
 obtain ⟨o6695, eo6695, hm6695⟩ := ob hm; clear hm; revert eo6695; intro hm
 refine x_mid (fun aa ww => ∃ r6695, o6695 = Sum.inl r6695 ∧ ∃ (p6696 : Option Addr) (c6696 : Nat) (p6697 : Option Addr) (c6697 : Nat), Fr ⟨196, []⟩ aa [(0, .slice p1 (list).length c1), (5, .pointer (some ⟨b6, 0, none⟩)), (6, .int .i64 (x9.1)), (8, .pointer (some ⟨b17, 0, none⟩)), (9, .pointer (some ⟨b37, 0, none⟩)), (10, .slice p6697 (r6695.2).length c6697)] ∧ St w0 ww (HP.blk b37 ([.int .i64 (0), .int .i64 (r6695.1.1), .slice p6696 (r6695.1.2).length c6696, .slice none (([] : List (List UInt8))).length 0]) 37 :: HP.ow rStr 9 none 0 ([] : List (List UInt8)) :: HP.ow rByte 5 none 0 ([] : List UInt8) :: HP.ow rStr 9 none 0 ([] : List (List UInt8)) :: HP.sl rByte p18 c19 x14.2.2 :: HP.blk b17 ([.string (txb (x14.1)), .bool (x14.2.1), .slice p18 (x14.2.2).length c19]) 50 :: HP.ow rByte 5 none 0 ([] : List UInt8) :: HP.row b15 (o15 + (x9.1 : Int).toNat * 3) ([.string (txb (x14.1)), .bool (x14.2.1), .slice p18 (x14.2.2).length c19]) :: HP.sl rByte p7 c8 oq.2.2.2.2.2 :: HP.blk b6 ([.int .i64 (0), .int .i64 (0), .slice none (([] : List UInt8)).length 0, .slice none (([] : List (List UInt8))).length 0]) 37 :: HP.ow rStr 9 none 0 ([] : List (List UInt8)) :: HP.ow rByte 5 none 0 ([] : List UInt8) :: HP.blk b5 ([.int .i64 (oq.1), .string (txb (oq.2.1)), .string (txb (oq.2.2.1)), .int .i64 (oq.2.2.2.1), .int .i64 (oq.2.2.2.2.1), .slice p7 (oq.2.2.2.2.2).length c8]) 25 :: HP.sl R_triremeref11_Node p1 c1 list :: HP.ow rByte 5 p6696 c6696 r6695.1.2 :: HP.sl rByte p6697 c6697 r6695.2 :: l)) ?_ ?_
 refine cP F rfl (fun hg6698 => ?_) (fun hg6698 => ?_)
 replace hm := ifT hg6698 hm
 refine sr (bk [2, 6002, 0, 1] F H rfl ⟨fld50_2, rfl, plain23, ⟨_, Tryz.underlying23⟩, fld37_1, trivial⟩ ?_); clear F; intro a F
 refine s_st1 wkP F rfl rfl zero3 rfl rfl rfl rfl rfl H 0 rfl rfl ?_; clear H; intro w H
 replace H := H.nf 15 rfl
 refine nl (sr (bk [0] F H rfl trivial ?_)); clear F; intro a F
 refine nl ?_
 obtain ⟨r6850, er6850, hm6850⟩ := ob hm; clear hm; revert er6850; intro hm
 refine x_mid (fun aa ww => ∃ (p6851 : Option Addr) (c6851 : Nat), Fr ⟨196, []⟩ aa [(0, .slice p1 (list).length c1), (5, .pointer (some ⟨b6, 0, none⟩)), (6, .int .i64 (x9.1)), (8, .pointer (some ⟨b17, 0, none⟩)), (9, .pointer (some ⟨b37, 0, none⟩)), (10, .slice p18 (x14.2.2).length c19)] ∧ St w0 ww (HP.blk b37 ([.int .i64 (0), .int .i64 (((x14.2.2).length : Int)), .slice p6851 (r6850).length c6851, .slice none (([] : List (List UInt8))).length 0]) 37 :: HP.ow rStr 9 none 0 ([] : List (List UInt8)) :: HP.ow rByte 5 none 0 ([] : List UInt8) :: HP.ow rStr 9 none 0 ([] : List (List UInt8)) :: HP.sl rByte p18 c19 x14.2.2 :: HP.blk b17 ([.string (txb (x14.1)), .bool (x14.2.1), .slice p18 (x14.2.2).length c19]) 50 :: HP.ow rByte 5 none 0 ([] : List UInt8) :: HP.row b15 (o15 + (x9.1 : Int).toNat * 3) ([.string (txb (x14.1)), .bool (x14.2.1), .slice p18 (x14.2.2).length c19]) :: HP.sl rByte p7 c8 oq.2.2.2.2.2 :: HP.blk b6 ([.int .i64 (0), .int .i64 (0), .slice none (([] : List UInt8)).length 0, .slice none (([] : List (List UInt8))).length 0]) 37 :: HP.ow rStr 9 none 0 ([] : List (List UInt8)) :: HP.ow rByte 5 none 0 ([] : List UInt8) :: HP.blk b5 ([.int .i64 (oq.1), .string (txb (oq.2.1)), .string (txb (oq.2.2.1)), .int .i64 (oq.2.2.2.1), .int .i64 (oq.2.2.2.2.1), .slice p7 (oq.2.2.2.2.2).length c8]) 25 :: HP.sl R_triremeref11_Node p1 c1 list :: HP.ow rByte 5 p6851 c6851 r6850 :: l)) ?_ ?_
 refine bl ?_
 refine x_loopO _ (fun (s6952 : (List UInt8) × Int) aa ww => ∃ (p6953 : Option Addr) (c6953 : Nat), Fr ⟨196, []⟩ aa [(0, .slice p1 (list).length c1), (3, .pointer (some ⟨b5, 0, none⟩)), (5, .pointer (some ⟨b6, 0, none⟩)), (6, .int .i64 (x9.1)), (8, .pointer (some ⟨b17, 0, none⟩)), (9, .pointer (some ⟨b37, 0, none⟩)), (10, .slice p18 (x14.2.2).length c19), (11, .int .i64 (s6952.2))] ∧ St w0 ww (HP.blk b37 ([.int .i64 (0), .int .i64 (((x14.2.2).length : Int)), .slice p6953 (s6952.1).length c6953, .slice none (([] : List (List UInt8))).length 0]) 37 :: HP.ow rStr 9 none 0 ([] : List (List UInt8)) :: HP.ow rByte 5 none 0 ([] : List UInt8) :: HP.ow rStr 9 none 0 ([] : List (List UInt8)) :: HP.sl rByte p18 c19 x14.2.2 :: HP.blk b17 ([.string (txb (x14.1)), .bool (x14.2.1), .slice p18 (x14.2.2).length c19]) 50 :: HP.ow rByte 5 none 0 ([] : List UInt8) :: HP.row b15 (o15 + (x9.1 : Int).toNat * 3) ([.string (txb (x14.1)), .bool (x14.2.1), .slice p18 (x14.2.2).length c19]) :: HP.sl rByte p7 c8 oq.2.2.2.2.2 :: HP.blk b6 ([.int .i64 (0), .int .i64 (0), .slice none (([] : List UInt8)).length 0, .slice none (([] : List (List UInt8))).length 0]) 37 :: HP.ow rStr 9 none 0 ([] : List (List UInt8)) :: HP.ow rByte 5 none 0 ([] : List UInt8) :: HP.blk b5 ([.int .i64 (oq.1), .string (txb (oq.2.1)), .string (txb (oq.2.2.1)), .int .i64 (oq.2.2.2.1), .int .i64 (oq.2.2.2.2.1), .slice p7 (oq.2.2.2.2.2).length c8]) 25 :: HP.sl R_triremeref11_Node p1 c1 list :: HP.ow rByte 5 p6953 c6953 s6952.1 :: l)) hm ⟨none, 0, F.sl rfl, (H.pm 15 [0, 1, 2, 3, 5, 6, 7, 8, 9, 10, 11, 12, 13, 14, 4] rfl:)⟩ ?_
 clear F H hm
 rintro s6952 a w o ⟨p6953, c6953, F, H⟩ hm
 refine sq (sr (bk [0, 2, 5002, 0, 0] F H rfl ⟨fld50_2, rfl, plain23, ⟨_, Tryz.underlying23⟩, trivial⟩ ?_)); clear F; intro a F
 refine nl (cP F rfl (fun hg6954 => ?_) (fun hg6954 => ?_))
 replace hm := ifT hg6954 hm
 refine sk (ct (sq ?_))
 obtain ⟨r6978, er6978, hm6978⟩ := ob hm; clear hm; revert er6978; intro hm
 refine x_mid (fun aa ww => ∃ (p6979 : Option Addr) (c6979 : Nat), Fr ⟨196, []⟩ aa [(0, .slice p1 (list).length c1), (3, .pointer (some ⟨b5, 0, none⟩)), (5, .pointer (some ⟨b6, 0, none⟩)), (6, .int .i64 (x9.1)), (8, .pointer (some ⟨b17, 0, none⟩)), (9, .pointer (some ⟨b37, 0, none⟩)), (10, .slice p18 (x14.2.2).length c19), (11, .int .i64 (s6952.2))] ∧ St w0 ww (HP.blk b37 ([.int .i64 (0), .int .i64 (((x14.2.2).length : Int)), .slice p6979 (r6978).length c6979, .slice none (([] : List (List UInt8))).length 0]) 37 :: HP.ow rStr 9 none 0 ([] : List (List UInt8)) :: HP.ow rByte 5 none 0 ([] : List UInt8) :: HP.ow rStr 9 none 0 ([] : List (List UInt8)) :: HP.sl rByte p18 c19 x14.2.2 :: HP.blk b17 ([.string (txb (x14.1)), .bool (x14.2.1), .slice p18 (x14.2.2).length c19]) 50 :: HP.ow rByte 5 none 0 ([] : List UInt8) :: HP.row b15 (o15 + (x9.1 : Int).toNat * 3) ([.string (txb (x14.1)), .bool (x14.2.1), .slice p18 (x14.2.2).length c19]) :: HP.sl rByte p7 c8 oq.2.2.2.2.2 :: HP.blk b6 ([.int .i64 (0), .int .i64 (0), .slice none (([] : List UInt8)).length 0, .slice none (([] : List (List UInt8))).length 0]) 37 :: HP.ow rStr 9 none 0 ([] : List (List UInt8)) :: HP.ow rByte 5 none 0 ([] : List UInt8) :: HP.blk b5 ([.int .i64 (oq.1), .string (txb (oq.2.1)), .string (txb (oq.2.2.1)), .int .i64 (oq.2.2.2.1), .int .i64 (oq.2.2.2.2.1), .slice p7 (oq.2.2.2.2.2).length c8]) 25 :: HP.sl R_triremeref11_Node p1 c1 list :: HP.ow rByte 5 p6979 c6979 r6978 :: l)) ?_ ?_
 refine bl (sq ?_)
 obtain ⟨r6982, er6982, hm6982⟩ := ob hm; clear hm; revert er6982; intro hm
 refine x_mid (fun aa ww => Fr ⟨196, []⟩ aa [(0, .slice p1 (list).length c1), (3, .pointer (some ⟨b5, 0, none⟩)), (5, .pointer (some ⟨b6, 0, none⟩)), (6, .int .i64 (x9.1)), (8, .pointer (some ⟨b17, 0, none⟩)), (9, .pointer (some ⟨b37, 0, none⟩)), (10, .slice p18 (x14.2.2).length c19), (11, .int .i64 (s6952.2)), (159, .bool (r6982))] ∧ St w0 ww (HP.blk b37 ([.int .i64 (0), .int .i64 (((x14.2.2).length : Int)), .slice p6953 (s6952.1).length c6953, .slice none (([] : List (List UInt8))).length 0]) 37 :: HP.ow rStr 9 none 0 ([] : List (List UInt8)) :: HP.ow rByte 5 none 0 ([] : List UInt8) :: HP.ow rStr 9 none 0 ([] : List (List UInt8)) :: HP.sl rByte p18 c19 x14.2.2 :: HP.blk b17 ([.string (txb (x14.1)), .bool (x14.2.1), .slice p18 (x14.2.2).length c19]) 50 :: HP.ow rByte 5 none 0 ([] : List UInt8) :: HP.row b15 (o15 + (x9.1 : Int).toNat * 3) ([.string (txb (x14.1)), .bool (x14.2.1), .slice p18 (x14.2.2).length c19]) :: HP.sl rByte p7 c8 oq.2.2.2.2.2 :: HP.blk b6 ([.int .i64 (0), .int .i64 (0), .slice none (([] : List UInt8)).length 0, .slice none (([] : List (List UInt8))).length 0]) 37 :: HP.ow rStr 9 none 0 ([] : List (List UInt8)) :: HP.ow rByte 5 none 0 ([] : List UInt8) :: HP.blk b5 ([.int .i64 (oq.1), .string (txb (oq.2.1)), .string (txb (oq.2.2.1)), .int .i64 (oq.2.2.2.1), .int .i64 (oq.2.2.2.2.1), .slice p7 (oq.2.2.2.2.2).length c8]) 25 :: HP.sl R_triremeref11_Node p1 c1 list :: HP.ow rByte 5 p6953 c6953 s6952.1 :: l)) ?_ ?_
 refine rl (bk [0, 3, 12003, 0, 0] F H rfl ⟨fld25_3, rfl, plain3, trivial⟩ ?_); clear F; intro a F
 by_cases hg6983 : oq.2.2.2.1 ≤ s6952.2
 replace hm := ifT hg6983 hm
 replace F := F.bT 144 hg6983 rfl
 refine bk [0, 3, 12003, 0, 4, 12004, 0, 0, 0] F H rfl ⟨fld25_3, rfl, plain3, fld25_4, rfl, plain3, trivial⟩ ?_; clear F; intro a F
 by_cases hg6984 : (IntKind.i64.wrap (s6952.2 - oq.2.2.2.1)) < oq.2.2.2.2.1
 replace hm := ifT hg6984 hm
 replace F := F.bT 153 hg6984 rfl
 refine bk [0, 3, 12003, 0, 0, 0] F H rfl ⟨fld25_3, rfl, plain3, trivial⟩ ?_; clear F; intro a F
 refine lz ?_
 cases hm
 refine ct ?_
 exact ⟨F.sl rfl, H⟩
 replace hm := ifF hg6984 hm
 replace F := F.bF 153 hg6984 rfl
 refine bk (List.replicate 6 0) F H rfl trivial ?_; clear F; intro a F
 refine lz ?_
 cases hm
 refine ct ?_
 exact ⟨F.sl rfl, H⟩
 replace hm := ifF hg6983 hm
 replace F := F.bF 144 hg6983 rfl
 refine bk (List.replicate 15 0) F H rfl trivial ?_; clear F; intro a F
 refine lz ?_
 cases hm
 refine ct ?_
 exact ⟨F.sl rfl, H⟩
 clear F H hm
 rintro a w ⟨F, H⟩; have hm := hm6982; clear hm6982
 refine ct ?_
 obtain ⟨r6993, er6993, hm6993⟩ := ob hm; clear hm; revert er6993; intro hm
 refine x_mid (fun aa ww => ∃ (p6994 : Option Addr) (c6994 : Nat), Fr ⟨196, []⟩ aa [(0, .slice p1 (list).length c1), (3, .pointer (some ⟨b5, 0, none⟩)), (5, .pointer (some ⟨b6, 0, none⟩)), (6, .int .i64 (x9.1)), (8, .pointer (some ⟨b17, 0, none⟩)), (9, .pointer (some ⟨b37, 0, none⟩)), (10, .slice p18 (x14.2.2).length c19), (11, .int .i64 (s6952.2))] ∧ St w0 ww (HP.blk b37 ([.int .i64 (0), .int .i64 (((x14.2.2).length : Int)), .slice p6994 (r6993).length c6994, .slice none (([] : List (List UInt8))).length 0]) 37 :: HP.ow rStr 9 none 0 ([] : List (List UInt8)) :: HP.ow rByte 5 none 0 ([] : List UInt8) :: HP.ow rStr 9 none 0 ([] : List (List UInt8)) :: HP.sl rByte p18 c19 x14.2.2 :: HP.blk b17 ([.string (txb (x14.1)), .bool (x14.2.1), .slice p18 (x14.2.2).length c19]) 50 :: HP.ow rByte 5 none 0 ([] : List UInt8) :: HP.row b15 (o15 + (x9.1 : Int).toNat * 3) ([.string (txb (x14.1)), .bool (x14.2.1), .slice p18 (x14.2.2).length c19]) :: HP.sl rByte p7 c8 oq.2.2.2.2.2 :: HP.blk b6 ([.int .i64 (0), .int .i64 (0), .slice none (([] : List UInt8)).length 0, .slice none (([] : List (List UInt8))).length 0]) 37 :: HP.ow rStr 9 none 0 ([] : List (List UInt8)) :: HP.ow rByte 5 none 0 ([] : List UInt8) :: HP.blk b5 ([.int .i64 (oq.1), .string (txb (oq.2.1)), .string (txb (oq.2.2.1)), .int .i64 (oq.2.2.2.1), .int .i64 (oq.2.2.2.2.1), .slice p7 (oq.2.2.2.2.2).length c8]) 25 :: HP.sl R_triremeref11_Node p1 c1 list :: HP.ow rByte 5 p6994 c6994 r6993 :: l)) ?_ ?_
 refine cB F rfl (fun hg6995 => ?_) (fun hg6995 => ?_)
 replace hm := ifT hg6995 hm
 obtain ⟨x6996, ex6996, hm⟩ := ob hm
 obtain ⟨b6997, o6997, hp6997⟩ := H.slP 4 rfl (idxO_some ex6996).2
 obtain ⟨cs6998, hcl6998, H⟩ := H.slEl 4 rfl hp6997 (idxO_some ex6996).2
 obtain rfl := H.rcB 1 rfl
 replace H := H.dp 1 rfl
 clear hcl6998
 refine mix_region [7, 8, 10] [10] (.step 0 0 (.step 0 1 (.step 0 2 (.step 1 3 (.step 0 4 (.step 0 5 (.step 1 6 (.step 2 7 (.step 2 8 (.step 0 9 (.step 3 10 .done))))))))))) (fun u => ∃ ls, St w0 u (HP.blk b37 ([.int .i64 (0), .int .i64 (((x14.2.2).length : Int)), .slice p6953 (s6952.1).length c6953, .slice none (([] : List (List UInt8))).length 0]) 37 :: ls)) (by kernel_rfl) (by kernel_rfl) ⟨_, (H.drew.pm 16 [1, 0, 2, 3, 4, 5, 6, 7, 8, 9, 10, 11, 12, 13, 14, 15] rfl:)⟩ ?_
 replace H := H.drew
 generalize w.drew = w at H ⊢
 refine mbk [2] F H rfl ⟨fld37_2, trivial⟩ ?_; clear F; intro a F
 refine m_pure F rfl rfl rfl rfl (fun u hu => y_load1 F plain23 rfl rfl (row_at (v := .slice p6953 (s6952.1).length c6953) ((hu.choose_spec.blk 0 rfl).row) rfl)) ?_; clear F; intro a F
 refine mbk [2, 6002, 0] F H rfl ⟨fld50_2, rfl, plain23, trivial⟩ ?_; clear F; intro a F
 refine m_pure F rfl rfl rfl rfl (fun u hu => y_idxS F elem23 rfl rfl rfl hp6997 ex6996) ?_; clear F; intro a F
 refine mbk [0] F H rfl ⟨rfl, plain5, trivial⟩ ?_; clear F; intro a F
 refine m_heavy rfl rfl ?_
 obtain ⟨x7000, ex7000, hm⟩ := ob hm
 refine s_buildC wkP F rfl rfl rfl elem23 zero5 rfl rfl rfl rfl (by simp [Value.cells]) (by decide) H ?_; clear F H; intro b6999 w a H F
 replace H := H.blkOw1 (R := rByte) (x := x7000) (fun gg => (congrArg (fun z => [Value.int .u8 z]) (u8O_some ex7000).symm))
 refine lz ?_; refine ct ⟨⟨_, (H.pm 17 [2, 0, 1, 3, 4, 5, 6, 7, 8, 9, 10, 11, 12, 13, 14, 15, 16] rfl:)⟩, ?_⟩
 refine m_heavy rfl rfl ?_
 replace H := H.frz 0 rfl
 obtain ⟨x7002, ex7002, hm⟩ := ob hm
 refine s_app wkP F rfl rfl rfl rfl rfl rfl elem23 rfl ex7002 H 16 0 rfl rfl ?_; clear F H; intro p7001 c7001 w a H F
 refine lz ?_; refine ct ⟨⟨_, (H.pm 17 [2, 0, 1, 3, 4, 5, 6, 7, 8, 9, 10, 11, 12, 13, 14, 15, 16] rfl:)⟩, ?_⟩
 refine mbk [2] F H rfl ⟨fld37_2, trivial⟩ ?_; clear F; intro a F
 refine m_last rfl rfl ?_
 refine s_st1 wkP F rfl rfl zero23 rfl rfl rfl rfl rfl H 2 rfl rfl ?_; clear H; intro w H
 refine lz ?_; refine ct ?_
 refine m_nil ?_
 cases hm
 refine ct ?_
 exact ⟨p7001, c7001, F.sl rfl, (H.pm 17 [2, 3, 4, 5, 6, 7, 8, 9, 10, 11, 12, 13, 14, 15, 16] rfl:)⟩
 replace hm := ifF (nT hg6995) hm
 refine sk ?_
 cases hm
 refine ct ?_
 exact ⟨p6953, c6953, F.sl rfl, H⟩
 clear F H hm
 rintro a w ⟨p6994, c6994, F, H⟩; have hm := hm6993; clear hm6993
 refine bn ?_
 cases hm
 refine ct ?_
 exact ⟨p6994, c6994, F.sl rfl, H⟩
 clear F H hm
 rintro a w ⟨p6979, c6979, F, H⟩; have hm := hm6978; clear hm6978
 refine ct (rl (bk [0, 0, 0] F H rfl trivial ?_)); clear F; intro a F
 refine lz (ct ?_); cases hm
 exact ⟨_, rfl, ⟨p6979, c6979, F.sl rfl, H⟩⟩
 replace hm := ifF hg6954 hm
 refine ex (cx (cx ?_)); cases hm; refine ⟨_, rfl, ?_⟩; rintro rfl
 refine ch (ct ?_)
 exact ⟨p6953, c6953, F.sl rfl, H⟩
 clear F H hm
 rintro a w ⟨p6851, c6851, F, H⟩; have hm := hm6850; clear hm6850
 cases hm
 refine ct ?_
 exact ⟨_, rfl, p6851, c6851, p18, c19, F.sl rfl, (H.pm 15 [0, 1, 2, 3, 4, 5, 6, 7, 8, 9, 10, 11, 12, 13, 14, 4] rfl:)⟩
 replace hm := ifF hg6698 hm
 refine sr (bk [0, 0] F H rfl trivial ?_); clear F; intro a F
 refine nl ?_
 obtain ⟨o7958, eo7958, hm7958⟩ := ob hm; clear hm; revert eo7958; intro hm
 refine x_mid (fun aa ww => ∃ r7958, o7958 = Sum.inl r7958 ∧ ∃ (p7959 : Option Addr) (c7959 : Nat), Fr ⟨196, []⟩ aa [(0, .slice p1 (list).length c1), (5, .pointer (some ⟨b6, 0, none⟩)), (6, .int .i64 (x9.1)), (8, .pointer (some ⟨b17, 0, none⟩)), (9, .pointer (some ⟨b37, 0, none⟩)), (10, .slice p7959 (r7958.2).length c7959)] ∧ St w0 ww (HP.blk b37 ([.int .i64 (0), .int .i64 (r7958.1), .slice none (([] : List UInt8)).length 0, .slice none (([] : List (List UInt8))).length 0]) 37 :: HP.ow rStr 9 none 0 ([] : List (List UInt8)) :: HP.ow rByte 5 none 0 ([] : List UInt8) :: HP.ow rStr 9 none 0 ([] : List (List UInt8)) :: HP.ow rByte 5 none 0 ([] : List UInt8) :: HP.sl rByte p18 c19 x14.2.2 :: HP.blk b17 ([.string (txb (x14.1)), .bool (x14.2.1), .slice p18 (x14.2.2).length c19]) 50 :: HP.ow rByte 5 none 0 ([] : List UInt8) :: HP.row b15 (o15 + (x9.1 : Int).toNat * 3) ([.string (txb (x14.1)), .bool (x14.2.1), .slice p18 (x14.2.2).length c19]) :: HP.sl rByte p7 c8 oq.2.2.2.2.2 :: HP.blk b6 ([.int .i64 (0), .int .i64 (0), .slice none (([] : List UInt8)).length 0, .slice none (([] : List (List UInt8))).length 0]) 37 :: HP.ow rStr 9 none 0 ([] : List (List UInt8)) :: HP.ow rByte 5 none 0 ([] : List UInt8) :: HP.blk b5 ([.int .i64 (oq.1), .string (txb (oq.2.1)), .string (txb (oq.2.2.1)), .int .i64 (oq.2.2.2.1), .int .i64 (oq.2.2.2.2.1), .slice p7 (oq.2.2.2.2.2).length c8]) 25 :: HP.sl R_triremeref11_Node p1 c1 list :: HP.sl rByte p7959 c7959 r7958.2 :: l)) ?_ ?_
 refine cP F rfl (fun hg7960 => ?_) (fun hg7960 => ?_)
 replace hm := ifT hg7960 hm
 refine sq (sr (bk [4, 13004, 0] F H rfl ⟨fld25_4, rfl, plain3, trivial⟩ ?_)); clear F; intro a F
 refine nl (cP F rfl (fun hg7961 => ?_) (fun hg7961 => ?_))
 replace hm := ifT hg7961 hm
 refine sr (bk [0] F H rfl trivial ?_); clear F; intro a F
 obtain ⟨x7962, ex7962, hm⟩ := ob hm
 refine sc wkP F rfl ent39 (w_m_triremeref11_no ex7962 (H.pm 15 [14, 0, 1, 2, 3, 4, 5, 6, 7, 8, 9, 10, 11, 12, 13, 14] rfl:):) ?_; clear F H; rintro _ w a ⟨p7963, c7963, cs7964, rfl, H⟩ F
 refine bk [0, 0, 0] F H rfl trivial ?_; clear F; intro a F
 refine s_storeA wkP F rfl rfl agg37 rfl rfl rfl H 12 rfl (H.rcLen 1 rfl) (by simp only [List.length_append, List.length_cons, List.length_nil, icells_length, bcells_length]) (H.rcFlat 1 rfl) ?_; clear H; intro w H
 replace H := H.nf 17 rfl
 refine nl (wr (tr (tr ?_)))
 cases hm
 replace hm := elimR hm7958
 refine tr ?_
 cases hm
 replace hm := elimR hm6695
 refine br (tr ?_)
 cases hm
 replace hm := elimR hm4475
 refine tr ?_
 cases hm
 refine x_resC2 F rfl rfl (⟨_, rfl, agg37.run_load (H.blk 12 rfl).row (H.rcLen 1 rfl)⟩) ?_
 exact ⟨_, rfl, p7963, c7963, cs7964, rfl, (H.pm 17 [0, 1] rfl:)⟩
 replace hm := ifF hg7961 hm
 refine sk (ct (rl (bk [2, 6002, 4, 13004] F H rfl ⟨fld50_2, rfl, plain23, fld25_4, rfl, plain3, trivial⟩ ?_))); clear F; intro a F
 obtain ⟨x7965, ex7965, hm⟩ := ob hm
 refine sc wkP F rfl ent68 (w_m_triremeref11_resized ex7965 (H.pm 15 [5, 0, 1, 2, 3, 4, 5, 6, 7, 8, 9, 10, 11, 12, 13, 14] rfl:):) ?_; clear F H; rintro _ w a ⟨p7966, c7966, rfl, H⟩ F
 refine bk [0] F H rfl trivial ?_; clear F; intro a F
 replace H := H.nf 16 rfl
 refine lz ?_
 cases hm
 refine ct ?_
 exact ⟨_, rfl, p7966, c7966, F.sl rfl, (H.pm 16 [1, 2, 3, 4, 5, 6, 7, 8, 9, 10, 11, 12, 13, 14, 15, 0] rfl:)⟩
 replace hm := ifF hg7960 hm
 refine sr (bk [5, 13005, 0, 1] F H rfl ⟨fld25_5, rfl, plain23, ⟨_, Tryz.underlying23⟩, fld37_1, trivial⟩ ?_); clear F; intro a F
 refine s_st1 wkP F rfl rfl zero3 rfl rfl rfl rfl rfl H 0 rfl rfl ?_; clear H; intro w H
 replace H := H.nf 15 rfl
 refine nl (sq (sr (bk [3, 13003, 0, 0] F H rfl ⟨fld25_3, rfl, plain3, trivial⟩ ?_))); clear F; intro a F
 by_cases hg7967 : 192 < oq.2.2.2.1
 replace hm := ifT hg7967 hm
 replace F := F.bT 72 hg7967 rfl
 refine bk (List.replicate 7 0) F H rfl trivial ?_; clear F; intro a F
 refine nl (cT F rfl ?_)
 refine sr (bk [0] F H rfl trivial ?_); clear F; intro a F
 obtain ⟨x7968, ex7968, hm⟩ := ob hm
 refine sc wkP F rfl ent39 (w_m_triremeref11_no ex7968 (H.pm 15 [14, 0, 1, 2, 3, 4, 5, 6, 7, 8, 9, 10, 11, 12, 13, 14] rfl:):) ?_; clear F H; rintro _ w a ⟨p7969, c7969, cs7970, rfl, H⟩ F
 refine bk [0, 0, 0] F H rfl trivial ?_; clear F; intro a F
 refine s_storeA wkP F rfl rfl agg37 rfl rfl rfl H 12 rfl (H.rcLen 1 rfl) (by simp only [List.length_append, List.length_cons, List.length_nil, icells_length, bcells_length]) (H.rcFlat 1 rfl) ?_; clear H; intro w H
 replace H := H.nf 17 rfl
 refine nl (wr (tr (tr ?_)))
 cases hm
 replace hm := elimR hm7958
 refine tr ?_
 cases hm
 replace hm := elimR hm6695
 refine br (tr ?_)
 cases hm
 replace hm := elimR hm4475
 refine tr ?_
 cases hm
 refine x_resC2 F rfl rfl (⟨_, rfl, agg37.run_load (H.blk 12 rfl).row (H.rcLen 1 rfl)⟩) ?_
 exact ⟨_, rfl, p7969, c7969, cs7970, rfl, (H.pm 17 [0, 1] rfl:)⟩
 replace hm := ifF hg7967 hm
 replace F := F.bF 72 hg7967 rfl
 refine bk [3, 13003, 1, 1, 0, 0, 0] F H rfl ⟨fld25_3, rfl, plain3, fld37_1, rfl, plain3, trivial⟩ ?_; clear F; intro a F
 refine nl (cP F rfl (fun hg7971 => ?_) (fun hg7971 => ?_))
 replace hm := ifT hg7971 hm
 refine sr (bk [0] F H rfl trivial ?_); clear F; intro a F
 obtain ⟨x7972, ex7972, hm⟩ := ob hm
 refine sc wkP F rfl ent39 (w_m_triremeref11_no ex7972 (H.pm 15 [14, 0, 1, 2, 3, 4, 5, 6, 7, 8, 9, 10, 11, 12, 13, 14] rfl:):) ?_; clear F H; rintro _ w a ⟨p7973, c7973, cs7974, rfl, H⟩ F
 refine bk [0, 0, 0] F H rfl trivial ?_; clear F; intro a F
 refine s_storeA wkP F rfl rfl agg37 rfl rfl rfl H 12 rfl (H.rcLen 1 rfl) (by simp only [List.length_append, List.length_cons, List.length_nil, icells_length, bcells_length]) (H.rcFlat 1 rfl) ?_; clear H; intro w H
 replace H := H.nf 17 rfl
 refine nl (wr (tr (tr ?_)))
 cases hm
 replace hm := elimR hm7958
 refine tr ?_
 cases hm
 replace hm := elimR hm6695
 refine br (tr ?_)
 cases hm
 replace hm := elimR hm4475
 refine tr ?_
 cases hm
 refine x_resC2 F rfl rfl (⟨_, rfl, agg37.run_load (H.blk 12 rfl).row (H.rcLen 1 rfl)⟩) ?_
 exact ⟨_, rfl, p7973, c7973, cs7974, rfl, (H.pm 17 [0, 1] rfl:)⟩
 replace hm := ifF hg7971 hm
 refine sk (ct (sr (bk [0] F H rfl trivial ?_))); clear F; intro a F
 refine nl ?_
 obtain ⟨r8444, er8444, hm8444⟩ := ob hm; clear hm; revert er8444; intro hm
 refine x_mid (fun aa ww => ∃ (p8445 : Option Addr) (c8445 : Nat), Fr ⟨196, []⟩ aa [(0, .slice p1 (list).length c1), (5, .pointer (some ⟨b6, 0, none⟩)), (6, .int .i64 (x9.1)), (8, .pointer (some ⟨b17, 0, none⟩)), (9, .pointer (some ⟨b37, 0, none⟩)), (10, .slice p8445 (r8444).length c8445)] ∧ St w0 ww (HP.blk b37 ([.int .i64 (0), .int .i64 (((oq.2.2.2.2.2).length : Int)), .slice none (([] : List UInt8)).length 0, .slice none (([] : List (List UInt8))).length 0]) 37 :: HP.ow rStr 9 none 0 ([] : List (List UInt8)) :: HP.ow rByte 5 none 0 ([] : List UInt8) :: HP.ow rStr 9 none 0 ([] : List (List UInt8)) :: HP.ow rByte 5 none 0 ([] : List UInt8) :: HP.sl rByte p18 c19 x14.2.2 :: HP.blk b17 ([.string (txb (x14.1)), .bool (x14.2.1), .slice p18 (x14.2.2).length c19]) 50 :: HP.ow rByte 5 none 0 ([] : List UInt8) :: HP.row b15 (o15 + (x9.1 : Int).toNat * 3) ([.string (txb (x14.1)), .bool (x14.2.1), .slice p18 (x14.2.2).length c19]) :: HP.sl rByte p7 c8 oq.2.2.2.2.2 :: HP.blk b6 ([.int .i64 (0), .int .i64 (0), .slice none (([] : List UInt8)).length 0, .slice none (([] : List (List UInt8))).length 0]) 37 :: HP.ow rStr 9 none 0 ([] : List (List UInt8)) :: HP.ow rByte 5 none 0 ([] : List UInt8) :: HP.blk b5 ([.int .i64 (oq.1), .string (txb (oq.2.1)), .string (txb (oq.2.2.1)), .int .i64 (oq.2.2.2.1), .int .i64 (oq.2.2.2.2.1), .slice p7 (oq.2.2.2.2.2).length c8]) 25 :: HP.sl R_triremeref11_Node p1 c1 list :: HP.sl rByte p8445 c8445 r8444 :: l)) ?_ ?_
 refine bl ?_
 refine x_loopO _ (fun (s8758 : (List UInt8) × Int) aa ww => ∃ (p8759 : Option Addr) (c8759 : Nat), Fr ⟨196, []⟩ aa [(0, .slice p1 (list).length c1), (3, .pointer (some ⟨b5, 0, none⟩)), (5, .pointer (some ⟨b6, 0, none⟩)), (6, .int .i64 (x9.1)), (8, .pointer (some ⟨b17, 0, none⟩)), (9, .pointer (some ⟨b37, 0, none⟩)), (10, .slice p8759 (s8758.1).length c8759), (12, .int .i64 (s8758.2))] ∧ St w0 ww (HP.blk b37 ([.int .i64 (0), .int .i64 (((oq.2.2.2.2.2).length : Int)), .slice none (([] : List UInt8)).length 0, .slice none (([] : List (List UInt8))).length 0]) 37 :: HP.ow rStr 9 none 0 ([] : List (List UInt8)) :: HP.ow rByte 5 none 0 ([] : List UInt8) :: HP.ow rStr 9 none 0 ([] : List (List UInt8)) :: HP.ow rByte 5 none 0 ([] : List UInt8) :: HP.sl rByte p18 c19 x14.2.2 :: HP.blk b17 ([.string (txb (x14.1)), .bool (x14.2.1), .slice p18 (x14.2.2).length c19]) 50 :: HP.ow rByte 5 none 0 ([] : List UInt8) :: HP.row b15 (o15 + (x9.1 : Int).toNat * 3) ([.string (txb (x14.1)), .bool (x14.2.1), .slice p18 (x14.2.2).length c19]) :: HP.sl rByte p7 c8 oq.2.2.2.2.2 :: HP.blk b6 ([.int .i64 (0), .int .i64 (0), .slice none (([] : List UInt8)).length 0, .slice none (([] : List (List UInt8))).length 0]) 37 :: HP.ow rStr 9 none 0 ([] : List (List UInt8)) :: HP.ow rByte 5 none 0 ([] : List UInt8) :: HP.blk b5 ([.int .i64 (oq.1), .string (txb (oq.2.1)), .string (txb (oq.2.2.1)), .int .i64 (oq.2.2.2.1), .int .i64 (oq.2.2.2.2.1), .slice p7 (oq.2.2.2.2.2).length c8]) 25 :: HP.sl R_triremeref11_Node p1 c1 list :: HP.sl rByte p8759 c8759 s8758.1 :: l)) hm ⟨p18, c19, F.sl rfl, (H.pm 15 [0, 1, 2, 3, 4, 5, 6, 7, 8, 9, 10, 11, 12, 13, 14, 5] rfl:)⟩ ?_
 clear F H hm
 rintro s8758 a w o ⟨p8759, c8759, F, H⟩ hm
 refine sq (sr (bk [0, 1, 1, 0] F H rfl ⟨fld37_1, rfl, plain3, trivial⟩ ?_)); clear F; intro a F
 refine nl (cP F rfl (fun hg8760 => ?_) (fun hg8760 => ?_))
 replace hm := ifT hg8760 hm
 refine sk (ct (sq ?_))
 obtain ⟨r8837, er8837, hm8837⟩ := ob hm; clear hm; revert er8837; intro hm
 refine x_mid (fun aa ww => ∃ (p8838 : Option Addr) (c8838 : Nat), Fr ⟨196, []⟩ aa [(0, .slice p1 (list).length c1), (3, .pointer (some ⟨b5, 0, none⟩)), (5, .pointer (some ⟨b6, 0, none⟩)), (6, .int .i64 (x9.1)), (8, .pointer (some ⟨b17, 0, none⟩)), (9, .pointer (some ⟨b37, 0, none⟩)), (10, .slice p8838 (r8837).length c8838), (12, .int .i64 (s8758.2))] ∧ St w0 ww (HP.blk b37 ([.int .i64 (0), .int .i64 (((oq.2.2.2.2.2).length : Int)), .slice none (([] : List UInt8)).length 0, .slice none (([] : List (List UInt8))).length 0]) 37 :: HP.ow rStr 9 none 0 ([] : List (List UInt8)) :: HP.ow rByte 5 none 0 ([] : List UInt8) :: HP.ow rStr 9 none 0 ([] : List (List UInt8)) :: HP.ow rByte 5 none 0 ([] : List UInt8) :: HP.sl rByte p18 c19 x14.2.2 :: HP.blk b17 ([.string (txb (x14.1)), .bool (x14.2.1), .slice p18 (x14.2.2).length c19]) 50 :: HP.ow rByte 5 none 0 ([] : List UInt8) :: HP.row b15 (o15 + (x9.1 : Int).toNat * 3) ([.string (txb (x14.1)), .bool (x14.2.1), .slice p18 (x14.2.2).length c19]) :: HP.sl rByte p7 c8 oq.2.2.2.2.2 :: HP.blk b6 ([.int .i64 (0), .int .i64 (0), .slice none (([] : List UInt8)).length 0, .slice none (([] : List (List UInt8))).length 0]) 37 :: HP.ow rStr 9 none 0 ([] : List (List UInt8)) :: HP.ow rByte 5 none 0 ([] : List UInt8) :: HP.blk b5 ([.int .i64 (oq.1), .string (txb (oq.2.1)), .string (txb (oq.2.2.1)), .int .i64 (oq.2.2.2.1), .int .i64 (oq.2.2.2.2.1), .slice p7 (oq.2.2.2.2.2).length c8]) 25 :: HP.sl R_triremeref11_Node p1 c1 list :: HP.sl rByte p8838 c8838 r8837 :: l)) ?_ ?_
 refine bl (sq (sr (bk [0, 0, 3, 13003, 0, 0, 0] F H rfl ⟨⟨_, Tryz.underlying23⟩, fld25_3, rfl, plain3, trivial⟩ ?_))); clear F; intro a F
 refine nl ?_
 obtain ⟨r8842, er8842, hm8842⟩ := ob hm; clear hm; revert er8842; intro hm
 refine x_mid (fun aa ww => ∃ (p8843 : Option Addr) (c8843 : Nat), Fr ⟨196, []⟩ aa [(0, .slice p1 (list).length c1), (3, .pointer (some ⟨b5, 0, none⟩)), (5, .pointer (some ⟨b6, 0, none⟩)), (6, .int .i64 (x9.1)), (8, .pointer (some ⟨b17, 0, none⟩)), (9, .pointer (some ⟨b37, 0, none⟩)), (10, .slice p8843 (r8842).length c8843), (12, .int .i64 (s8758.2))] ∧ St w0 ww (HP.blk b37 ([.int .i64 (0), .int .i64 (((oq.2.2.2.2.2).length : Int)), .slice none (([] : List UInt8)).length 0, .slice none (([] : List (List UInt8))).length 0]) 37 :: HP.ow rStr 9 none 0 ([] : List (List UInt8)) :: HP.ow rByte 5 none 0 ([] : List UInt8) :: HP.ow rStr 9 none 0 ([] : List (List UInt8)) :: HP.ow rByte 5 none 0 ([] : List UInt8) :: HP.sl rByte p18 c19 x14.2.2 :: HP.blk b17 ([.string (txb (x14.1)), .bool (x14.2.1), .slice p18 (x14.2.2).length c19]) 50 :: HP.ow rByte 5 none 0 ([] : List UInt8) :: HP.row b15 (o15 + (x9.1 : Int).toNat * 3) ([.string (txb (x14.1)), .bool (x14.2.1), .slice p18 (x14.2.2).length c19]) :: HP.sl rByte p7 c8 oq.2.2.2.2.2 :: HP.blk b6 ([.int .i64 (0), .int .i64 (0), .slice none (([] : List UInt8)).length 0, .slice none (([] : List (List UInt8))).length 0]) 37 :: HP.ow rStr 9 none 0 ([] : List (List UInt8)) :: HP.ow rByte 5 none 0 ([] : List UInt8) :: HP.blk b5 ([.int .i64 (oq.1), .string (txb (oq.2.1)), .string (txb (oq.2.2.1)), .int .i64 (oq.2.2.2.1), .int .i64 (oq.2.2.2.2.1), .slice p7 (oq.2.2.2.2.2).length c8]) 25 :: HP.sl R_triremeref11_Node p1 c1 list :: HP.sl rByte p8843 c8843 r8842 :: l)) ?_ ?_
 refine cP F rfl (fun hg8844 => ?_) (fun hg8844 => ?_)
 replace hm := ifT hg8844 hm
 refine rl (bk [0, 3, 13003, 0, 0, 0] F H rfl ⟨fld25_3, rfl, plain3, trivial⟩ ?_); clear F; intro a F
 obtain ⟨x8845, ex8845, hm⟩ := ob hm
 refine sc wkP F rfl ent68 (w_m_triremeref11_resized ex8845 (H.pm 16 [15, 0, 1, 2, 3, 4, 5, 6, 7, 8, 9, 10, 11, 12, 13, 14, 15] rfl:):) ?_; clear F H; rintro _ w a ⟨p8846, c8846, rfl, H⟩ F
 refine bk [0] F H rfl trivial ?_; clear F; intro a F
 replace H := H.nf 17 rfl
 refine lz ?_
 cases hm
 refine ct ?_
 exact ⟨p8846, c8846, F.sl rfl, (H.pm 17 [1, 2, 3, 4, 5, 6, 7, 8, 9, 10, 11, 12, 13, 14, 15, 0] rfl:)⟩
 replace hm := ifF hg8844 hm
 refine sk ?_
 cases hm
 refine ct ?_
 exact ⟨p8759, c8759, F.sl rfl, H⟩
 clear F H hm
 rintro a w ⟨p8843, c8843, F, H⟩; have hm := hm8842; clear hm8842
 refine ct ?_
 obtain ⟨r8880, er8880, hm8880⟩ := ob hm; clear hm; revert er8880; intro hm
 refine x_mid (fun aa ww => ∃ (p8881 : Option Addr) (c8881 : Nat), Fr ⟨196, []⟩ aa [(0, .slice p1 (list).length c1), (3, .pointer (some ⟨b5, 0, none⟩)), (5, .pointer (some ⟨b6, 0, none⟩)), (6, .int .i64 (x9.1)), (8, .pointer (some ⟨b17, 0, none⟩)), (9, .pointer (some ⟨b37, 0, none⟩)), (10, .slice p8881 (r8880).length c8881), (12, .int .i64 (s8758.2))] ∧ St w0 ww (HP.blk b37 ([.int .i64 (0), .int .i64 (((oq.2.2.2.2.2).length : Int)), .slice none (([] : List UInt8)).length 0, .slice none (([] : List (List UInt8))).length 0]) 37 :: HP.ow rStr 9 none 0 ([] : List (List UInt8)) :: HP.ow rByte 5 none 0 ([] : List UInt8) :: HP.ow rStr 9 none 0 ([] : List (List UInt8)) :: HP.ow rByte 5 none 0 ([] : List UInt8) :: HP.sl rByte p18 c19 x14.2.2 :: HP.blk b17 ([.string (txb (x14.1)), .bool (x14.2.1), .slice p18 (x14.2.2).length c19]) 50 :: HP.ow rByte 5 none 0 ([] : List UInt8) :: HP.row b15 (o15 + (x9.1 : Int).toNat * 3) ([.string (txb (x14.1)), .bool (x14.2.1), .slice p18 (x14.2.2).length c19]) :: HP.sl rByte p7 c8 oq.2.2.2.2.2 :: HP.blk b6 ([.int .i64 (0), .int .i64 (0), .slice none (([] : List UInt8)).length 0, .slice none (([] : List (List UInt8))).length 0]) 37 :: HP.ow rStr 9 none 0 ([] : List (List UInt8)) :: HP.ow rByte 5 none 0 ([] : List UInt8) :: HP.blk b5 ([.int .i64 (oq.1), .string (txb (oq.2.1)), .string (txb (oq.2.2.1)), .int .i64 (oq.2.2.2.1), .int .i64 (oq.2.2.2.2.1), .slice p7 (oq.2.2.2.2.2).length c8]) 25 :: HP.sl R_triremeref11_Node p1 c1 list :: HP.sl rByte p8881 c8881 r8880 :: l)) ?_ ?_
 obtain ⟨x8883, ex8883, hm⟩ := ob hm
 have hc8882 := H.slCap 15 rfl
 replace H := H.slSubN 1 rfl 15 rfl ex8883
 obtain ⟨x8884, ex8884, hm⟩ := ob hm
 obtain ⟨b8885, o8885, hp8885⟩ := H.slP 10 rfl (idxO_some ex8884).2
 obtain ⟨cs8886, hcl8886, H⟩ := H.slEl 10 rfl hp8885 (idxO_some ex8884).2
 obtain rfl := H.rcB 1 rfl
 replace H := H.dp 1 rfl
 clear hcl8886
 obtain ⟨x8888, ex8888, hm⟩ := ob hm
 have hc8887 := H.slCap 17 rfl
 replace H := H.slSubN 1 rfl 17 rfl ex8888
 refine mix_region [0, 7, 13, 14, 22] [] (.step 0 1 (.step 0 2 (.step 0 3 (.step 0 4 (.step 0 5 (.step 0 6 (.step 0 8 (.step 0 9 (.step 0 10 (.step 0 11 (.step 0 12 (.step 0 15 (.step 0 16 (.step 0 17 (.step 0 18 (.step 0 19 (.step 0 20 (.step 0 21 (.fork 0 (.fork 7 (.step 2 13 (.step 2 14 (.step 2 22 (.step 0 23 .done)))) 13 (.step 2 7 (.step 2 14 (.step 2 22 (.step 0 23 .done))))) 13 (.step 2 0 (.step 2 7 (.step 2 14 (.step 2 22 (.step 0 23 .done)))))))))))))))))))))))) (fun u => ∃ ls, St w0 u (HP.row b8885 (o8885 + (s8758.2 : Int).toNat * 1) ([.int .u8 (((x8884).toNat : Int))]) :: HP.blk b5 ([.int .i64 (oq.1), .string (txb (oq.2.1)), .string (txb (oq.2.2.1)), .int .i64 (oq.2.2.2.1), .int .i64 (oq.2.2.2.2.1), .slice p7 (oq.2.2.2.2.2).length c8]) 25 :: ls)) (by kernel_rfl) (by kernel_rfl) ⟨_, (H.drew.pm 19 [1, 16, 0, 1, 2, 3, 4, 5, 6, 7, 8, 9, 10, 11, 12, 13, 14, 15, 17, 18] rfl:)⟩ ?_
 replace H := H.drew
 generalize w.drew = w at H ⊢
 refine mbk [0, 3] F H rfl ⟨fld25_3, trivial⟩ ?_; clear F; intro a F
 refine m_pure F rfl rfl rfl rfl (fun u hu => y_load1 F plain3 rfl rfl (row_at (v := .int .i64 (oq.2.2.2.1)) ((hu.choose_spec.blk 1 rfl).row) rfl)) ?_; clear F; intro a F
 refine mbk [0, 0] F H rfl trivial ?_; clear F; intro a F
 refine m_pure F rfl rfl rfl rfl (fun u hu => y_slH F elem23 rfl rfl rfl ex8883 hc8882) ?_; clear F; intro a F
 refine mbk [5] F H rfl ⟨fld25_5, trivial⟩ ?_; clear F; intro a F
 refine m_pure F rfl rfl rfl rfl (fun u hu => y_load1 F plain23 rfl rfl (row_at (v := .slice p7 (oq.2.2.2.2.2).length c8) ((hu.choose_spec.blk 1 rfl).row) rfl)) ?_; clear F; intro a F
 refine mbk [0] F H rfl trivial ?_; clear F; intro a F
 refine m_pure F rfl rfl rfl rfl (fun u hu => y_idxS F elem23 rfl rfl rfl hp8885 ex8884) ?_; clear F; intro a F
 refine m_pure F rfl rfl rfl rfl (fun u hu => y_load1 F plain5 rfl rfl ((hu.choose_spec.rowAt 0 rfl) 0 _ rfl)) ?_; clear F; intro a F
 refine mbk [0, 3] F H rfl ⟨fld25_3, trivial⟩ ?_; clear F; intro a F
 refine m_pure F rfl rfl rfl rfl (fun u hu => y_load1 F plain3 rfl rfl (row_at (v := .int .i64 (oq.2.2.2.1)) ((hu.choose_spec.blk 1 rfl).row) rfl)) ?_; clear F; intro a F
 refine mbk [0, 0, 0] F H rfl trivial ?_; clear F; intro a F
 refine m_pure F rfl rfl rfl rfl (fun u hu => y_slL F elem23 rfl rfl rfl ex8888 hc8887) ?_; clear F; intro a F
 refine m_fork rfl rfl rfl rfl ?_ ?_
 refine m_heavy rfl rfl ?_
 refine s_build0O (R := rByte) wkP F rfl rfl rfl elem23 rfl H ?_; clear F H; intro b8889 w a H F
 refine lz ?_; refine ct ⟨⟨_, (H.pm 20 [2, 17, 0, 1, 2, 3, 4, 5, 6, 7, 8, 9, 10, 11, 12, 13, 14, 15, 16, 18, 19] rfl:)⟩, ?_⟩
 refine m_fork rfl rfl rfl rfl ?_ ?_
 refine m_heavy rfl rfl ?_
 obtain ⟨x8891, ex8891, hm⟩ := ob hm
 refine s_app wkP F rfl rfl rfl rfl rfl rfl elem23 rfl ex8891 H 0 3 rfl rfl ?_; clear F H; intro p8890 c8890 w a H F
 refine lz ?_; refine ct ⟨⟨_, (H.pm 20 [2, 17, 0, 1, 2, 3, 4, 5, 6, 7, 8, 9, 10, 11, 12, 13, 14, 15, 16, 18, 19] rfl:)⟩, ?_⟩
 refine m_heavy rfl rfl ?_
 obtain ⟨x8893, ex8893, hm⟩ := ob hm
 refine s_buildC wkP F rfl rfl rfl elem23 zero5 rfl rfl rfl rfl (by simp [Value.cells]) (by decide) H ?_; clear F H; intro b8892 w a H F
 replace H := H.blkOw1 (R := rByte) (x := x8893) (fun gg => (congrArg (fun z => [Value.int .u8 z]) (u8O_some ex8893).symm))
 refine lz ?_; refine ct ⟨⟨_, (H.pm 21 [3, 18, 0, 1, 2, 3, 4, 5, 6, 7, 8, 9, 10, 11, 12, 13, 14, 15, 16, 17, 19, 20] rfl:)⟩, ?_⟩
 refine m_heavy rfl rfl ?_
 replace H := H.frz 0 rfl
 obtain ⟨x8895, ex8895, hm⟩ := ob hm
 refine s_app wkP F rfl rfl rfl rfl rfl rfl elem23 rfl ex8895 H 1 0 rfl rfl ?_; clear F H; intro p8894 c8894 w a H F
 refine lz ?_; refine ct ⟨⟨_, (H.pm 21 [3, 18, 0, 1, 2, 3, 4, 5, 6, 7, 8, 9, 10, 11, 12, 13, 14, 15, 16, 17, 19, 20] rfl:)⟩, ?_⟩
 refine m_heavy rfl rfl ?_
 obtain ⟨x8897, ex8897, hm⟩ := ob hm
 refine s_app wkP F rfl rfl rfl rfl rfl rfl elem23 rfl ex8897 H 1 2 rfl rfl ?_; clear F H; intro p8896 c8896 w a H F
 refine lz ?_; refine ct ⟨⟨_, (H.pm 21 [3, 18, 0, 1, 2, 3, 4, 5, 6, 7, 8, 9, 10, 11, 12, 13, 14, 15, 16, 17, 19, 20] rfl:)⟩, ?_⟩
 replace H := H.frz 1 rfl
 refine mbk [0] F H rfl trivial ?_; clear F; intro a F
 refine m_nil ?_
 cases hm
 refine ct ?_
 exact ⟨p8896, c8896, F.sl rfl, (H.pm 21 [5, 6, 7, 8, 9, 10, 11, 12, 13, 14, 15, 16, 17, 18, 19, 0] rfl:)⟩
 refine m_heavy rfl rfl ?_
 obtain ⟨x8899, ex8899, hm⟩ := ob hm
 obtain ⟨x8900, ex8900, hm⟩ := ob hm
 refine s_buildC wkP F rfl rfl rfl elem23 zero5 rfl rfl rfl rfl (by simp [Value.cells]) (by decide) H ?_; clear F H; intro b8898 w a H F
 replace H := H.blkOw1 (R := rByte) (x := x8900) (fun gg => (congrArg (fun z => [Value.int .u8 z]) (u8O_some ex8900).symm))
 refine lz ?_; refine ct ⟨⟨_, (H.pm 21 [3, 18, 0, 1, 2, 3, 4, 5, 6, 7, 8, 9, 10, 11, 12, 13, 14, 15, 16, 17, 19, 20] rfl:)⟩, ?_⟩
 refine m_heavy rfl rfl ?_
 refine s_app wkP F rfl rfl rfl rfl rfl rfl elem23 rfl ex8899 H 1 4 rfl rfl ?_; clear F H; intro p8901 c8901 w a H F
 refine lz ?_; refine ct ⟨⟨_, (H.pm 21 [3, 18, 0, 1, 2, 3, 4, 5, 6, 7, 8, 9, 10, 11, 12, 13, 14, 15, 16, 17, 19, 20] rfl:)⟩, ?_⟩
 refine m_heavy rfl rfl ?_
 replace H := H.frz 0 rfl
 obtain ⟨x8903, ex8903, hm⟩ := ob hm
 refine s_app wkP F rfl rfl rfl rfl rfl rfl elem23 rfl ex8903 H 1 0 rfl rfl ?_; clear F H; intro p8902 c8902 w a H F
 refine lz ?_; refine ct ⟨⟨_, (H.pm 21 [3, 18, 0, 1, 2, 3, 4, 5, 6, 7, 8, 9, 10, 11, 12, 13, 14, 15, 16, 17, 19, 20] rfl:)⟩, ?_⟩
 refine m_heavy rfl rfl ?_
 obtain ⟨x8905, ex8905, hm⟩ := ob hm
 refine s_app wkP F rfl rfl rfl rfl rfl rfl elem23 rfl ex8905 H 1 2 rfl rfl ?_; clear F H; intro p8904 c8904 w a H F
 refine lz ?_; refine ct ⟨⟨_, (H.pm 21 [3, 18, 0, 1, 2, 3, 4, 5, 6, 7, 8, 9, 10, 11, 12, 13, 14, 15, 16, 17, 19, 20] rfl:)⟩, ?_⟩
 replace H := H.frz 1 rfl
 refine mbk [0] F H rfl trivial ?_; clear F; intro a F
 refine m_nil ?_
 cases hm
 refine ct ?_
 exact ⟨p8904, c8904, F.sl rfl, (H.pm 21 [5, 6, 7, 8, 9, 10, 11, 12, 13, 14, 15, 16, 17, 18, 19, 0] rfl:)⟩
 refine m_heavy rfl rfl ?_
 obtain ⟨x8907, ex8907, hm⟩ := ob hm
 obtain ⟨x8908, ex8908, hm⟩ := ob hm
 refine s_buildC wkP F rfl rfl rfl elem23 zero5 rfl rfl rfl rfl (by simp [Value.cells]) (by decide) H ?_; clear F H; intro b8906 w a H F
 replace H := H.blkOw1 (R := rByte) (x := x8908) (fun gg => (congrArg (fun z => [Value.int .u8 z]) (u8O_some ex8908).symm))
 refine lz ?_; refine ct ⟨⟨_, (H.pm 20 [2, 17, 0, 1, 2, 3, 4, 5, 6, 7, 8, 9, 10, 11, 12, 13, 14, 15, 16, 18, 19] rfl:)⟩, ?_⟩
 refine m_heavy rfl rfl ?_
 refine s_build0O (R := rByte) wkP F rfl rfl rfl elem23 rfl H ?_; clear F H; intro b8909 w a H F
 refine lz ?_; refine ct ⟨⟨_, (H.pm 21 [3, 18, 0, 1, 2, 3, 4, 5, 6, 7, 8, 9, 10, 11, 12, 13, 14, 15, 16, 17, 19, 20] rfl:)⟩, ?_⟩
 refine m_heavy rfl rfl ?_
 refine s_app wkP F rfl rfl rfl rfl rfl rfl elem23 rfl ex8907 H 0 4 rfl rfl ?_; clear F H; intro p8910 c8910 w a H F
 refine lz ?_; refine ct ⟨⟨_, (H.pm 21 [3, 18, 0, 1, 2, 3, 4, 5, 6, 7, 8, 9, 10, 11, 12, 13, 14, 15, 16, 17, 19, 20] rfl:)⟩, ?_⟩
 refine m_heavy rfl rfl ?_
 replace H := H.frz 1 rfl
 obtain ⟨x8912, ex8912, hm⟩ := ob hm
 refine s_app wkP F rfl rfl rfl rfl rfl rfl elem23 rfl ex8912 H 1 0 rfl rfl ?_; clear F H; intro p8911 c8911 w a H F
 refine lz ?_; refine ct ⟨⟨_, (H.pm 21 [3, 18, 0, 1, 2, 3, 4, 5, 6, 7, 8, 9, 10, 11, 12, 13, 14, 15, 16, 17, 19, 20] rfl:)⟩, ?_⟩
 refine m_heavy rfl rfl ?_
 obtain ⟨x8914, ex8914, hm⟩ := ob hm
 refine s_app wkP F rfl rfl rfl rfl rfl rfl elem23 rfl ex8914 H 1 2 rfl rfl ?_; clear F H; intro p8913 c8913 w a H F
 refine lz ?_; refine ct ⟨⟨_, (H.pm 21 [3, 18, 0, 1, 2, 3, 4, 5, 6, 7, 8, 9, 10, 11, 12, 13, 14, 15, 16, 17, 19, 20] rfl:)⟩, ?_⟩
 replace H := H.frz 1 rfl
 refine mbk [0] F H rfl trivial ?_; clear F; intro a F
 refine m_nil ?_
 cases hm
 refine ct ?_
 exact ⟨p8913, c8913, F.sl rfl, (H.pm 21 [5, 6, 7, 8, 9, 10, 11, 12, 13, 14, 15, 16, 17, 18, 19, 0] rfl:)⟩
 clear F H hm
 rintro a w ⟨p8881, c8881, F, H⟩; have hm := hm8880; clear hm8880
 refine bn ?_
 cases hm
 refine ct ?_
 exact ⟨p8881, c8881, F.sl rfl, H⟩
 clear F H hm
 rintro a w ⟨p8838, c8838, F, H⟩; have hm := hm8837; clear hm8837
 refine ct (rl (bk [0, 0, 0] F H rfl trivial ?_)); clear F; intro a F
 refine lz (ct ?_); cases hm
 exact ⟨_, rfl, ⟨p8838, c8838, F.sl rfl, H⟩⟩
 replace hm := ifF hg8760 hm
 refine ex (cx (cx ?_)); cases hm; refine ⟨_, rfl, ?_⟩; rintro rfl
 refine ch (ct ?_)
 exact ⟨p8759, c8759, F.sl rfl, H⟩
 clear F H hm
 rintro a w ⟨p8445, c8445, F, H⟩; have hm := hm8444; clear hm8444
 cases hm
 refine ct ?_
 exact ⟨_, rfl, p8445, c8445, F.sl rfl, H⟩
 clear F H hm
 rintro a w ⟨r7958, rfl, p7959, c7959, F, H⟩; have hm := elimL hm7958; clear hm7958
 cases hm
 refine ct ?_
 exact ⟨_, rfl, none, 0, p7959, c7959, F.sl rfl, (H.pm 16 [0, 1, 2, 3, 5, 6, 7, 8, 9, 10, 11, 12, 13, 14, 4, 15] rfl:)⟩
 clear F H hm
 rintro a w ⟨r6695, rfl, p6696, c6696, p6697, c6697, F, H⟩; have hm := elimL hm6695; clear hm6695
 refine bn ?_
 cases hm
 refine ct ?_
 exact ⟨_, rfl, p6696, c6696, p6697, c6697, F.sl rfl, H⟩
 clear F H hm
 rintro a w ⟨r4475, rfl, p4476, c4476, p4477, c4477, F, H⟩; have hm := elimL hm4475; clear hm4475
 refine ct (sr (s_build0O (R := R_triremeref11_Node) wkP F rfl rfl rfl elem30 rfl H ?_)); clear F H; intro b8915 w a H F
 refine bk [0] F H rfl trivial ?_; clear F; intro a F
 obtain ⟨x8917, ex8917, hm⟩ := ob hm
 refine s_app wkP F rfl rfl rfl rfl rfl rfl elem30 rfl ex8917 H 0 14 rfl rfl ?_; clear F H; intro p8916 c8916 w a H F
 refine bk [0] F H rfl trivial ?_; clear F; intro a F
 replace H := H.nf 17 rfl
 refine nl (sr (bk [0, 0, 0, 6000, 0] F H rfl ⟨fld50_0, rfl, plain9, trivial⟩ ?_)); clear F; intro a F
 refine s_val wkP F rfl rfl rfl rfl (y_build F rfl rfl (cs := [.string (txb (x14.1)), .bool false, .slice p4477 (r4475.2).length c4477]) (by kernel_rfl)) ?_; clear F; intro a F
 obtain ⟨x8918, ex8918, hm⟩ := ob hm
 obtain ⟨b8919, hp8919⟩ := H.owP 0 rfl (idxO_some ex8918).2
 obtain ⟨css8920, H⟩ := H.oxOpen 0 rfl
 obtain ⟨cs8920, hcs8920, hcl8920, H⟩ := H.oxEl 0 rfl (idxO_some ex8918).2
 refine s_val wkP F rfl rfl rfl rfl (y_idxS F elem30 rfl rfl rfl hp8919 ex8918) ?_; clear F; intro a F
 replace H := H.oxShut 1 rfl
 refine s_owSetA wkP F rfl rfl agg50 rfl rfl rfl rfl H 1 rfl hp8919 ex8918 (zz := (x14.1, false, r4475.2)) (fun gg => ⟨_, _, rfl, rfl, ⟨_, _, rfl, rfl, ⟨_, _, rfl, (gg 17 _ rfl).choose_spec⟩⟩⟩) (by intro v hv; simp only [List.mem_append, List.mem_cons, List.not_mem_nil, or_false] at hv; first | (rcases hv with h | h <;> first | (subst h; rfl) | exact bcells_flat _ _ h | exact icells_flat _ _ _ h | (rcases h with h | h <;> first | (subst h; rfl) | exact bcells_flat _ _ h | exact icells_flat _ _ _ h | (rcases h with h | h <;> first | (subst h; rfl) | exact bcells_flat _ _ h | (rcases h with h | h <;> first | (subst h; rfl) | (rcases h with h | h <;> (subst h; rfl)))))) | (subst hv; rfl)) (by simp only [List.length_append, List.length_cons, List.length_nil, icells_length, bcells_length]) ?_; clear H; intro w H
 replace H : St w0 w (HP.rc R_triremeref11_Node cs8920 x8918 :: HP.ow R_triremeref11_Node 50 p8916 c8916 ((x8917).set (x9.1 : Int).toNat (x14.1, false, r4475.2)) :: HP.blk b37 ([.int .i64 (0), .int .i64 (r4475.1.1), .slice p4476 (r4475.1.2).length c4476, .slice none (([] : List (List UInt8))).length 0]) 37 :: HP.ow rStr 9 none 0 ([] : List (List UInt8)) :: HP.ow rByte 5 none 0 ([] : List UInt8) :: HP.ow rStr 9 none 0 ([] : List (List UInt8)) :: HP.sl rByte p18 c19 x14.2.2 :: HP.blk b17 ([.string (txb (x14.1)), .bool (x14.2.1), .slice p18 (x14.2.2).length c19]) 50 :: HP.ow rByte 5 none 0 ([] : List UInt8) :: HP.row b15 (o15 + (x9.1 : Int).toNat * 3) ([.string (txb (x14.1)), .bool (x14.2.1), .slice p18 (x14.2.2).length c19]) :: HP.sl rByte p7 c8 oq.2.2.2.2.2 :: HP.blk b6 ([.int .i64 (0), .int .i64 (0), .slice none (([] : List UInt8)).length 0, .slice none (([] : List (List UInt8))).length 0]) 37 :: HP.ow rStr 9 none 0 ([] : List (List UInt8)) :: HP.ow rByte 5 none 0 ([] : List UInt8) :: HP.blk b5 ([.int .i64 (oq.1), .string (txb (oq.2.1)), .string (txb (oq.2.2.1)), .int .i64 (oq.2.2.2.1), .int .i64 (oq.2.2.2.2.1), .slice p7 (oq.2.2.2.2.2).length c8]) 25 :: HP.sl R_triremeref11_Node p1 c1 list :: HP.ow rByte 5 p4476 c4476 r4475.1.2 :: HP.sl rByte p4477 c4477 r4475.2 :: l) := (by have h := H; first | exact h | (simp only [List.length_set] at h ⊢; exact h))
 replace F := F.bool (k := 186) (u := .slice p8916 ((x8917).set (x9.1 : Int).toNat (x14.1, false, r4475.2)).length c8916) rfl (by simp only [List.length_set])
 replace F := F.bool (k := 13) (u := .slice p8916 ((x8917).set (x9.1 : Int).toNat (x14.1, false, r4475.2)).length c8916) rfl (by simp only [List.length_set])
 replace F := F.bool (k := 187) (u := .slice p8916 ((x8917).set (x9.1 : Int).toNat (x14.1, false, r4475.2)).length c8916) rfl (by simp only [List.length_set])
 refine nl (sq (mix_region [3] [3] (.step 0 0 (.step 1 1 (.step 0 2 (.step 3 3 .done)))) (fun u => ∃ ls, St w0 u (ls)) (by kernel_rfl) (by kernel_rfl) ⟨_, H.drew⟩ ?_))
 replace H := H.drew
 generalize w.drew = w at H ⊢
 refine mbk [0, 2999, 0] F H rfl ⟨rfl, (aggn agg37 (by simp only [List.length_append, List.length_cons, List.length_nil, icells_length, bcells_length])), trivial⟩ ?_; clear F; intro a F
 refine m_last rfl rfl ?_
 refine s_storeA wkP F rfl rfl agg37 rfl rfl rfl H 11 rfl (by simp only [List.length_append, List.length_cons, List.length_nil, icells_length, bcells_length]) (by simp only [List.length_append, List.length_cons, List.length_nil, icells_length, bcells_length]) (by intro v hv; simp only [List.mem_append, List.mem_cons, List.not_mem_nil, or_false] at hv; first | (rcases hv with h | h <;> first | (subst h; rfl) | exact bcells_flat _ _ h | exact icells_flat _ _ _ h | (rcases h with h | h <;> first | (subst h; rfl) | exact bcells_flat _ _ h | exact icells_flat _ _ _ h | (rcases h with h | h <;> first | (subst h; rfl) | exact bcells_flat _ _ h | (rcases h with h | h <;> first | (subst h; rfl) | (rcases h with h | h <;> (subst h; rfl)))))) | (subst hv; rfl)) ?_; clear H; intro w H
 refine lz ?_; refine ct ?_
 refine m_nil ?_
 refine ct (wr ?_)
 replace H := H.frz 1 rfl
 replace H := H.frz 16 rfl
 replace H := H.frz 6 rfl
 replace H := H.mkRc (R := R_api_Answer) (cs := [.int .i64 (0), .int .i64 (r4475.1.1), .slice p4476 (r4475.1.2).length c4476, .slice none (([] : List (List UInt8))).length 0]) (x := (0, r4475.1.1, r4475.1.2, ([] : List (List UInt8)))) (fun gg => ⟨_, _, rfl, rfl, ⟨_, _, rfl, rfl, ⟨_, _, rfl, ⟨_, _, rfl, (gg 1 _ rfl).choose_spec⟩, ⟨_, _, rfl, (gg 0 _ rfl).choose_spec⟩⟩⟩⟩)
 cases hm
 refine x_resC2 F rfl rfl (⟨_, rfl, agg37.run_load (H.blk 13 rfl).row (by simp only [List.length_append, List.length_cons, List.length_nil, icells_length, bcells_length])⟩) ?_
 exact ⟨_, rfl, p8916, c8916, [.int .i64 (0), .int .i64 (r4475.1.1), .slice p4476 (r4475.1.2).length c4476, .slice none (([] : List (List UInt8))).length 0], rfl, (H.pm 19 [3, 0] rfl:)⟩
theorem ent69 : ∀ args w, (callFunc 69 args).run Tryz.prog w = .ok (.enter 69 args) w := enters Tryz.func69 (by kernel_rfl) rfl
theorem ent38 : ∀ args w, (callFunc 38 args).run Tryz.prog w = .ok (.enter 38 args) w := enters Tryz.func38 (by kernel_rfl) rfl
set_option maxRecDepth 100000 in
set_option maxHeartbeats 4000000 in
theorem w_m_triremeref11_rename {x0_ : List T_triremeref11_Node} {x1_ : T_api_Op} {p1 : Option Addr} {c1 : Nat} {cs2 : List Value} {w0 w : World} {l : List HP}  {r : (List T_triremeref11_Node) × T_api_Answer} (hm : m_triremeref11_rename x0_ x1_ = some r) (H : St w0 w (HP.sl R_triremeref11_Node p1 c1 x0_ :: HP.rc R_api_Op cs2 x1_ :: l)) :
  Calls Tryz.prog 41 [.slice p1 (x0_).length c1, .agg cs2.toArray].toArray w (fun e w' => ∃ v, e = .returned v ∧ ∃ (p3 : Option Addr) (c3 : Nat) (cs4 : List Value), v = .tuple [.slice p3 (r.1).length c3, .agg cs4.toArray].toArray ∧ St w0 w' (HP.sl R_triremeref11_Node p3 c3 r.1 :: HP.rc R_api_Answer cs4 r.2 :: l)) := by
 unfold m_triremeref11_rename at hm
 refine x_enter Tryz.func41 rfl rfl rfl ?_
 intro a F
 refine sr (s_boxA wkP F rfl rfl rfl rfl rfl H ?_); clear F H; intro b5 w a H F
 refine bk [0] F H rfl trivial ?_; clear F; intro a F
 replace H := H.owNil rByte 5
 replace H := H.owNil rStr 9
 refine s_allocA wkP F rfl rfl rfl agz37 rfl H ?_; clear F H; intro b6 w a H F
 replace H := H.nf 6 rfl
 refine nl (sq (sr (bk [1] F H rfl ⟨fld25_1, trivial⟩ ?_))); clear F; intro a F
 replace H := rc_api_Op (H.pk 5 rfl); obtain ⟨p7, c8, rfl, H⟩ := H
 refine bk [4001] F H rfl ⟨rfl, plain9, trivial⟩ ?_; clear F; intro a F
 obtain ⟨x9, ex9, hm⟩ := ob hm
 refine sc wkP F rfl ent28 (w_m_triremeref09_Right ex9 H:) ?_; clear F H; rintro _ w a ⟨rfl, H⟩ F
 refine bk [0, 0] F H rfl trivial ?_; clear F; intro a F
 by_cases hg10 : (!x9) = true
 replace hm := ifT hg10 hm
 replace F := F.vT 15 hg10 rfl
 refine bk (List.replicate 5 0) F H rfl trivial ?_; clear F; intro a F
 replace H := H.nf 6 rfl
 refine nl (cT F rfl ?_)
 refine sr (bk [0] F H rfl trivial ?_); clear F; intro a F
 obtain ⟨x11, ex11, hm⟩ := ob hm
 refine sc wkP F rfl ent39 (w_m_triremeref11_no ex11 (H.pm 6 [5, 0, 1, 2, 3, 4, 5] rfl:):) ?_; clear F H; rintro _ w a ⟨p12, c12, cs13, rfl, H⟩ F
 refine bk [0, 0, 0] F H rfl trivial ?_; clear F; intro a F
 refine s_storeA wkP F rfl rfl agg37 rfl rfl rfl H 3 rfl (H.rcLen 1 rfl) (by simp only [List.length_append, List.length_cons, List.length_nil, icells_length, bcells_length]) (H.rcFlat 1 rfl) ?_; clear H; intro w H
 replace H := H.nf 8 rfl
 refine nl (wr (tr ?_))
 cases hm
 refine x_resC2 F rfl rfl (⟨_, rfl, agg37.run_load (H.blk 3 rfl).row (H.rcLen 1 rfl)⟩) ?_
 exact ⟨_, rfl, p12, c12, cs13, rfl, (H.pm 8 [0, 1] rfl:)⟩
 replace hm := ifF hg10 hm
 replace F := F.vF 15 hg10 rfl
 refine bk [2, 4002] F H rfl ⟨fld25_2, rfl, plain9, trivial⟩ ?_; clear F; intro a F
 refine g_onP F rfl rfl rfl rfl ?_
 obtain ⟨x14, ex14, hm⟩ := ob hm
 refine sc wkP F rfl ent28 (w_m_triremeref09_Right ex14 H:) ?_; clear F H; rintro _ w a ⟨rfl, H⟩ F
 refine bk [0, 0] F H rfl trivial ?_; clear F; intro a F
 replace H := H.nf 6 rfl
 refine nl (cB F rfl (fun hg15 => ?_) (fun hg15 => ?_))
 replace hm := ifT hg15 hm
 refine sr (bk [0] F H rfl trivial ?_); clear F; intro a F
 obtain ⟨x16, ex16, hm⟩ := ob hm
 refine sc wkP F rfl ent39 (w_m_triremeref11_no ex16 (H.pm 6 [5, 0, 1, 2, 3, 4, 5] rfl:):) ?_; clear F H; rintro _ w a ⟨p17, c17, cs18, rfl, H⟩ F
 refine bk [0, 0, 0] F H rfl trivial ?_; clear F; intro a F
 refine s_storeA wkP F rfl rfl agg37 rfl rfl rfl H 3 rfl (H.rcLen 1 rfl) (by simp only [List.length_append, List.length_cons, List.length_nil, icells_length, bcells_length]) (H.rcFlat 1 rfl) ?_; clear H; intro w H
 replace H := H.nf 8 rfl
 refine nl (wr (tr ?_))
 cases hm
 refine x_resC2 F rfl rfl (⟨_, rfl, agg37.run_load (H.blk 3 rfl).row (H.rcLen 1 rfl)⟩) ?_
 exact ⟨_, rfl, p17, c17, cs18, rfl, (H.pm 8 [0, 1] rfl:)⟩
 replace hm := ifF (nT hg15) hm
 refine sk (ct (sr (bk [0, 1, 4001] F H rfl ⟨fld25_1, rfl, plain9, trivial⟩ ?_))); clear F; intro a F
 obtain ⟨x19, ex19, hm⟩ := ob hm
 refine sc wkP F rfl ent42 (w_m_triremeref11_Look ex19 (H.pm 6 [5, 0, 1, 2, 3, 4, 5] rfl:):) ?_; clear F H; rintro _ w a ⟨rfl, H⟩ F
 refine bk (List.replicate 5 0) F H rfl trivial ?_; clear F; intro a F
 replace H := H.nf 6 rfl
 refine nl (sq (sr (bk [0, 0] F H rfl trivial ?_))); clear F; intro a F
 refine nl (cN F rfl (fun hg20 => ?_) (fun hg20 => ?_))
 replace hm := ifF hg20 hm
 refine sr (bk [0, 0] F H rfl trivial ?_); clear F; intro a F
 obtain ⟨x21, ex21, hm⟩ := ob hm
 refine sc wkP F rfl ent39 (w_m_triremeref11_no ex21 (H.pm 6 [5, 0, 1, 2, 3, 4, 5] rfl:):) ?_; clear F H; rintro _ w a ⟨p22, c22, cs23, rfl, H⟩ F
 refine bk [0, 0, 0] F H rfl trivial ?_; clear F; intro a F
 refine s_storeA wkP F rfl rfl agg37 rfl rfl rfl H 3 rfl (H.rcLen 1 rfl) (by simp only [List.length_append, List.length_cons, List.length_nil, icells_length, bcells_length]) (H.rcFlat 1 rfl) ?_; clear H; intro w H
 replace H := H.nf 8 rfl
 refine nl (wr (tr ?_))
 cases hm
 refine x_resC2 F rfl rfl (⟨_, rfl, agg37.run_load (H.blk 3 rfl).row (H.rcLen 1 rfl)⟩) ?_
 exact ⟨_, rfl, p22, c22, cs23, rfl, (H.pm 8 [0, 1] rfl:)⟩
 replace hm := ifT hg20 hm
 refine sk (ct (sq (sr (bk [1, 4001] F H rfl ⟨fld25_1, rfl, plain9, trivial⟩ ?_)))); clear F; intro a F
 refine s_val wkP F rfl rfl rfl rfl (y_eqT (l := x1_.2.1) (m := [47]) F rfl rfl rfl) ?_; clear F; intro a F
 refine bk [0] F H rfl trivial ?_; clear F; intro a F
 by_cases hg24 : x1_.2.1 = ([47])
 replace hm := ifT hg24 hm
 replace F := F.bT 42 hg24 rfl
 refine bk (List.replicate 6 0) F H rfl trivial ?_; clear F; intro a F
 refine nl (cT F rfl ?_)
 refine sr (bk [0] F H rfl trivial ?_); clear F; intro a F
 obtain ⟨x25, ex25, hm⟩ := ob hm
 refine sc wkP F rfl ent39 (w_m_triremeref11_no ex25 (H.pm 6 [5, 0, 1, 2, 3, 4, 5] rfl:):) ?_; clear F H; rintro _ w a ⟨p26, c26, cs27, rfl, H⟩ F
 refine bk [0, 0, 0] F H rfl trivial ?_; clear F; intro a F
 refine s_storeA wkP F rfl rfl agg37 rfl rfl rfl H 3 rfl (H.rcLen 1 rfl) (by simp only [List.length_append, List.length_cons, List.length_nil, icells_length, bcells_length]) (H.rcFlat 1 rfl) ?_; clear H; intro w H
 replace H := H.nf 8 rfl
 refine nl (wr (tr ?_))
 cases hm
 refine x_resC2 F rfl rfl (⟨_, rfl, agg37.run_load (H.blk 3 rfl).row (H.rcLen 1 rfl)⟩) ?_
 exact ⟨_, rfl, p26, c26, cs27, rfl, (H.pm 8 [0, 1] rfl:)⟩
 replace hm := ifF hg24 hm
 replace F := F.bF 42 hg24 rfl
 refine bk [1, 4001, 2, 4002] F H rfl ⟨fld25_1, rfl, plain9, fld25_2, rfl, plain9, trivial⟩ ?_; clear F; intro a F
 refine g_onP F rfl rfl rfl rfl ?_
 obtain ⟨x28, ex28, hm⟩ := ob hm
 refine sc wkP F rfl ent69 (w_m_triremeref09_Within ex28 H:) ?_; clear F H; rintro _ w a ⟨rfl, H⟩ F
 refine bk [0] F H rfl trivial ?_; clear F; intro a F
 replace H := H.nf 6 rfl
 refine nl (cB F rfl (fun hg29 => ?_) (fun hg29 => ?_))
 replace hm := ifT hg29 hm
 refine sr (bk [0] F H rfl trivial ?_); clear F; intro a F
 obtain ⟨x30, ex30, hm⟩ := ob hm
 refine sc wkP F rfl ent39 (w_m_triremeref11_no ex30 (H.pm 6 [5, 0, 1, 2, 3, 4, 5] rfl:):) ?_; clear F H; rintro _ w a ⟨p31, c31, cs32, rfl, H⟩ F
 refine bk [0, 0, 0] F H rfl trivial ?_; clear F; intro a F
 refine s_storeA wkP F rfl rfl agg37 rfl rfl rfl H 3 rfl (H.rcLen 1 rfl) (by simp only [List.length_append, List.length_cons, List.length_nil, icells_length, bcells_length]) (H.rcFlat 1 rfl) ?_; clear H; intro w H
 replace H := H.nf 8 rfl
 refine nl (wr (tr ?_))
 cases hm
 refine x_resC2 F rfl rfl (⟨_, rfl, agg37.run_load (H.blk 3 rfl).row (H.rcLen 1 rfl)⟩) ?_
 exact ⟨_, rfl, p31, c31, cs32, rfl, (H.pm 8 [0, 1] rfl:)⟩
 replace hm := ifF (nT hg29) hm
 refine sk (ct (sr (bk [0, 2, 4002] F H rfl ⟨fld25_2, rfl, plain9, trivial⟩ ?_))); clear F; intro a F
 obtain ⟨x33, ex33, hm⟩ := ob hm
 refine sc wkP F rfl ent38 (w_m_triremeref11_Room ex33 (H.pm 6 [5, 0, 1, 2, 3, 4, 5] rfl:):) ?_; clear F H; rintro _ w a ⟨rfl, H⟩ F
 refine bk [0] F H rfl trivial ?_; clear F; intro a F
 replace H := H.nf 6 rfl
 refine nl (sq (sr (bk [0, 0] F H rfl trivial ?_))); clear F; intro a F
 refine nl (cN F rfl (fun hg34 => ?_) (fun hg34 => ?_))
 replace hm := ifF hg34 hm
 refine sr (bk [0, 0] F H rfl trivial ?_); clear F; intro a F
 obtain ⟨x35, ex35, hm⟩ := ob hm
 refine sc wkP F rfl ent39 (w_m_triremeref11_no ex35 (H.pm 6 [5, 0, 1, 2, 3, 4, 5] rfl:):) ?_; clear F H; rintro _ w a ⟨p36, c36, cs37, rfl, H⟩ F
 refine bk [0, 0, 0] F H rfl trivial ?_; clear F; intro a F
 refine s_storeA wkP F rfl rfl agg37 rfl rfl rfl H 3 rfl (H.rcLen 1 rfl) (by simp only [List.length_append, List.length_cons, List.length_nil, icells_length, bcells_length]) (H.rcFlat 1 rfl) ?_; clear H; intro w H
 replace H := H.nf 8 rfl
 refine nl (wr (tr ?_))
 cases hm
 refine x_resC2 F rfl rfl (⟨_, rfl, agg37.run_load (H.blk 3 rfl).row (H.rcLen 1 rfl)⟩) ?_
 exact ⟨_, rfl, p36, c36, cs37, rfl, (H.pm 8 [0, 1] rfl:)⟩
 replace hm := ifT hg34 hm
 refine sk (ct (sr (s_build0O (R := R_triremeref11_Node) wkP F rfl rfl rfl elem30 rfl H ?_))); clear F H; intro b38 w a H F
 refine bk [0] F H rfl trivial ?_; clear F; intro a F
 replace H := H.nf 7 rfl
 refine nl (sq (sr (bk [0] F H rfl trivial ?_))); clear F; intro a F
 refine nl ?_
 obtain ⟨o202, eo202, hm202⟩ := ob hm; clear hm; revert eo202; intro hm
 refine x_mid (fun aa ww => ∃ r202, o202 = Sum.inl r202 ∧ ∃ (p203 : Option Addr) (c203 : Nat), Fr ⟨104, []⟩ aa [(5, .pointer (some ⟨b6, 0, none⟩)), (8, .slice p203 (r202).length c203)] ∧ St w0 ww (HP.sl rByte p7 c8 x1_.2.2.2.2.2 :: HP.blk b6 ([.int .i64 (0), .int .i64 (0), .slice none (([] : List UInt8)).length 0, .slice none (([] : List (List UInt8))).length 0]) 37 :: HP.ow rStr 9 none 0 ([] : List (List UInt8)) :: HP.ow rByte 5 none 0 ([] : List UInt8) :: HP.blk b5 ([.int .i64 (x1_.1), .string (txb (x1_.2.1)), .string (txb (x1_.2.2.1)), .int .i64 (x1_.2.2.2.1), .int .i64 (x1_.2.2.2.2.1), .slice p7 (x1_.2.2.2.2.2).length c8]) 25 :: HP.ow R_triremeref11_Node 50 p203 c203 r202 :: l)) ?_ ?_
 refine bl ?_
 refine x_loopO _ (fun (s312 : (List T_triremeref11_Node) × Int) aa ww => ∃ (p313 : Option Addr) (c313 : Nat), Fr ⟨104, []⟩ aa [(0, .slice p1 (x0_).length c1), (3, .pointer (some ⟨b5, 0, none⟩)), (5, .pointer (some ⟨b6, 0, none⟩)), (8, .slice p313 (s312.1).length c313), (9, .int .i64 (s312.2))] ∧ St w0 ww (HP.sl rByte p7 c8 x1_.2.2.2.2.2 :: HP.blk b6 ([.int .i64 (0), .int .i64 (0), .slice none (([] : List UInt8)).length 0, .slice none (([] : List (List UInt8))).length 0]) 37 :: HP.ow rStr 9 none 0 ([] : List (List UInt8)) :: HP.ow rByte 5 none 0 ([] : List UInt8) :: HP.blk b5 ([.int .i64 (x1_.1), .string (txb (x1_.2.1)), .string (txb (x1_.2.2.1)), .int .i64 (x1_.2.2.2.1), .int .i64 (x1_.2.2.2.2.1), .slice p7 (x1_.2.2.2.2.2).length c8]) 25 :: HP.sl R_triremeref11_Node p1 c1 x0_ :: HP.ow R_triremeref11_Node 50 p313 c313 s312.1 :: l)) hm ⟨(some ⟨b38, 0, none⟩), 0, F.sl rfl, (H.pm 7 [1, 2, 3, 4, 5, 6, 0] rfl:)⟩ ?_
 clear F H hm
 rintro s312 a w o ⟨p313, c313, F, H⟩ hm
 refine sq (sr (bk [0, 0, 0, 0] F H rfl ⟨⟨_, Tryz.underlying30⟩, trivial⟩ ?_)); clear F; intro a F
 refine nl (cP F rfl (fun hg314 => ?_) (fun hg314 => ?_))
 replace hm := ifT hg314 hm
 refine sk (ct (sq ?_))
 obtain ⟨o340, eo340, hm340⟩ := ob hm; clear hm; revert eo340; intro hm
 refine x_mid (fun aa ww => ∃ r340, o340 = Sum.inl r340 ∧ ∃ (p341 : Option Addr) (c341 : Nat), Fr ⟨104, []⟩ aa [(0, .slice p1 (x0_).length c1), (3, .pointer (some ⟨b5, 0, none⟩)), (5, .pointer (some ⟨b6, 0, none⟩)), (8, .slice p341 (r340).length c341), (9, .int .i64 (s312.2))] ∧ St w0 ww (HP.sl rByte p7 c8 x1_.2.2.2.2.2 :: HP.blk b6 ([.int .i64 (0), .int .i64 (0), .slice none (([] : List UInt8)).length 0, .slice none (([] : List (List UInt8))).length 0]) 37 :: HP.ow rStr 9 none 0 ([] : List (List UInt8)) :: HP.ow rByte 5 none 0 ([] : List UInt8) :: HP.blk b5 ([.int .i64 (x1_.1), .string (txb (x1_.2.1)), .string (txb (x1_.2.2.1)), .int .i64 (x1_.2.2.2.1), .int .i64 (x1_.2.2.2.2.1), .slice p7 (x1_.2.2.2.2.2).length c8]) 25 :: HP.sl R_triremeref11_Node p1 c1 x0_ :: HP.ow R_triremeref11_Node 50 p341 c341 r340 :: l)) ?_ ?_
 refine bl (sr (bk [0, 0] F H rfl trivial ?_)); clear F; intro a F
 obtain ⟨x342, ex342, hm⟩ := ob hm
 obtain ⟨b343, o343, hp343⟩ := H.slP 5 rfl (idxO_some ex342).2
 obtain ⟨cs344, hcl344, H⟩ := H.slEl 5 rfl hp343 (idxO_some ex342).2
 clear hcl344
 refine s_val wkP F rfl rfl rfl rfl (y_idxS F elem30 rfl rfl rfl hp343 ex342) ?_; clear F; intro a F
 refine bk [999] F H rfl ⟨rfl, (aggn agg50 (H.rcLen 1 rfl)), trivial⟩ ?_; clear F; intro a F
 replace H := H.owNil rByte 5
 refine s_allocA wkP F rfl rfl rfl agz50 rfl H ?_; clear F H; intro b345 w a H F
 refine s_storeA wkP F rfl rfl agg50 rfl rfl rfl H 0 rfl (H.rcLen 3 rfl) (by simp only [List.length_append, List.length_cons, List.length_nil, icells_length, bcells_length]) (H.rcFlat 3 rfl) ?_; clear H; intro w H
 replace H := H.nf 11 rfl
 refine nl (sq (sr (bk [1, 8001, 0] F H rfl ⟨fld25_1, rfl, plain9, fld50_0, trivial⟩ ?_))); clear F; intro a F
 replace H := rc_triremeref11_Node (H.pk 3 rfl); obtain ⟨p346, c347, rfl, H⟩ := H
 refine bk [1000] F H rfl ⟨rfl, plain9, trivial⟩ ?_; clear F; intro a F
 obtain ⟨x348, ex348, hm⟩ := ob hm
 refine sc wkP F rfl ent69 (w_m_triremeref09_Within ex348 H:) ?_; clear F H; rintro _ w a ⟨rfl, H⟩ F
 replace H := H.nf 11 rfl
 refine nl ?_
 obtain ⟨o356, eo356, hm356⟩ := ob hm; clear hm; revert eo356; intro hm
 refine x_mid (fun aa ww => ∃ r356, o356 = Sum.inl r356 ∧ Fr ⟨104, []⟩ aa [(0, .slice p1 (x0_).length c1), (3, .pointer (some ⟨b5, 0, none⟩)), (5, .pointer (some ⟨b6, 0, none⟩)), (8, .slice p313 (s312.1).length c313), (9, .int .i64 (s312.2)), (10, .pointer (some ⟨b345, 0, none⟩))] ∧ St w0 ww (HP.sl rByte p346 c347 x342.2.2 :: HP.blk b345 ([.string (txb (r356)), .bool (x342.2.1), .slice p346 (x342.2.2).length c347]) 50 :: HP.ow rByte 5 none 0 ([] : List UInt8) :: HP.row b343 (o343 + (s312.2 : Int).toNat * 3) ([.string (txb (x342.1)), .bool (x342.2.1), .slice p346 (x342.2.2).length c347]) :: HP.sl rByte p7 c8 x1_.2.2.2.2.2 :: HP.blk b6 ([.int .i64 (0), .int .i64 (0), .slice none (([] : List UInt8)).length 0, .slice none (([] : List (List UInt8))).length 0]) 37 :: HP.ow rStr 9 none 0 ([] : List (List UInt8)) :: HP.ow rByte 5 none 0 ([] : List UInt8) :: HP.blk b5 ([.int .i64 (x1_.1), .string (txb (x1_.2.1)), .string (txb (x1_.2.2.1)), .int .i64 (x1_.2.2.2.1), .int .i64 (x1_.2.2.2.2.1), .slice p7 (x1_.2.2.2.2.2).length c8]) 25 :: HP.sl R_triremeref11_Node p1 c1 x0_ :: HP.ow R_triremeref11_Node 50 p313 c313 s312.1 :: l)) ?_ ?_
 refine cB F rfl (fun hg357 => ?_) (fun hg357 => ?_)
 replace hm := ifT hg357 hm
 refine sq ?_
 obtain ⟨x358, ex358, hm⟩ := ob hm
 obtain ⟨x359, ex359, hm⟩ := ob hm
 refine mix_region [10] [10] (.step 0 0 (.step 1 1 (.step 0 2 (.step 1 3 (.step 0 4 (.step 1 5 (.step 0 6 (.step 0 7 (.step 0 8 (.step 0 9 (.step 3 10 .done))))))))))) (fun u => ∃ ls, St w0 u (ls)) (by kernel_rfl) (by kernel_rfl) ⟨_, H.drew⟩ ?_
 replace H := H.drew
 generalize w.drew = w at H ⊢
 refine mbk [2, 8002, 0, 1000, 1, 8001] F H rfl ⟨fld25_2, rfl, plain9, fld50_0, rfl, plain9, fld25_1, rfl, plain9, trivial⟩ ?_; clear F; intro a F
 refine m_pure F rfl rfl rfl rfl (fun u hu => y_lenT (l := x1_.2.1) F rfl Tryz.underlying9 rfl) ?_; clear F; intro a F
 refine m_pure F rfl rfl rfl rfl (fun u hu => y_slTL F rfl Tryz.underlying9 rfl rfl ex358) ?_; clear F; intro a F
 refine m_pure F rfl rfl rfl rfl (fun u hu => y_addO F rfl rfl rfl ex359) ?_; clear F; intro a F
 refine mbk [0] F H rfl ⟨fld50_0, trivial⟩ ?_; clear F; intro a F
 refine m_last rfl rfl ?_
 refine s_st1 wkP F rfl rfl zero9 rfl rfl rfl rfl rfl H 1 rfl rfl ?_; clear H; intro w H
 refine lz ?_; refine ct ?_
 refine m_nil ?_
 refine ct (sr (bk [0, 1000] F H rfl ⟨fld50_0, rfl, plain9, trivial⟩ ?_)); clear F; intro a F
 refine s_val wkP F rfl rfl rfl rfl (y_lenT (l := x359) F rfl Tryz.underlying9 rfl) ?_; clear F; intro a F
 refine bk [0] F H rfl trivial ?_; clear F; intro a F
 replace H := H.nf 11 rfl
 refine nl (cP F rfl (fun hg360 => ?_) (fun hg360 => ?_))
 replace hm := ifT hg360 hm
 refine sr (bk [0] F H rfl trivial ?_); clear F; intro a F
 obtain ⟨x361, ex361, hm⟩ := ob hm
 refine sc wkP F rfl ent39 (w_m_triremeref11_no ex361 (H.pm 11 [9, 0, 1, 2, 3, 4, 5, 6, 7, 8, 9, 10] rfl:):) ?_; clear F H; rintro _ w a ⟨p362, c362, cs363, rfl, H⟩ F
 refine bk [0, 0, 0] F H rfl trivial ?_; clear F; intro a F
 refine s_storeA wkP F rfl rfl agg37 rfl rfl rfl H 7 rfl (H.rcLen 1 rfl) (by simp only [List.length_append, List.length_cons, List.length_nil, icells_length, bcells_length]) (H.rcFlat 1 rfl) ?_; clear H; intro w H
 replace H := H.nf 13 rfl
 refine nl (wr (tr ?_))
 cases hm
 replace hm := elimR hm356
 refine tr (br (tr ?_))
 cases hm
 replace hm := elimR hm340
 refine tr (tr ?_); cases hm; refine ⟨_, rfl, ?_⟩; rintro rfl
 refine br (tr ?_)
 replace hm := elimR hm202
 refine tr ?_
 cases hm
 refine x_resC2 F rfl rfl (⟨_, rfl, agg37.run_load (H.blk 7 rfl).row (H.rcLen 1 rfl)⟩) ?_
 exact ⟨_, rfl, p362, c362, cs363, rfl, (H.pm 13 [0, 1] rfl:)⟩
 replace hm := ifF hg360 hm
 refine sk ?_
 cases hm
 refine ct ?_
 exact ⟨_, rfl, F.sl rfl, H⟩
 replace hm := ifF (nT hg357) hm
 refine sk ?_
 cases hm
 refine ct ?_
 exact ⟨_, rfl, F.sl rfl, H⟩
 clear F H hm
 rintro a w ⟨r356, rfl, F, H⟩; have hm := elimL hm356; clear hm356
 refine ct (rl (bk [0, 1999] F H rfl ⟨rfl, (aggn agg50 (by simp only [List.length_append, List.length_cons, List.length_nil, icells_length, bcells_length])), trivial⟩ ?_)); clear F; intro a F
 refine s_build1 wkP F rfl rfl rfl agg50 elem30 rfl rfl (by simp only [List.length_append, List.length_cons, List.length_nil, icells_length, bcells_length]) (by decide) H ?_; clear F H; intro b364 w a H F
 replace H := H.blkOw1 (R := R_triremeref11_Node) (x := (r356, x342.2.1, x342.2.2)) (fun gg => ⟨_, _, rfl, rfl, ⟨_, _, rfl, rfl, ⟨_, _, rfl, (gg 1 _ rfl).choose_spec⟩⟩⟩)
 replace H := H.frz 0 rfl
 obtain ⟨x366, ex366, hm⟩ := ob hm
 refine s_app wkP F rfl rfl rfl rfl rfl rfl elem30 rfl ex366 H 11 0 rfl rfl ?_; clear F H; intro p365 c365 w a H F
 refine bk [0] F H rfl trivial ?_; clear F; intro a F
 replace H := H.nf 12 rfl
 refine lz (bn ?_)
 cases hm
 refine ct ?_
 exact ⟨_, rfl, p365, c365, F.sl rfl, (H.pm 12 [5, 6, 7, 8, 9, 10, 11] rfl:)⟩
 clear F H hm
 rintro a w ⟨r340, rfl, p341, c341, F, H⟩; have hm := elimL hm340; clear hm340
 refine ct (rl (bk [0, 0, 0] F H rfl trivial ?_)); clear F; intro a F
 refine lz (ct ?_); cases hm
 exact ⟨_, rfl, ⟨p341, c341, F.sl rfl, H⟩⟩
 replace hm := ifF hg314 hm
 refine ex (cx (cx ?_)); cases hm; refine ⟨_, rfl, ?_⟩; rintro rfl
 refine ch (ct ?_)
 exact ⟨_, rfl, p313, c313, F.sl rfl, (H.pm 7 [0, 1, 2, 3, 4, 6] rfl:)⟩
 clear F H hm
 rintro a w ⟨r202, rfl, p203, c203, F, H⟩; have hm := elimL hm202; clear hm202
 refine ct (sr (bk [0] F H rfl trivial ?_)); clear F; intro a F
 replace H := H.owNil rByte 5
 replace H := H.owNil rStr 9
 refine s_val wkP F rfl rfl rfl rfl (y_build F rfl rfl (cs := [.int .i64 (0), .int .i64 (0), .slice none (([] : List UInt8)).length 0, .slice none (([] : List (List UInt8))).length 0]) (by kernel_rfl)) ?_; clear F; intro a F
 refine bk [0] F H rfl trivial ?_; clear F; intro a F
 refine s_storeA wkP F rfl rfl agg37 rfl rfl rfl H 3 rfl (by simp only [List.length_append, List.length_cons, List.length_nil, icells_length, bcells_length]) (by simp only [List.length_append, List.length_cons, List.length_nil, icells_length, bcells_length]) (by intro v hv; simp only [List.mem_append, List.mem_cons, List.not_mem_nil, or_false] at hv; first | (rcases hv with h | h <;> first | (subst h; rfl) | exact bcells_flat _ _ h | exact icells_flat _ _ _ h | (rcases h with h | h <;> first | (subst h; rfl) | exact bcells_flat _ _ h | exact icells_flat _ _ _ h | (rcases h with h | h <;> first | (subst h; rfl) | exact bcells_flat _ _ h | (rcases h with h | h <;> first | (subst h; rfl) | (rcases h with h | h <;> (subst h; rfl)))))) | (subst hv; rfl)) ?_; clear H; intro w H
 replace H := H.nf 8 rfl
 refine nl (wr ?_)
 replace H := H.frz 7 rfl
 replace H := H.frz 2 rfl
 replace H := H.frz 2 rfl
 replace H := H.mkRc (R := R_api_Answer) (cs := [.int .i64 (0), .int .i64 (0), .slice none (([] : List UInt8)).length 0, .slice none (([] : List (List UInt8))).length 0]) (x := (0, 0, ([] : List UInt8), ([] : List (List UInt8)))) (fun gg => ⟨_, _, rfl, rfl, ⟨_, _, rfl, rfl, ⟨_, _, rfl, ⟨_, _, rfl, (gg 1 _ rfl).choose_spec⟩, ⟨_, _, rfl, (gg 0 _ rfl).choose_spec⟩⟩⟩⟩)
 cases hm
 refine x_resC2 F rfl rfl (⟨_, rfl, agg37.run_load (H.blk 5 rfl).row (by simp only [List.length_append, List.length_cons, List.length_nil, icells_length, bcells_length])⟩) ?_
 exact ⟨_, rfl, p203, c203, [.int .i64 (0), .int .i64 (0), .slice none (([] : List UInt8)).length 0, .slice none (([] : List (List UInt8))).length 0], rfl, (H.pm 9 [3, 0] rfl:)⟩
theorem ent40 : ∀ args w, (callFunc 40 args).run Tryz.prog w = .ok (.enter 40 args) w := enters Tryz.func40 (by kernel_rfl) rfl
theorem ent41 : ∀ args w, (callFunc 41 args).run Tryz.prog w = .ok (.enter 41 args) w := enters Tryz.func41 (by kernel_rfl) rfl
theorem ent43 : ∀ args w, (callFunc 43 args).run Tryz.prog w = .ok (.enter 43 args) w := enters Tryz.func43 (by kernel_rfl) rfl
set_option maxRecDepth 100000 in
set_option maxHeartbeats 4000000 in
theorem w_m_triremeref11_Do {x0_ : List T_triremeref11_Node} {x1_ : T_api_Op} {p1 : Option Addr} {c1 : Nat} {cs2 : List Value} {w0 w : World} {l : List HP}  {r : (List T_triremeref11_Node) × T_api_Answer} (hm : m_triremeref11_Do x0_ x1_ = some r) (H : St w0 w (HP.sl R_triremeref11_Node p1 c1 x0_ :: HP.rc R_api_Op cs2 x1_ :: l)) :
  Calls Tryz.prog 17 [.slice p1 (x0_).length c1, .agg cs2.toArray].toArray w (fun e w' => ∃ v, e = .returned v ∧ ∃ (p3 : Option Addr) (c3 : Nat) (cs4 : List Value), v = .tuple [.slice p3 (r.1).length c3, .agg cs4.toArray].toArray ∧ St w0 w' (HP.sl R_triremeref11_Node p3 c3 r.1 :: HP.rc R_api_Answer cs4 r.2 :: l)) := by
 unfold m_triremeref11_Do at hm
 refine x_enter Tryz.func17 rfl rfl rfl ?_
 intro a F
 refine sr (s_boxA wkP F rfl rfl rfl rfl rfl H ?_); clear F H; intro b5 w a H F
 refine bk [0] F H rfl trivial ?_; clear F; intro a F
 replace H := H.owNil rByte 5
 replace H := H.owNil rStr 9
 refine s_allocA wkP F rfl rfl rfl agz37 rfl H ?_; clear F H; intro b6 w a H F
 replace H := H.nf 6 rfl
 refine nl (sq (sr (bk [0] F H rfl ⟨fld25_0, trivial⟩ ?_))); clear F; intro a F
 replace H := rc_api_Op (H.pk 5 rfl); obtain ⟨p7, c8, rfl, H⟩ := H
 refine bk [4000] F H rfl ⟨rfl, plain3, trivial⟩ ?_; clear F; intro a F
 refine nl ?_
 obtain ⟨o273, eo273, hm273⟩ := ob hm; clear hm; revert eo273; intro hm
 refine x_mid (fun aa ww => ∃ r273, o273 = Sum.inl r273 ∧ Fr ⟨173, []⟩ aa [(0, .slice p1 (x0_).length c1), (3, .pointer (some ⟨b5, 0, none⟩)), (5, .pointer (some ⟨b6, 0, none⟩))] ∧ St w0 ww (HP.sl rByte p7 c8 x1_.2.2.2.2.2 :: HP.blk b6 ([.int .i64 (0), .int .i64 (0), .slice none (([] : List UInt8)).length 0, .slice none (([] : List (List UInt8))).length 0]) 37 :: HP.ow rStr 9 none 0 ([] : List (List UInt8)) :: HP.ow rByte 5 none 0 ([] : List UInt8) :: HP.blk b5 ([.int .i64 (x1_.1), .string (txb (x1_.2.1)), .string (txb (x1_.2.2.1)), .int .i64 (x1_.2.2.2.1), .int .i64 (x1_.2.2.2.2.1), .slice p7 (x1_.2.2.2.2.2).length c8]) 25 :: HP.sl R_triremeref11_Node p1 c1 x0_ :: l)) ?_ ?_
 refine bl (sq (sr (bk [0, 0] F H rfl trivial ?_))); clear F; intro a F
 refine nl ?_
 obtain ⟨r275, er275, hm275⟩ := ob hm; clear hm; revert er275; intro hm
 refine x_mid (fun aa ww => Fr ⟨173, []⟩ aa [(0, .slice p1 (x0_).length c1), (3, .pointer (some ⟨b5, 0, none⟩)), (5, .pointer (some ⟨b6, 0, none⟩)), (14, .int .i64 (x1_.1)), (19, .bool (r275))] ∧ St w0 ww (HP.sl rByte p7 c8 x1_.2.2.2.2.2 :: HP.blk b6 ([.int .i64 (0), .int .i64 (0), .slice none (([] : List UInt8)).length 0, .slice none (([] : List (List UInt8))).length 0]) 37 :: HP.ow rStr 9 none 0 ([] : List (List UInt8)) :: HP.ow rByte 5 none 0 ([] : List UInt8) :: HP.blk b5 ([.int .i64 (x1_.1), .string (txb (x1_.2.1)), .string (txb (x1_.2.2.1)), .int .i64 (x1_.2.2.2.1), .int .i64 (x1_.2.2.2.2.1), .slice p7 (x1_.2.2.2.2.2).length c8]) 25 :: HP.sl R_triremeref11_Node p1 c1 x0_ :: l)) ?_ ?_
 refine cP F rfl (fun hg276 => ?_) (fun hg276 => ?_)
 replace hm := ifT hg276 hm
 refine sk ?_
 cases hm
 refine ct ?_
 exact ⟨F.sl rfl, H⟩
 replace hm := ifF hg276 hm
 refine rl (bk [0, 0] F H rfl trivial ?_); clear F; intro a F
 refine lz ?_
 cases hm
 refine ct ?_
 exact ⟨F.sl rfl, H⟩
 clear F H hm
 rintro a w ⟨F, H⟩; have hm := hm275; clear hm275
 refine ct ?_
 obtain ⟨o407, eo407, hm407⟩ := ob hm; clear hm; revert eo407; intro hm
 refine x_mid (fun aa ww => ∃ r407, o407 = Sum.inl r407 ∧ Fr ⟨173, []⟩ aa [(0, .slice p1 (x0_).length c1), (3, .pointer (some ⟨b5, 0, none⟩)), (5, .pointer (some ⟨b6, 0, none⟩))] ∧ St w0 ww (HP.sl rByte p7 c8 x1_.2.2.2.2.2 :: HP.blk b6 ([.int .i64 (0), .int .i64 (0), .slice none (([] : List UInt8)).length 0, .slice none (([] : List (List UInt8))).length 0]) 37 :: HP.ow rStr 9 none 0 ([] : List (List UInt8)) :: HP.ow rByte 5 none 0 ([] : List UInt8) :: HP.blk b5 ([.int .i64 (x1_.1), .string (txb (x1_.2.1)), .string (txb (x1_.2.2.1)), .int .i64 (x1_.2.2.2.1), .int .i64 (x1_.2.2.2.2.1), .slice p7 (x1_.2.2.2.2.2).length c8]) 25 :: HP.sl R_triremeref11_Node p1 c1 x0_ :: l)) ?_ ?_
 refine cB F rfl (fun hg408 => ?_) (fun hg408 => ?_)
 replace hm := ifT hg408 hm
 refine sr (bk [0, 1, 4001] F H rfl ⟨fld25_1, rfl, plain9, trivial⟩ ?_); clear F; intro a F
 obtain ⟨x409, ex409, hm⟩ := ob hm
 refine sc wkP F rfl ent38 (w_m_triremeref11_Room ex409 (H.pm 6 [5, 0, 1, 2, 3, 4, 5] rfl:):) ?_; clear F H; rintro _ w a ⟨rfl, H⟩ F
 refine bk [0] F H rfl trivial ?_; clear F; intro a F
 replace H := H.nf 6 rfl
 refine nl (sq (sr (bk [0, 0] F H rfl trivial ?_))); clear F; intro a F
 refine nl (cN F rfl (fun hg410 => ?_) (fun hg410 => ?_))
 replace hm := ifF hg410 hm
 refine sr (bk [0, 0] F H rfl trivial ?_); clear F; intro a F
 obtain ⟨x411, ex411, hm⟩ := ob hm
 refine sc wkP F rfl ent39 (w_m_triremeref11_no ex411 (H.pm 6 [5, 0, 1, 2, 3, 4, 5] rfl:):) ?_; clear F H; rintro _ w a ⟨p412, c412, cs413, rfl, H⟩ F
 refine bk [0, 0, 0] F H rfl trivial ?_; clear F; intro a F
 refine s_storeA wkP F rfl rfl agg37 rfl rfl rfl H 3 rfl (H.rcLen 1 rfl) (by simp only [List.length_append, List.length_cons, List.length_nil, icells_length, bcells_length]) (H.rcFlat 1 rfl) ?_; clear H; intro w H
 replace H := H.nf 8 rfl
 refine nl (wr (tr (tr ?_)))
 cases hm
 replace hm := elimR hm407
 refine br (tr ?_)
 cases hm
 replace hm := elimR hm273
 refine tr ?_
 cases hm
 refine x_resC2 F rfl rfl (⟨_, rfl, agg37.run_load (H.blk 3 rfl).row (H.rcLen 1 rfl)⟩) ?_
 exact ⟨_, rfl, p412, c412, cs413, rfl, (H.pm 8 [0, 1] rfl:)⟩
 replace hm := ifT hg410 hm
 refine sk (ct (sq ?_))
 obtain ⟨r431, er431, hm431⟩ := ob hm; clear hm; revert er431; intro hm
 refine x_mid (fun aa ww => ∃ (p432 : Option Addr) (c432 : Nat), Fr ⟨173, []⟩ aa [(4, .slice p432 (r431).length c432), (5, .pointer (some ⟨b6, 0, none⟩))] ∧ St w0 ww (HP.sl rByte p7 c8 x1_.2.2.2.2.2 :: HP.blk b6 ([.int .i64 (0), .int .i64 (0), .slice none (([] : List UInt8)).length 0, .slice none (([] : List (List UInt8))).length 0]) 37 :: HP.ow rStr 9 none 0 ([] : List (List UInt8)) :: HP.ow rByte 5 none 0 ([] : List UInt8) :: HP.blk b5 ([.int .i64 (x1_.1), .string (txb (x1_.2.1)), .string (txb (x1_.2.2.1)), .int .i64 (x1_.2.2.2.1), .int .i64 (x1_.2.2.2.2.1), .slice p7 (x1_.2.2.2.2.2).length c8]) 25 :: HP.ow R_triremeref11_Node 50 p432 c432 r431 :: l)) ?_ ?_
 replace H := H.owNil rByte 5
 replace H := H.owNil rByte 5
 replace H := H.owNil rStr 9
 refine mix_region [0, 2, 9, 10, 13] [13] (.step 0 1 (.step 0 3 (.step 0 4 (.step 0 5 (.step 0 6 (.step 0 7 (.step 0 8 (.step 0 11 (.fork 0 (.fork 2 (.step 2 9 (.step 2 10 (.step 0 12 (.step 3 13 .done)))) 9 (.step 2 2 (.step 2 10 (.step 0 12 (.step 3 13 .done))))) 9 (.step 2 0 (.step 2 2 (.step 2 10 (.step 0 12 (.step 3 13 .done)))))))))))))) (fun u => ∃ ls, St w0 u (HP.blk b5 ([.int .i64 (x1_.1), .string (txb (x1_.2.1)), .string (txb (x1_.2.2.1)), .int .i64 (x1_.2.2.2.1), .int .i64 (x1_.2.2.2.2.1), .slice p7 (x1_.2.2.2.2.2).length c8]) 25 :: ls)) (by kernel_rfl) (by kernel_rfl) ⟨_, (H.drew.pm 9 [7, 0, 1, 2, 3, 4, 5, 6, 8] rfl:)⟩ ?_
 replace H := H.drew
 generalize w.drew = w at H ⊢
 refine mbk [0, 1] F H rfl ⟨fld25_1, trivial⟩ ?_; clear F; intro a F
 refine m_pure F rfl rfl rfl rfl (fun u hu => y_load1 F plain9 rfl rfl (row_at (v := .string (txb (x1_.2.1))) ((hu.choose_spec.blk 0 rfl).row) rfl)) ?_; clear F; intro a F
 refine mbk [0] F H rfl ⟨fld25_0, trivial⟩ ?_; clear F; intro a F
 refine m_pure F rfl rfl rfl rfl (fun u hu => y_load1 F plain3 rfl rfl (row_at (v := .int .i64 (x1_.1)) ((hu.choose_spec.blk 0 rfl).row) rfl)) ?_; clear F; intro a F
 refine mbk [0] F H rfl trivial ?_; clear F; intro a F
 refine m_pure F rfl rfl rfl rfl (fun u hu => y_build F rfl rfl (cs := [.string (txb (x1_.2.1)), .bool (decide (x1_.1 = 2)), .slice none (([] : List UInt8)).length 0]) (by kernel_rfl)) ?_; clear F; intro a F
 refine m_pure F rfl rfl rfl rfl (fun u hu => y_build F rfl rfl (cs := [.int .i64 (0), .int .i64 (0), .slice none (([] : List UInt8)).length 0, .slice none (([] : List (List UInt8))).length 0]) (by kernel_rfl)) ?_; clear F; intro a F
 refine m_fork rfl rfl rfl rfl ?_ ?_
 refine m_heavy rfl rfl ?_
 refine s_build0O (R := R_triremeref11_Node) wkP F rfl rfl rfl elem30 rfl H ?_; clear F H; intro b433 w a H F
 refine lz ?_; refine ct ⟨⟨_, (H.pm 10 [8, 0, 1, 2, 3, 4, 5, 6, 7, 9] rfl:)⟩, ?_⟩
 refine m_fork rfl rfl rfl rfl ?_ ?_
 refine m_heavy rfl rfl ?_
 obtain ⟨x435, ex435, hm⟩ := ob hm
 refine s_app wkP F rfl rfl rfl rfl rfl rfl elem30 rfl ex435 H 0 9 rfl rfl ?_; clear F H; intro p434 c434 w a H F
 refine lz ?_; refine ct ⟨⟨_, (H.pm 10 [8, 0, 1, 2, 3, 4, 5, 6, 7, 9] rfl:)⟩, ?_⟩
 refine m_heavy rfl rfl ?_
 replace H := H.frz 3 rfl
 refine s_build1 wkP F rfl rfl rfl agg50 elem30 rfl rfl (by simp only [List.length_append, List.length_cons, List.length_nil, icells_length, bcells_length]) (by decide) H ?_; clear F H; intro b436 w a H F
 replace H := H.blkOw1 (R := R_triremeref11_Node) (x := (x1_.2.1, decide (x1_.1 = 2), ([] : List UInt8))) (fun gg => ⟨_, _, rfl, rfl, ⟨_, _, rfl, rfl, ⟨_, _, rfl, (gg 1 _ rfl).choose_spec⟩⟩⟩)
 refine lz ?_; refine ct ⟨⟨_, (H.pm 11 [9, 0, 1, 2, 3, 4, 5, 6, 7, 8, 10] rfl:)⟩, ?_⟩
 refine m_heavy rfl rfl ?_
 replace H := H.frz 0 rfl
 obtain ⟨x438, ex438, hm⟩ := ob hm
 refine s_app wkP F rfl rfl rfl rfl rfl rfl elem30 rfl ex438 H 2 0 rfl rfl ?_; clear F H; intro p437 c437 w a H F
 refine lz ?_; refine ct ⟨⟨_, (H.pm 11 [9, 0, 1, 2, 3, 4, 5, 6, 7, 8, 10] rfl:)⟩, ?_⟩
 refine mbk [0] F H rfl trivial ?_; clear F; intro a F
 refine m_last rfl rfl ?_
 refine s_storeA wkP F rfl rfl agg37 rfl rfl rfl H 6 rfl (by simp only [List.length_append, List.length_cons, List.length_nil, icells_length, bcells_length]) (by simp only [List.length_append, List.length_cons, List.length_nil, icells_length, bcells_length]) (by intro v hv; simp only [List.mem_append, List.mem_cons, List.not_mem_nil, or_false] at hv; first | (rcases hv with h | h <;> first | (subst h; rfl) | exact bcells_flat _ _ h | exact icells_flat _ _ _ h | (rcases h with h | h <;> first | (subst h; rfl) | exact bcells_flat _ _ h | exact icells_flat _ _ _ h | (rcases h with h | h <;> first | (subst h; rfl) | exact bcells_flat _ _ h | (rcases h with h | h <;> first | (subst h; rfl) | (rcases h with h | h <;> (subst h; rfl)))))) | (subst hv; rfl)) ?_; clear H; intro w H
 refine lz ?_; refine ct ?_
 refine m_nil ?_
 cases hm
 refine ct ?_
 exact ⟨p437, c437, F.sl rfl, (H.pm 11 [5, 6, 7, 8, 9, 2] rfl:)⟩
 refine m_heavy rfl rfl ?_
 replace H := H.frz 3 rfl
 refine s_build1 wkP F rfl rfl rfl agg50 elem30 rfl rfl (by simp only [List.length_append, List.length_cons, List.length_nil, icells_length, bcells_length]) (by decide) H ?_; clear F H; intro b439 w a H F
 replace H := H.blkOw1 (R := R_triremeref11_Node) (x := (x1_.2.1, decide (x1_.1 = 2), ([] : List UInt8))) (fun gg => ⟨_, _, rfl, rfl, ⟨_, _, rfl, rfl, ⟨_, _, rfl, (gg 1 _ rfl).choose_spec⟩⟩⟩)
 refine lz ?_; refine ct ⟨⟨_, (H.pm 11 [9, 0, 1, 2, 3, 4, 5, 6, 7, 8, 10] rfl:)⟩, ?_⟩
 refine m_heavy rfl rfl ?_
 obtain ⟨x441, ex441, hm⟩ := ob hm
 refine s_app wkP F rfl rfl rfl rfl rfl rfl elem30 rfl ex441 H 2 10 rfl rfl ?_; clear F H; intro p440 c440 w a H F
 refine lz ?_; refine ct ⟨⟨_, (H.pm 11 [9, 0, 1, 2, 3, 4, 5, 6, 7, 8, 10] rfl:)⟩, ?_⟩
 refine m_heavy rfl rfl ?_
 replace H := H.frz 0 rfl
 obtain ⟨x443, ex443, hm⟩ := ob hm
 refine s_app wkP F rfl rfl rfl rfl rfl rfl elem30 rfl ex443 H 2 0 rfl rfl ?_; clear F H; intro p442 c442 w a H F
 refine lz ?_; refine ct ⟨⟨_, (H.pm 11 [9, 0, 1, 2, 3, 4, 5, 6, 7, 8, 10] rfl:)⟩, ?_⟩
 refine mbk [0] F H rfl trivial ?_; clear F; intro a F
 refine m_last rfl rfl ?_
 refine s_storeA wkP F rfl rfl agg37 rfl rfl rfl H 6 rfl (by simp only [List.length_append, List.length_cons, List.length_nil, icells_length, bcells_length]) (by simp only [List.length_append, List.length_cons, List.length_nil, icells_length, bcells_length]) (by intro v hv; simp only [List.mem_append, List.mem_cons, List.not_mem_nil, or_false] at hv; first | (rcases hv with h | h <;> first | (subst h; rfl) | exact bcells_flat _ _ h | exact icells_flat _ _ _ h | (rcases h with h | h <;> first | (subst h; rfl) | exact bcells_flat _ _ h | exact icells_flat _ _ _ h | (rcases h with h | h <;> first | (subst h; rfl) | exact bcells_flat _ _ h | (rcases h with h | h <;> first | (subst h; rfl) | (rcases h with h | h <;> (subst h; rfl)))))) | (subst hv; rfl)) ?_; clear H; intro w H
 refine lz ?_; refine ct ?_
 refine m_nil ?_
 cases hm
 refine ct ?_
 exact ⟨p442, c442, F.sl rfl, (H.pm 11 [5, 6, 7, 8, 9, 2] rfl:)⟩
 refine m_heavy rfl rfl ?_
 replace H := H.frz 2 rfl
 refine s_build1 wkP F rfl rfl rfl agg50 elem30 rfl rfl (by simp only [List.length_append, List.length_cons, List.length_nil, icells_length, bcells_length]) (by decide) H ?_; clear F H; intro b444 w a H F
 replace H := H.blkOw1 (R := R_triremeref11_Node) (x := (x1_.2.1, decide (x1_.1 = 2), ([] : List UInt8))) (fun gg => ⟨_, _, rfl, rfl, ⟨_, _, rfl, rfl, ⟨_, _, rfl, (gg 1 _ rfl).choose_spec⟩⟩⟩)
 refine lz ?_; refine ct ⟨⟨_, (H.pm 10 [8, 0, 1, 2, 3, 4, 5, 6, 7, 9] rfl:)⟩, ?_⟩
 refine m_heavy rfl rfl ?_
 refine s_build0O (R := R_triremeref11_Node) wkP F rfl rfl rfl elem30 rfl H ?_; clear F H; intro b445 w a H F
 refine lz ?_; refine ct ⟨⟨_, (H.pm 11 [9, 0, 1, 2, 3, 4, 5, 6, 7, 8, 10] rfl:)⟩, ?_⟩
 refine m_heavy rfl rfl ?_
 obtain ⟨x447, ex447, hm⟩ := ob hm
 refine s_app wkP F rfl rfl rfl rfl rfl rfl elem30 rfl ex447 H 0 10 rfl rfl ?_; clear F H; intro p446 c446 w a H F
 refine lz ?_; refine ct ⟨⟨_, (H.pm 11 [9, 0, 1, 2, 3, 4, 5, 6, 7, 8, 10] rfl:)⟩, ?_⟩
 refine m_heavy rfl rfl ?_
 replace H := H.frz 1 rfl
 obtain ⟨x449, ex449, hm⟩ := ob hm
 refine s_app wkP F rfl rfl rfl rfl rfl rfl elem30 rfl ex449 H 1 0 rfl rfl ?_; clear F H; intro p448 c448 w a H F
 refine lz ?_; refine ct ⟨⟨_, (H.pm 11 [9, 0, 1, 2, 3, 4, 5, 6, 7, 8, 10] rfl:)⟩, ?_⟩
 refine mbk [0] F H rfl trivial ?_; clear F; intro a F
 refine m_last rfl rfl ?_
 refine s_storeA wkP F rfl rfl agg37 rfl rfl rfl H 6 rfl (by simp only [List.length_append, List.length_cons, List.length_nil, icells_length, bcells_length]) (by simp only [List.length_append, List.length_cons, List.length_nil, icells_length, bcells_length]) (by intro v hv; simp only [List.mem_append, List.mem_cons, List.not_mem_nil, or_false] at hv; first | (rcases hv with h | h <;> first | (subst h; rfl) | exact bcells_flat _ _ h | exact icells_flat _ _ _ h | (rcases h with h | h <;> first | (subst h; rfl) | exact bcells_flat _ _ h | exact icells_flat _ _ _ h | (rcases h with h | h <;> first | (subst h; rfl) | exact bcells_flat _ _ h | (rcases h with h | h <;> first | (subst h; rfl) | (rcases h with h | h <;> (subst h; rfl)))))) | (subst hv; rfl)) ?_; clear H; intro w H
 refine lz ?_; refine ct ?_
 refine m_nil ?_
 cases hm
 refine ct ?_
 exact ⟨p448, c448, F.sl rfl, (H.pm 11 [5, 6, 7, 8, 9, 1] rfl:)⟩
 clear F H hm
 rintro a w ⟨p432, c432, F, H⟩; have hm := hm431; clear hm431
 refine ct (wr (tr ?_))
 cases hm
 replace hm := elimR hm407
 refine br (tr ?_)
 cases hm
 replace hm := elimR hm273
 refine tr ?_
 replace H := H.frz 5 rfl
 replace H := H.frz 4 rfl
 replace H := H.frz 4 rfl
 replace H := H.mkRc (R := R_api_Answer) (cs := [.int .i64 (0), .int .i64 (0), .slice none (([] : List UInt8)).length 0, .slice none (([] : List (List UInt8))).length 0]) (x := (0, 0, ([] : List UInt8), ([] : List (List UInt8)))) (fun gg => ⟨_, _, rfl, rfl, ⟨_, _, rfl, rfl, ⟨_, _, rfl, ⟨_, _, rfl, (gg 1 _ rfl).choose_spec⟩, ⟨_, _, rfl, (gg 0 _ rfl).choose_spec⟩⟩⟩⟩)
 cases hm
 refine x_resC2 F rfl rfl (⟨_, rfl, agg37.run_load (H.blk 5 rfl).row (by simp only [List.length_append, List.length_cons, List.length_nil, icells_length, bcells_length])⟩) ?_
 exact ⟨_, rfl, p432, c432, [.int .i64 (0), .int .i64 (0), .slice none (([] : List UInt8)).length 0, .slice none (([] : List (List UInt8))).length 0], rfl, (H.pm 7 [3, 0] rfl:)⟩
 replace hm := ifF (nT hg408) hm
 refine sq (sr (bk [0, 0] F H rfl trivial ?_)); clear F; intro a F
 refine nl ?_
 obtain ⟨r454, er454, hm454⟩ := ob hm; clear hm; revert er454; intro hm
 refine x_mid (fun aa ww => Fr ⟨173, []⟩ aa [(0, .slice p1 (x0_).length c1), (3, .pointer (some ⟨b5, 0, none⟩)), (5, .pointer (some ⟨b6, 0, none⟩)), (14, .int .i64 (x1_.1)), (45, .bool (r454))] ∧ St w0 ww (HP.sl rByte p7 c8 x1_.2.2.2.2.2 :: HP.blk b6 ([.int .i64 (0), .int .i64 (0), .slice none (([] : List UInt8)).length 0, .slice none (([] : List (List UInt8))).length 0]) 37 :: HP.ow rStr 9 none 0 ([] : List (List UInt8)) :: HP.ow rByte 5 none 0 ([] : List UInt8) :: HP.blk b5 ([.int .i64 (x1_.1), .string (txb (x1_.2.1)), .string (txb (x1_.2.2.1)), .int .i64 (x1_.2.2.2.1), .int .i64 (x1_.2.2.2.2.1), .slice p7 (x1_.2.2.2.2.2).length c8]) 25 :: HP.sl R_triremeref11_Node p1 c1 x0_ :: l)) ?_ ?_
 refine cP F rfl (fun hg455 => ?_) (fun hg455 => ?_)
 replace hm := ifT hg455 hm
 refine sk ?_
 cases hm
 refine ct ?_
 exact ⟨F.sl rfl, H⟩
 replace hm := ifF hg455 hm
 refine sr (bk [0, 0] F H rfl trivial ?_); clear F; intro a F
 refine nl ?_
 obtain ⟨r457, er457, hm457⟩ := ob hm; clear hm; revert er457; intro hm
 refine x_mid (fun aa ww => Fr ⟨173, []⟩ aa [(0, .slice p1 (x0_).length c1), (3, .pointer (some ⟨b5, 0, none⟩)), (5, .pointer (some ⟨b6, 0, none⟩)), (14, .int .i64 (x1_.1)), (45, .bool (r457))] ∧ St w0 ww (HP.sl rByte p7 c8 x1_.2.2.2.2.2 :: HP.blk b6 ([.int .i64 (0), .int .i64 (0), .slice none (([] : List UInt8)).length 0, .slice none (([] : List (List UInt8))).length 0]) 37 :: HP.ow rStr 9 none 0 ([] : List (List UInt8)) :: HP.ow rByte 5 none 0 ([] : List UInt8) :: HP.blk b5 ([.int .i64 (x1_.1), .string (txb (x1_.2.1)), .string (txb (x1_.2.2.1)), .int .i64 (x1_.2.2.2.1), .int .i64 (x1_.2.2.2.2.1), .slice p7 (x1_.2.2.2.2.2).length c8]) 25 :: HP.sl R_triremeref11_Node p1 c1 x0_ :: l)) ?_ ?_
 refine cP F rfl (fun hg458 => ?_) (fun hg458 => ?_)
 replace hm := ifT hg458 hm
 refine sk ?_
 cases hm
 refine ct ?_
 exact ⟨F.sl rfl, H⟩
 replace hm := ifF hg458 hm
 refine rl (bk [0, 0] F H rfl trivial ?_); clear F; intro a F
 refine lz ?_
 cases hm
 refine ct ?_
 exact ⟨F.sl rfl, H⟩
 clear F H hm
 rintro a w ⟨F, H⟩; have hm := hm457; clear hm457
 cases hm
 refine ct ?_
 exact ⟨F.sl rfl, H⟩
 clear F H hm
 rintro a w ⟨F, H⟩; have hm := hm454; clear hm454
 refine ct ?_
 obtain ⟨o498, eo498, hm498⟩ := ob hm; clear hm; revert eo498; intro hm
 refine x_mid (fun aa ww => ∃ r498, o498 = Sum.inl r498 ∧ Fr ⟨173, []⟩ aa [(0, .slice p1 (x0_).length c1), (3, .pointer (some ⟨b5, 0, none⟩)), (5, .pointer (some ⟨b6, 0, none⟩))] ∧ St w0 ww (HP.sl rByte p7 c8 x1_.2.2.2.2.2 :: HP.blk b6 ([.int .i64 (0), .int .i64 (0), .slice none (([] : List UInt8)).length 0, .slice none (([] : List (List UInt8))).length 0]) 37 :: HP.ow rStr 9 none 0 ([] : List (List UInt8)) :: HP.ow rByte 5 none 0 ([] : List UInt8) :: HP.blk b5 ([.int .i64 (x1_.1), .string (txb (x1_.2.1)), .string (txb (x1_.2.2.1)), .int .i64 (x1_.2.2.2.1), .int .i64 (x1_.2.2.2.2.1), .slice p7 (x1_.2.2.2.2.2).length c8]) 25 :: HP.sl R_triremeref11_Node p1 c1 x0_ :: l)) ?_ ?_
 refine cB F rfl (fun hg499 => ?_) (fun hg499 => ?_)
 replace hm := ifT hg499 hm
 refine sr (bk [0, 4999] F H rfl ⟨rfl, (aggn agg25 (by simp only [List.length_append, List.length_cons, List.length_nil, icells_length, bcells_length])), trivial⟩ ?_); clear F; intro a F
 replace H := H.mkRc (R := R_api_Op) (cs := [.int .i64 (x1_.1), .string (txb (x1_.2.1)), .string (txb (x1_.2.2.1)), .int .i64 (x1_.2.2.2.1), .int .i64 (x1_.2.2.2.2.1), .slice p7 (x1_.2.2.2.2.2).length c8]) (x := (x1_.1, x1_.2.1, x1_.2.2.1, x1_.2.2.2.1, x1_.2.2.2.2.1, x1_.2.2.2.2.2)) (fun gg => ⟨_, _, rfl, rfl, ⟨_, _, rfl, rfl, ⟨_, _, rfl, rfl, ⟨_, _, rfl, rfl, ⟨_, _, rfl, rfl, ⟨_, _, rfl, (gg 0 _ rfl).choose_spec⟩⟩⟩⟩⟩⟩)
 obtain ⟨x500, ex500, hm⟩ := ob hm
 refine sc wkP F rfl ent40 (w_rChange ex500 (H.pm 7 [6, 0, 0, 1, 2, 3, 4, 5, 6] rfl:):) ?_; clear F H; rintro _ w a ⟨p501, c501, cs502, rfl, H⟩ F
 refine bk [0, 0, 0] F H rfl trivial ?_; clear F; intro a F
 refine s_storeA wkP F rfl rfl agg37 rfl rfl rfl H 4 rfl (H.rcLen 1 rfl) (by simp only [List.length_append, List.length_cons, List.length_nil, icells_length, bcells_length]) (H.rcFlat 1 rfl) ?_; clear H; intro w H
 replace H := H.nf 9 rfl
 refine nl (wr (tr ?_))
 cases hm
 replace hm := elimR hm498
 refine tr ?_
 cases hm
 replace hm := elimR hm407
 refine br (tr ?_)
 cases hm
 replace hm := elimR hm273
 refine tr ?_
 cases hm
 refine x_resC2 F rfl rfl (⟨_, rfl, agg37.run_load (H.blk 4 rfl).row (H.rcLen 1 rfl)⟩) ?_
 exact ⟨_, rfl, p501, c501, cs502, rfl, (H.pm 9 [0, 1] rfl:)⟩
 replace hm := ifF (nT hg499) hm
 refine sr (bk [0, 0] F H rfl trivial ?_); clear F; intro a F
 refine nl ?_
 obtain ⟨o520, eo520, hm520⟩ := ob hm; clear hm; revert eo520; intro hm
 refine x_mid (fun aa ww => ∃ r520, o520 = Sum.inl r520 ∧ Fr ⟨173, []⟩ aa [(0, .slice p1 (x0_).length c1), (3, .pointer (some ⟨b5, 0, none⟩)), (5, .pointer (some ⟨b6, 0, none⟩))] ∧ St w0 ww (HP.sl rByte p7 c8 x1_.2.2.2.2.2 :: HP.blk b6 ([.int .i64 (0), .int .i64 (0), .slice none (([] : List UInt8)).length 0, .slice none (([] : List (List UInt8))).length 0]) 37 :: HP.ow rStr 9 none 0 ([] : List (List UInt8)) :: HP.ow rByte 5 none 0 ([] : List UInt8) :: HP.blk b5 ([.int .i64 (x1_.1), .string (txb (x1_.2.1)), .string (txb (x1_.2.2.1)), .int .i64 (x1_.2.2.2.1), .int .i64 (x1_.2.2.2.2.1), .slice p7 (x1_.2.2.2.2.2).length c8]) 25 :: HP.sl R_triremeref11_Node p1 c1 x0_ :: l)) ?_ ?_
 refine cP F rfl (fun hg521 => ?_) (fun hg521 => ?_)
 replace hm := ifT hg521 hm
 refine sr (bk [0, 4999] F H rfl ⟨rfl, (aggn agg25 (by simp only [List.length_append, List.length_cons, List.length_nil, icells_length, bcells_length])), trivial⟩ ?_); clear F; intro a F
 replace H := H.mkRc (R := R_api_Op) (cs := [.int .i64 (x1_.1), .string (txb (x1_.2.1)), .string (txb (x1_.2.2.1)), .int .i64 (x1_.2.2.2.1), .int .i64 (x1_.2.2.2.2.1), .slice p7 (x1_.2.2.2.2.2).length c8]) (x := (x1_.1, x1_.2.1, x1_.2.2.1, x1_.2.2.2.1, x1_.2.2.2.2.1, x1_.2.2.2.2.2)) (fun gg => ⟨_, _, rfl, rfl, ⟨_, _, rfl, rfl, ⟨_, _, rfl, rfl, ⟨_, _, rfl, rfl, ⟨_, _, rfl, rfl, ⟨_, _, rfl, (gg 0 _ rfl).choose_spec⟩⟩⟩⟩⟩⟩)
 obtain ⟨x522, ex522, hm⟩ := ob hm
 refine sc wkP F rfl ent41 (w_m_triremeref11_rename ex522 (H.pm 7 [6, 0, 0, 1, 2, 3, 4, 5, 6] rfl:):) ?_; clear F H; rintro _ w a ⟨p523, c523, cs524, rfl, H⟩ F
 refine bk [0, 0, 0] F H rfl trivial ?_; clear F; intro a F
 refine s_storeA wkP F rfl rfl agg37 rfl rfl rfl H 4 rfl (H.rcLen 1 rfl) (by simp only [List.length_append, List.length_cons, List.length_nil, icells_length, bcells_length]) (H.rcFlat 1 rfl) ?_; clear H; intro w H
 replace H := H.nf 9 rfl
 refine nl (wr (tr ?_))
 cases hm
 replace hm := elimR hm520
 refine tr ?_
 cases hm
 replace hm := elimR hm498
 refine tr ?_
 cases hm
 replace hm := elimR hm407
 refine br (tr ?_)
 cases hm
 replace hm := elimR hm273
 refine tr ?_
 cases hm
 refine x_resC2 F rfl rfl (⟨_, rfl, agg37.run_load (H.blk 4 rfl).row (H.rcLen 1 rfl)⟩) ?_
 exact ⟨_, rfl, p523, c523, cs524, rfl, (H.pm 9 [0, 1] rfl:)⟩
 replace hm := ifF hg521 hm
 refine sq (sr (bk [0, 0] F H rfl trivial ?_)); clear F; intro a F
 refine nl ?_
 obtain ⟨r529, er529, hm529⟩ := ob hm; clear hm; revert er529; intro hm
 refine x_mid (fun aa ww => Fr ⟨173, []⟩ aa [(0, .slice p1 (x0_).length c1), (3, .pointer (some ⟨b5, 0, none⟩)), (5, .pointer (some ⟨b6, 0, none⟩)), (61, .bool (r529))] ∧ St w0 ww (HP.sl rByte p7 c8 x1_.2.2.2.2.2 :: HP.blk b6 ([.int .i64 (0), .int .i64 (0), .slice none (([] : List UInt8)).length 0, .slice none (([] : List (List UInt8))).length 0]) 37 :: HP.ow rStr 9 none 0 ([] : List (List UInt8)) :: HP.ow rByte 5 none 0 ([] : List UInt8) :: HP.blk b5 ([.int .i64 (x1_.1), .string (txb (x1_.2.1)), .string (txb (x1_.2.2.1)), .int .i64 (x1_.2.2.2.1), .int .i64 (x1_.2.2.2.2.1), .slice p7 (x1_.2.2.2.2.2).length c8]) 25 :: HP.sl R_triremeref11_Node p1 c1 x0_ :: l)) ?_ ?_
 refine cP F rfl (fun hg530 => ?_) (fun hg530 => ?_)
 replace hm := ifT hg530 hm
 refine sk ?_
 cases hm
 refine ct ?_
 exact ⟨F.sl rfl, H⟩
 replace hm := ifF hg530 hm
 refine sr (bk [0, 0] F H rfl trivial ?_); clear F; intro a F
 refine nl ?_
 obtain ⟨r532, er532, hm532⟩ := ob hm; clear hm; revert er532; intro hm
 refine x_mid (fun aa ww => Fr ⟨173, []⟩ aa [(0, .slice p1 (x0_).length c1), (3, .pointer (some ⟨b5, 0, none⟩)), (5, .pointer (some ⟨b6, 0, none⟩)), (61, .bool (r532))] ∧ St w0 ww (HP.sl rByte p7 c8 x1_.2.2.2.2.2 :: HP.blk b6 ([.int .i64 (0), .int .i64 (0), .slice none (([] : List UInt8)).length 0, .slice none (([] : List (List UInt8))).length 0]) 37 :: HP.ow rStr 9 none 0 ([] : List (List UInt8)) :: HP.ow rByte 5 none 0 ([] : List UInt8) :: HP.blk b5 ([.int .i64 (x1_.1), .string (txb (x1_.2.1)), .string (txb (x1_.2.2.1)), .int .i64 (x1_.2.2.2.1), .int .i64 (x1_.2.2.2.2.1), .slice p7 (x1_.2.2.2.2.2).length c8]) 25 :: HP.sl R_triremeref11_Node p1 c1 x0_ :: l)) ?_ ?_
 refine cP F rfl (fun hg533 => ?_) (fun hg533 => ?_)
 replace hm := ifT hg533 hm
 refine sk ?_
 cases hm
 refine ct ?_
 exact ⟨F.sl rfl, H⟩
 replace hm := ifF hg533 hm
 refine rl (bk [0, 0] F H rfl trivial ?_); clear F; intro a F
 refine lz ?_
 cases hm
 refine ct ?_
 exact ⟨F.sl rfl, H⟩
 clear F H hm
 rintro a w ⟨F, H⟩; have hm := hm532; clear hm532
 cases hm
 refine ct ?_
 exact ⟨F.sl rfl, H⟩
 clear F H hm
 rintro a w ⟨F, H⟩; have hm := hm529; clear hm529
 refine ct (cB F rfl (fun hg534 => ?_) (fun hg534 => ?_))
 replace hm := ifT hg534 hm
 refine sk ?_
 cases hm
 refine ct ?_
 exact ⟨_, rfl, F.sl rfl, H⟩
 replace hm := ifF (nT hg534) hm
 refine sr (bk [0] F H rfl trivial ?_); clear F; intro a F
 obtain ⟨x535, ex535, hm⟩ := ob hm
 refine sc wkP F rfl ent39 (w_m_triremeref11_no ex535 (H.pm 6 [5, 0, 1, 2, 3, 4, 5] rfl:):) ?_; clear F H; rintro _ w a ⟨p536, c536, cs537, rfl, H⟩ F
 refine bk [0, 0, 0] F H rfl trivial ?_; clear F; intro a F
 refine s_storeA wkP F rfl rfl agg37 rfl rfl rfl H 3 rfl (H.rcLen 1 rfl) (by simp only [List.length_append, List.length_cons, List.length_nil, icells_length, bcells_length]) (H.rcFlat 1 rfl) ?_; clear H; intro w H
 replace H := H.nf 8 rfl
 refine nl (wr (tr ?_))
 cases hm
 replace hm := elimR hm520
 refine tr ?_
 cases hm
 replace hm := elimR hm498
 refine tr ?_
 cases hm
 replace hm := elimR hm407
 refine br (tr ?_)
 cases hm
 replace hm := elimR hm273
 refine tr ?_
 cases hm
 refine x_resC2 F rfl rfl (⟨_, rfl, agg37.run_load (H.blk 3 rfl).row (H.rcLen 1 rfl)⟩) ?_
 exact ⟨_, rfl, p536, c536, cs537, rfl, (H.pm 8 [0, 1] rfl:)⟩
 clear F H hm
 rintro a w ⟨r520, rfl, F, H⟩; have hm := elimL hm520; clear hm520
 cases hm
 refine ct ?_
 exact ⟨_, rfl, F.sl rfl, H⟩
 clear F H hm
 rintro a w ⟨r498, rfl, F, H⟩; have hm := elimL hm498; clear hm498
 cases hm
 refine ct ?_
 exact ⟨_, rfl, F.sl rfl, H⟩
 clear F H hm
 rintro a w ⟨r407, rfl, F, H⟩; have hm := elimL hm407; clear hm407
 refine bn ?_
 cases hm
 refine ct ?_
 exact ⟨_, rfl, F.sl rfl, H⟩
 clear F H hm
 rintro a w ⟨r273, rfl, F, H⟩; have hm := elimL hm273; clear hm273
 refine ct (sr (bk [0, 1, 4001] F H rfl ⟨fld25_1, rfl, plain9, trivial⟩ ?_)); clear F; intro a F
 obtain ⟨x538, ex538, hm⟩ := ob hm
 refine sc wkP F rfl ent42 (w_m_triremeref11_Look ex538 (H.pm 6 [5, 0, 1, 2, 3, 4, 5] rfl:):) ?_; clear F H; rintro _ w a ⟨rfl, H⟩ F
 refine bk (List.replicate 5 0) F H rfl trivial ?_; clear F; intro a F
 replace H := H.nf 6 rfl
 refine nl (sq (sr (bk [0, 0] F H rfl trivial ?_))); clear F; intro a F
 refine nl (cN F rfl (fun hg539 => ?_) (fun hg539 => ?_))
 replace hm := ifF hg539 hm
 refine sr (bk [0, 0] F H rfl trivial ?_); clear F; intro a F
 obtain ⟨x540, ex540, hm⟩ := ob hm
 refine sc wkP F rfl ent39 (w_m_triremeref11_no ex540 (H.pm 6 [5, 0, 1, 2, 3, 4, 5] rfl:):) ?_; clear F H; rintro _ w a ⟨p541, c541, cs542, rfl, H⟩ F
 refine bk [0, 0, 0] F H rfl trivial ?_; clear F; intro a F
 refine s_storeA wkP F rfl rfl agg37 rfl rfl rfl H 3 rfl (H.rcLen 1 rfl) (by simp only [List.length_append, List.length_cons, List.length_nil, icells_length, bcells_length]) (H.rcFlat 1 rfl) ?_; clear H; intro w H
 replace H := H.nf 8 rfl
 refine nl (wr (tr ?_))
 cases hm
 refine x_resC2 F rfl rfl (⟨_, rfl, agg37.run_load (H.blk 3 rfl).row (H.rcLen 1 rfl)⟩) ?_
 exact ⟨_, rfl, p541, c541, cs542, rfl, (H.pm 8 [0, 1] rfl:)⟩
 replace hm := ifT hg539 hm
 refine sk (ct (sq ?_))
 obtain ⟨r552, er552, hm552⟩ := ob hm; clear hm; revert er552; intro hm
 refine x_mid (fun aa ww => ∃ (b553 : Nat) (cs554 : List Value) (p555 : Option Addr) (c555 : Nat), Fr ⟨173, []⟩ aa [(0, .slice p1 (x0_).length c1), (3, .pointer (some ⟨b5, 0, none⟩)), (5, .pointer (some ⟨b6, 0, none⟩)), (7, .int .i64 (x538.1)), (9, .pointer (some ⟨b553, 0, none⟩)), (10, .slice p555 (r552.2).length c555)] ∧ St w0 ww (HP.sl rByte p7 c8 x1_.2.2.2.2.2 :: HP.blk b6 ([.int .i64 (0), .int .i64 (0), .slice none (([] : List UInt8)).length 0, .slice none (([] : List (List UInt8))).length 0]) 37 :: HP.ow rStr 9 none 0 ([] : List (List UInt8)) :: HP.ow rByte 5 none 0 ([] : List UInt8) :: HP.blk b5 ([.int .i64 (x1_.1), .string (txb (x1_.2.1)), .string (txb (x1_.2.2.1)), .int .i64 (x1_.2.2.2.1), .int .i64 (x1_.2.2.2.2.1), .slice p7 (x1_.2.2.2.2.2).length c8]) 25 :: HP.sl R_triremeref11_Node p1 c1 x0_ :: HP.blk b553 (cs554) 50 :: HP.rc R_triremeref11_Node cs554 r552.1 :: HP.sl rStr p555 c555 r552.2 :: l)) ?_ ?_
 obtain ⟨x556, ex556, hm⟩ := ob hm
 obtain ⟨b557, o557, hp557⟩ := H.slP 5 rfl (idxO_some ex556).2
 obtain ⟨cs558, hcl558, H⟩ := H.slEl 5 rfl hp557 (idxO_some ex556).2
 clear hcl558
 refine mix_region [7, 8, 9] [] (.step 0 0 (.step 0 1 (.step 0 2 (.step 0 3 (.step 0 4 (.step 0 5 (.step 0 6 (.fork 7 (.step 2 8 (.step 2 9 (.step 0 10 .done))) 8 (.step 2 7 (.step 2 9 (.step 0 10 .done))))))))))) (fun u => ∃ ls, St w0 u (HP.row b557 (o557 + (x538.1 : Int).toNat * 3) cs558 :: HP.rc R_triremeref11_Node cs558 x556 :: HP.blk b5 ([.int .i64 (x1_.1), .string (txb (x1_.2.1)), .string (txb (x1_.2.2.1)), .int .i64 (x1_.2.2.2.1), .int .i64 (x1_.2.2.2.2.1), .slice p7 (x1_.2.2.2.2.2).length c8]) 25 :: ls)) (by kernel_rfl) (by kernel_rfl) ⟨_, (H.drew.pm 8 [0, 1, 6, 0, 1, 2, 3, 4, 5, 7] rfl:)⟩ ?_
 replace H := H.drew
 generalize w.drew = w at H ⊢
 refine mbk [0, 0] F H rfl trivial ?_; clear F; intro a F
 refine m_pure F rfl rfl rfl rfl (fun u hu => y_idxS F elem30 rfl rfl rfl hp557 ex556) ?_; clear F; intro a F
 refine m_pure F rfl rfl rfl rfl (fun u hu => y_loadA F agg50 rfl rfl (hu.choose_spec.rowAt 0 rfl) (hu.choose_spec.rcLen 1 rfl)) ?_; clear F; intro a F
 refine mbk [0, 1] F H rfl ⟨fld25_1, trivial⟩ ?_; clear F; intro a F
 refine m_pure F rfl rfl rfl rfl (fun u hu => y_load1 F plain9 rfl rfl (row_at (v := .string (txb (x1_.2.1))) ((hu.choose_spec.blk 2 rfl).row) rfl)) ?_; clear F; intro a F
 refine m_fork rfl rfl rfl rfl ?_ ?_
 refine m_heavy rfl rfl ?_
 obtain ⟨x559, ex559, hm⟩ := ob hm
 refine sc wkP F rfl ent43 (w_m_triremeref11_Below ex559 (H.pm 8 [7, 0, 1, 2, 3, 4, 5, 6, 7] rfl:):) ?_; clear F H; rintro _ w a ⟨p560, c560, rfl, H⟩ F
 refine lz ?_; refine ct ⟨⟨_, (H.pm 9 [1, 2, 7, 0, 1, 2, 3, 4, 5, 6, 8] rfl:)⟩, ?_⟩
 refine m_heavy rfl rfl ?_
 replace H := H.owNil rByte 5
 refine s_allocA wkP F rfl rfl rfl agz50 rfl H ?_; clear F H; intro b561 w a H F
 refine lz ?_; refine ct ⟨⟨_, (H.pm 11 [3, 4, 9, 0, 1, 2, 3, 4, 5, 6, 7, 8, 10] rfl:)⟩, ?_⟩
 refine m_heavy rfl rfl ?_
 refine s_storeA wkP F rfl rfl agg50 rfl rfl rfl H 0 rfl (H.rcLen 4 rfl) (by simp only [List.length_append, List.length_cons, List.length_nil, icells_length, bcells_length]) (H.rcFlat 4 rfl) ?_; clear H; intro w H
 refine lz ?_; refine ct ⟨⟨_, (H.pm 11 [3, 4, 9, 0, 1, 2, 3, 4, 5, 6, 7, 8, 10] rfl:)⟩, ?_⟩
 refine mbk [0] F H rfl trivial ?_; clear F; intro a F
 refine m_nil ?_
 cases hm
 refine ct ?_
 exact ⟨b561, cs558, p560, c560, F.sl rfl, (H.pm 11 [5, 6, 7, 8, 9, 10, 0, 4, 2] rfl:)⟩
 refine m_heavy rfl rfl ?_
 replace H := H.owNil rByte 5
 refine s_allocA wkP F rfl rfl rfl agz50 rfl H ?_; clear F H; intro b562 w a H F
 refine lz ?_; refine ct ⟨⟨_, (H.pm 10 [2, 3, 8, 0, 1, 2, 3, 4, 5, 6, 7, 9] rfl:)⟩, ?_⟩
 refine m_heavy rfl rfl ?_
 obtain ⟨x563, ex563, hm⟩ := ob hm
 refine sc wkP F rfl ent43 (w_m_triremeref11_Below ex563 (H.pm 10 [9, 0, 1, 2, 3, 4, 5, 6, 7, 8, 9] rfl:):) ?_; clear F H; rintro _ w a ⟨p564, c564, rfl, H⟩ F
 refine lz ?_; refine ct ⟨⟨_, (H.pm 11 [3, 4, 9, 0, 1, 2, 3, 4, 5, 6, 7, 8, 10] rfl:)⟩, ?_⟩
 refine m_heavy rfl rfl ?_
 refine s_storeA wkP F rfl rfl agg50 rfl rfl rfl H 1 rfl (H.rcLen 4 rfl) (by simp only [List.length_append, List.length_cons, List.length_nil, icells_length, bcells_length]) (H.rcFlat 4 rfl) ?_; clear H; intro w H
 refine lz ?_; refine ct ⟨⟨_, (H.pm 11 [3, 4, 9, 0, 1, 2, 3, 4, 5, 6, 7, 8, 10] rfl:)⟩, ?_⟩
 refine mbk [0] F H rfl trivial ?_; clear F; intro a F
 refine m_nil ?_
 cases hm
 refine ct ?_
 exact ⟨b562, cs558, p564, c564, F.sl rfl, (H.pm 11 [5, 6, 7, 8, 9, 10, 1, 4, 0] rfl:)⟩
 clear F H hm
 rintro a w ⟨b553, cs554, p555, c555, F, H⟩; have hm := hm552; clear hm552
 refine ct (sq (sr (bk [0, 4000, 0] F H rfl ⟨fld25_0, rfl, plain3, trivial⟩ ?_))); clear F; intro a F
 refine nl (cP F rfl (fun hg565 => ?_) (fun hg565 => ?_))
 replace hm := ifT hg565 hm
 refine sq (sr (bk [1] F H rfl ⟨fld50_1, trivial⟩ ?_)); clear F; intro a F
 replace H := rc_triremeref11_Node (H.pk 7 rfl); obtain ⟨p566, c567, rfl, H⟩ := H
 refine bk [7001] F H rfl ⟨rfl, plain4, trivial⟩ ?_; clear F; intro a F
 refine nl (cB F rfl (fun hg568 => ?_) (fun hg568 => ?_))
 replace hm := ifT hg568 hm
 refine sr (bk [0] F H rfl trivial ?_); clear F; intro a F
 obtain ⟨x570, ex570, hm⟩ := ob hm
 refine s_buildC wkP F rfl rfl rfl elem23 zero5 rfl rfl rfl rfl (by simp [Value.cells]) (by decide) H ?_; clear F H; intro b569 w a H F
 replace H := H.blkOw1 (R := rByte) (x := x570) (fun gg => (congrArg (fun z => [Value.int .u8 z]) (u8O_some ex570).symm))
 refine s_convSl wkP F rfl rfl rfl Tryz.underlying23 Tryz.underlying5 rfl rfl H 0 rfl ?_; clear F H; intro w a H F
 refine bk [0, 0] F H rfl ⟨⟨_, Tryz.underlying35⟩, trivial⟩ ?_; clear F; intro a F
 replace H := H.owNil rStr 9
 refine s_val wkP F rfl rfl rfl rfl (y_build F rfl rfl (cs := [.int .i64 (0), .int .i64 (((r552.2).length : Int)), .slice (some ⟨b569, 0, none⟩) ([x570]).length (([x570]).length), .slice none (([] : List (List UInt8))).length 0]) (by kernel_rfl)) ?_; clear F; intro a F
 refine bk [0] F H rfl trivial ?_; clear F; intro a F
 refine s_storeA wkP F rfl rfl agg37 rfl rfl rfl H 4 rfl (by simp only [List.length_append, List.length_cons, List.length_nil, icells_length, bcells_length]) (by simp only [List.length_append, List.length_cons, List.length_nil, icells_length, bcells_length]) (by intro v hv; simp only [List.mem_append, List.mem_cons, List.not_mem_nil, or_false] at hv; first | (rcases hv with h | h <;> first | (subst h; rfl) | exact bcells_flat _ _ h | exact icells_flat _ _ _ h | (rcases h with h | h <;> first | (subst h; rfl) | exact bcells_flat _ _ h | exact icells_flat _ _ _ h | (rcases h with h | h <;> first | (subst h; rfl) | exact bcells_flat _ _ h | (rcases h with h | h <;> first | (subst h; rfl) | (rcases h with h | h <;> (subst h; rfl)))))) | (subst hv; rfl)) ?_; clear H; intro w H
 replace H := H.nf 11 rfl
 refine nl (wr (tr (tr ?_)))
 replace H := H.frz 0 rfl
 replace H := H.mkRc (R := R_api_Answer) (cs := [.int .i64 (0), .int .i64 (((r552.2).length : Int)), .slice (some ⟨b569, 0, none⟩) ([x570]).length (([x570]).length), .slice none (([] : List (List UInt8))).length 0]) (x := (0, ((r552.2).length : Int), [x570], ([] : List (List UInt8)))) (fun gg => ⟨_, _, rfl, rfl, ⟨_, _, rfl, rfl, ⟨_, _, rfl, ⟨_, _, rfl, (gg 1 _ rfl).choose_spec⟩, ⟨_, _, rfl, (gg 0 _ rfl).choose_spec⟩⟩⟩⟩)
 cases hm
 refine x_resC2 F rfl rfl (⟨_, rfl, agg37.run_load (H.blk 5 rfl).row (by simp only [List.length_append, List.length_cons, List.length_nil, icells_length, bcells_length])⟩) ?_
 exact ⟨_, rfl, p1, c1, [.int .i64 (0), .int .i64 (((r552.2).length : Int)), .slice (some ⟨b569, 0, none⟩) ([x570]).length (([x570]).length), .slice none (([] : List (List UInt8))).length 0], rfl, (H.pm 12 [9, 0] rfl:)⟩
 replace hm := ifF (nT hg568) hm
 refine sk (ct (sq (mix_region [1, 2, 8] [8] (.step 0 0 (.step 0 3 (.step 0 4 (.step 0 5 (.step 0 7 (.step 2 1 (.step 2 2 (.step 0 6 (.step 3 8 .done))))))))) (fun u => ∃ ls, St w0 u (HP.blk b553 ([.string (txb (r552.1.1)), .bool (r552.1.2.1), .slice p566 (r552.1.2.2).length c567]) 50 :: ls)) (by kernel_rfl) (by kernel_rfl) ⟨_, (H.drew.pm 9 [7, 0, 1, 2, 3, 4, 5, 6, 8] rfl:)⟩ ?_)))
 replace H := H.drew
 generalize w.drew = w at H ⊢
 refine mbk [0, 2] F H rfl ⟨fld50_2, trivial⟩ ?_; clear F; intro a F
 refine m_pure F rfl rfl rfl rfl (fun u hu => y_load1 F plain23 rfl rfl (row_at (v := .slice p566 (r552.1.2.2).length c567) ((hu.choose_spec.blk 0 rfl).row) rfl)) ?_; clear F; intro a F
 refine mbk [0, 0] F H rfl ⟨⟨_, Tryz.underlying23⟩, trivial⟩ ?_; clear F; intro a F
 refine m_heavy rfl rfl ?_
 obtain ⟨x572, ex572, hm⟩ := ob hm
 refine s_buildC wkP F rfl rfl rfl elem23 zero5 rfl rfl rfl rfl (by simp [Value.cells]) (by decide) H ?_; clear F H; intro b571 w a H F
 replace H := H.blkOw1 (R := rByte) (x := x572) (fun gg => (congrArg (fun z => [Value.int .u8 z]) (u8O_some ex572).symm))
 refine lz ?_; refine ct ⟨⟨_, (H.pm 10 [8, 0, 1, 2, 3, 4, 5, 6, 7, 9] rfl:)⟩, ?_⟩
 refine m_heavy rfl rfl ?_
 refine s_convSl wkP F rfl rfl rfl Tryz.underlying23 Tryz.underlying5 rfl rfl H 0 rfl ?_; clear F H; intro w a H F
 refine lz ?_; refine ct ⟨⟨_, (H.pm 10 [8, 0, 1, 2, 3, 4, 5, 6, 7, 9] rfl:)⟩, ?_⟩
 replace H := H.owNil rStr 9
 refine m_pure F rfl rfl rfl rfl (fun u hu => y_build F rfl rfl (cs := [.int .i64 (0), .int .i64 (((r552.1.2.2).length : Int)), .slice (some ⟨b571, 0, none⟩) ([x572]).length (([x572]).length), .slice none (([] : List (List UInt8))).length 0]) (by kernel_rfl)) ?_; clear F; intro a F
 refine m_last rfl rfl ?_
 refine s_storeA wkP F rfl rfl agg37 rfl rfl rfl H 4 rfl (by simp only [List.length_append, List.length_cons, List.length_nil, icells_length, bcells_length]) (by simp only [List.length_append, List.length_cons, List.length_nil, icells_length, bcells_length]) (by intro v hv; simp only [List.mem_append, List.mem_cons, List.not_mem_nil, or_false] at hv; first | (rcases hv with h | h <;> first | (subst h; rfl) | exact bcells_flat _ _ h | exact icells_flat _ _ _ h | (rcases h with h | h <;> first | (subst h; rfl) | exact bcells_flat _ _ h | exact icells_flat _ _ _ h | (rcases h with h | h <;> first | (subst h; rfl) | exact bcells_flat _ _ h | (rcases h with h | h <;> first | (subst h; rfl) | (rcases h with h | h <;> (subst h; rfl)))))) | (subst hv; rfl)) ?_; clear H; intro w H
 refine lz ?_; refine ct ?_
 refine m_nil ?_
 refine ct (wr (tr ?_))
 replace H := H.frz 0 rfl
 replace H := H.mkRc (R := R_api_Answer) (cs := [.int .i64 (0), .int .i64 (((r552.1.2.2).length : Int)), .slice (some ⟨b571, 0, none⟩) ([x572]).length (([x572]).length), .slice none (([] : List (List UInt8))).length 0]) (x := (0, ((r552.1.2.2).length : Int), [x572], ([] : List (List UInt8)))) (fun gg => ⟨_, _, rfl, rfl, ⟨_, _, rfl, rfl, ⟨_, _, rfl, ⟨_, _, rfl, (gg 1 _ rfl).choose_spec⟩, ⟨_, _, rfl, (gg 0 _ rfl).choose_spec⟩⟩⟩⟩)
 cases hm
 refine x_resC2 F rfl rfl (⟨_, rfl, agg37.run_load (H.blk 5 rfl).row (by simp only [List.length_append, List.length_cons, List.length_nil, icells_length, bcells_length])⟩) ?_
 exact ⟨_, rfl, p1, c1, [.int .i64 (0), .int .i64 (((r552.1.2.2).length : Int)), .slice (some ⟨b571, 0, none⟩) ([x572]).length (([x572]).length), .slice none (([] : List (List UInt8))).length 0], rfl, (H.pm 12 [9, 0] rfl:)⟩
 replace hm := ifF hg565 hm
 refine sk (ct (sq (sr (bk [0, 4000, 0] F H rfl ⟨fld25_0, rfl, plain3, trivial⟩ ?_)))); clear F; intro a F
 refine nl (cP F rfl (fun hg573 => ?_) (fun hg573 => ?_))
 replace hm := ifT hg573 hm
 refine sq (sr (bk [1] F H rfl ⟨fld50_1, trivial⟩ ?_)); clear F; intro a F
 replace H := rc_triremeref11_Node (H.pk 7 rfl); obtain ⟨p574, c575, rfl, H⟩ := H
 refine bk [7001, 0] F H rfl ⟨rfl, plain4, trivial⟩ ?_; clear F; intro a F
 refine nl (cB F rfl (fun hg576 => ?_) (fun hg576 => ?_))
 replace hm := ifT hg576 hm
 refine sr (bk [0] F H rfl trivial ?_); clear F; intro a F
 obtain ⟨x577, ex577, hm⟩ := ob hm
 refine sc wkP F rfl ent39 (w_m_triremeref11_no ex577 (H.pm 9 [6, 0, 1, 2, 3, 4, 5, 6, 7, 8] rfl:):) ?_; clear F H; rintro _ w a ⟨p578, c578, cs579, rfl, H⟩ F
 refine bk [0, 0, 0] F H rfl trivial ?_; clear F; intro a F
 refine s_storeA wkP F rfl rfl agg37 rfl rfl rfl H 4 rfl (H.rcLen 1 rfl) (by simp only [List.length_append, List.length_cons, List.length_nil, icells_length, bcells_length]) (H.rcFlat 1 rfl) ?_; clear H; intro w H
 replace H := H.nf 11 rfl
 refine nl (wr (tr (tr ?_)))
 cases hm
 refine x_resC2 F rfl rfl (⟨_, rfl, agg37.run_load (H.blk 4 rfl).row (H.rcLen 1 rfl)⟩) ?_
 exact ⟨_, rfl, p578, c578, cs579, rfl, (H.pm 11 [0, 1] rfl:)⟩
 replace hm := ifF (nT hg576) hm
 refine sk (ct (sr (bk [0, 0] F H rfl ⟨⟨_, Tryz.underlying35⟩, trivial⟩ ?_))); clear F; intro a F
 replace H := H.owNil rByte 5
 replace H := H.owNil rStr 9
 refine s_val wkP F rfl rfl rfl rfl (y_build F rfl rfl (cs := [.int .i64 (0), .int .i64 (((r552.2).length : Int)), .slice none (([] : List UInt8)).length 0, .slice none (([] : List (List UInt8))).length 0]) (by kernel_rfl)) ?_; clear F; intro a F
 replace H := H.owNil rByte 5
 replace H := H.owNil rStr 9
 refine s_allocA wkP F rfl rfl rfl agz37 rfl H ?_; clear F H; intro b580 w a H F
 refine s_storeA wkP F rfl rfl agg37 rfl rfl rfl H 0 rfl (by simp only [List.length_append, List.length_cons, List.length_nil, icells_length, bcells_length]) (by simp only [List.length_append, List.length_cons, List.length_nil, icells_length, bcells_length]) (by intro v hv; simp only [List.mem_append, List.mem_cons, List.not_mem_nil, or_false] at hv; first | (rcases hv with h | h <;> first | (subst h; rfl) | exact bcells_flat _ _ h | exact icells_flat _ _ _ h | (rcases h with h | h <;> first | (subst h; rfl) | exact bcells_flat _ _ h | exact icells_flat _ _ _ h | (rcases h with h | h <;> first | (subst h; rfl) | exact bcells_flat _ _ h | (rcases h with h | h <;> first | (subst h; rfl) | (rcases h with h | h <;> (subst h; rfl)))))) | (subst hv; rfl)) ?_; clear H; intro w H
 replace H := H.nf 14 rfl
 refine nl (sq (sr (bk [0] F H rfl trivial ?_))); clear F; intro a F
 refine nl ?_
 obtain ⟨r702, er702, hm702⟩ := ob hm; clear hm; revert er702; intro hm
 refine x_mid (fun aa ww => ∃ (p703 : Option Addr) (c703 : Nat), Fr ⟨173, []⟩ aa [(0, .slice p1 (x0_).length c1), (5, .pointer (some ⟨b6, 0, none⟩)), (11, .pointer (some ⟨b580, 0, none⟩))] ∧ St w0 ww (HP.blk b580 ([.int .i64 (0), .int .i64 (((r552.2).length : Int)), .slice none (([] : List UInt8)).length 0, .slice p703 (r702).length c703]) 37 :: HP.ow rStr 9 none 0 ([] : List (List UInt8)) :: HP.ow rByte 5 none 0 ([] : List UInt8) :: HP.ow rByte 5 none 0 ([] : List UInt8) :: HP.sl rByte p574 c575 r552.1.2.2 :: HP.sl rByte p7 c8 x1_.2.2.2.2.2 :: HP.blk b6 ([.int .i64 (0), .int .i64 (0), .slice none (([] : List UInt8)).length 0, .slice none (([] : List (List UInt8))).length 0]) 37 :: HP.ow rStr 9 none 0 ([] : List (List UInt8)) :: HP.ow rByte 5 none 0 ([] : List UInt8) :: HP.blk b5 ([.int .i64 (x1_.1), .string (txb (x1_.2.1)), .string (txb (x1_.2.2.1)), .int .i64 (x1_.2.2.2.1), .int .i64 (x1_.2.2.2.2.1), .slice p7 (x1_.2.2.2.2.2).length c8]) 25 :: HP.sl R_triremeref11_Node p1 c1 x0_ :: HP.blk b553 ([.string (txb (r552.1.1)), .bool (r552.1.2.1), .slice p574 (r552.1.2.2).length c575]) 50 :: HP.ow rStr 9 p703 c703 r702 :: l)) ?_ ?_
 refine bl ?_
 refine x_loopO _ (fun (s784 : (List (List UInt8)) × Int) aa ww => ∃ (p785 : Option Addr) (c785 : Nat), Fr ⟨173, []⟩ aa [(0, .slice p1 (x0_).length c1), (3, .pointer (some ⟨b5, 0, none⟩)), (5, .pointer (some ⟨b6, 0, none⟩)), (10, .slice p555 (r552.2).length c555), (11, .pointer (some ⟨b580, 0, none⟩)), (12, .int .i64 (s784.2))] ∧ St w0 ww (HP.blk b580 ([.int .i64 (0), .int .i64 (((r552.2).length : Int)), .slice none (([] : List UInt8)).length 0, .slice p785 (s784.1).length c785]) 37 :: HP.ow rStr 9 none 0 ([] : List (List UInt8)) :: HP.ow rByte 5 none 0 ([] : List UInt8) :: HP.ow rByte 5 none 0 ([] : List UInt8) :: HP.sl rByte p574 c575 r552.1.2.2 :: HP.sl rByte p7 c8 x1_.2.2.2.2.2 :: HP.blk b6 ([.int .i64 (0), .int .i64 (0), .slice none (([] : List UInt8)).length 0, .slice none (([] : List (List UInt8))).length 0]) 37 :: HP.ow rStr 9 none 0 ([] : List (List UInt8)) :: HP.ow rByte 5 none 0 ([] : List UInt8) :: HP.blk b5 ([.int .i64 (x1_.1), .string (txb (x1_.2.1)), .string (txb (x1_.2.2.1)), .int .i64 (x1_.2.2.2.1), .int .i64 (x1_.2.2.2.2.1), .slice p7 (x1_.2.2.2.2.2).length c8]) 25 :: HP.sl R_triremeref11_Node p1 c1 x0_ :: HP.blk b553 ([.string (txb (r552.1.1)), .bool (r552.1.2.1), .slice p574 (r552.1.2.2).length c575]) 50 :: HP.sl rStr p555 c555 r552.2 :: HP.ow rStr 9 p785 c785 s784.1 :: l)) hm ⟨none, 0, F.sl rfl, (H.pm 14 [0, 1, 2, 4, 5, 6, 7, 8, 9, 10, 11, 12, 13, 3] rfl:)⟩ ?_
 clear F H hm
 rintro s784 a w o ⟨p785, c785, F, H⟩ hm
 refine sq (sr (bk [0, 0, 0, 0] F H rfl ⟨⟨_, Tryz.underlying35⟩, trivial⟩ ?_)); clear F; intro a F
 refine nl (cP F rfl (fun hg786 => ?_) (fun hg786 => ?_))
 replace hm := ifT hg786 hm
 refine sk (ct (sq ?_))
 obtain ⟨r805, er805, hm805⟩ := ob hm; clear hm; revert er805; intro hm
 refine x_mid (fun aa ww => ∃ (p806 : Option Addr) (c806 : Nat), Fr ⟨173, []⟩ aa [(0, .slice p1 (x0_).length c1), (3, .pointer (some ⟨b5, 0, none⟩)), (5, .pointer (some ⟨b6, 0, none⟩)), (10, .slice p555 (r552.2).length c555), (11, .pointer (some ⟨b580, 0, none⟩)), (12, .int .i64 (s784.2))] ∧ St w0 ww (HP.blk b580 ([.int .i64 (0), .int .i64 (((r552.2).length : Int)), .slice none (([] : List UInt8)).length 0, .slice p806 (r805).length c806]) 37 :: HP.ow rStr 9 none 0 ([] : List (List UInt8)) :: HP.ow rByte 5 none 0 ([] : List UInt8) :: HP.ow rByte 5 none 0 ([] : List UInt8) :: HP.sl rByte p574 c575 r552.1.2.2 :: HP.sl rByte p7 c8 x1_.2.2.2.2.2 :: HP.blk b6 ([.int .i64 (0), .int .i64 (0), .slice none (([] : List UInt8)).length 0, .slice none (([] : List (List UInt8))).length 0]) 37 :: HP.ow rStr 9 none 0 ([] : List (List UInt8)) :: HP.ow rByte 5 none 0 ([] : List UInt8) :: HP.blk b5 ([.int .i64 (x1_.1), .string (txb (x1_.2.1)), .string (txb (x1_.2.2.1)), .int .i64 (x1_.2.2.2.1), .int .i64 (x1_.2.2.2.2.1), .slice p7 (x1_.2.2.2.2.2).length c8]) 25 :: HP.sl R_triremeref11_Node p1 c1 x0_ :: HP.blk b553 ([.string (txb (r552.1.1)), .bool (r552.1.2.1), .slice p574 (r552.1.2.2).length c575]) 50 :: HP.sl rStr p555 c555 r552.2 :: HP.ow rStr 9 p806 c806 r805 :: l)) ?_ ?_
 refine bl (sq ?_)
 obtain ⟨x807, ex807, hm⟩ := ob hm
 obtain ⟨b808, o808, hp808⟩ := H.slP 12 rfl (idxO_some ex807).2
 obtain ⟨cs809, hcl809, H⟩ := H.slEl 12 rfl hp808 (idxO_some ex807).2
 obtain rfl := H.rcStr 1 rfl
 replace H := H.dp 1 rfl
 clear hcl809
 by_cases hg810 : (gtrB x807 x1_.2.2.1) = true
 replace hm := ifT hg810 hm
 refine qr H (by kernel_rfl) (by kernel_rfl) ?_
 refine qbk [0, 0] F rfl trivial ?_; clear F; intro a F
 refine q_val F rfl rfl rfl (fun u hu => y_idxS F elem35 rfl rfl rfl hp808 ex807) ?_; clear F; intro a F
 refine qbk [0, 2, 10002] F rfl ⟨rfl, plain9, fld25_2, rfl, plain9, trivial⟩ ?_; clear F; intro a F
 refine q_val F rfl rfl rfl (fun u hu => y_gtrT (l := x807) (m := x1_.2.2.1) F rfl rfl rfl) ?_; clear F; intro a F
 refine qbk [0] F rfl trivial ?_; clear F; intro a F
 replace F := F.vT 131 hg810 rfl
 refine qbk [3, 1003, 0, 0, 0] F rfl ⟨fld37_3, rfl, plain35, ⟨_, Tryz.underlying35⟩, trivial⟩ ?_; clear F; intro a F
 refine q_nil ?_; clear H; intro w H
 refine ct ?_
 obtain ⟨r817, er817, hm817⟩ := ob hm; clear hm; revert er817; intro hm
 refine x_mid (fun aa ww => ∃ (p818 : Option Addr) (c818 : Nat), Fr ⟨173, []⟩ aa [(0, .slice p1 (x0_).length c1), (3, .pointer (some ⟨b5, 0, none⟩)), (5, .pointer (some ⟨b6, 0, none⟩)), (10, .slice p555 (r552.2).length c555), (11, .pointer (some ⟨b580, 0, none⟩)), (12, .int .i64 (s784.2))] ∧ St w0 ww (HP.row b808 (o808 + (s784.2 : Int).toNat * 1) ([.string (txb (x807))]) :: HP.blk b580 ([.int .i64 (0), .int .i64 (((r552.2).length : Int)), .slice none (([] : List UInt8)).length 0, .slice p818 (r817).length c818]) 37 :: HP.ow rStr 9 none 0 ([] : List (List UInt8)) :: HP.ow rByte 5 none 0 ([] : List UInt8) :: HP.ow rByte 5 none 0 ([] : List UInt8) :: HP.sl rByte p574 c575 r552.1.2.2 :: HP.sl rByte p7 c8 x1_.2.2.2.2.2 :: HP.blk b6 ([.int .i64 (0), .int .i64 (0), .slice none (([] : List UInt8)).length 0, .slice none (([] : List (List UInt8))).length 0]) 37 :: HP.ow rStr 9 none 0 ([] : List (List UInt8)) :: HP.ow rByte 5 none 0 ([] : List UInt8) :: HP.blk b5 ([.int .i64 (x1_.1), .string (txb (x1_.2.1)), .string (txb (x1_.2.2.1)), .int .i64 (x1_.2.2.2.1), .int .i64 (x1_.2.2.2.2.1), .slice p7 (x1_.2.2.2.2.2).length c8]) 25 :: HP.sl R_triremeref11_Node p1 c1 x0_ :: HP.blk b553 ([.string (txb (r552.1.1)), .bool (r552.1.2.1), .slice p574 (r552.1.2.2).length c575]) 50 :: HP.sl rStr p555 c555 r552.2 :: HP.ow rStr 9 p818 c818 r817 :: l)) ?_ ?_
 refine cP F rfl (fun hg819 => ?_) (fun hg819 => ?_)
 replace hm := ifT hg819 hm
 obtain ⟨x820, ex820, hm⟩ := ob hm
 obtain ⟨cs821, hcl821, H⟩ := H.slEl 13 rfl hp808 (idxO_some ex820).2
 obtain rfl := H.rcStr 1 rfl
 replace H := H.dp 1 rfl
 clear hcl821
 refine mix_region [6, 7, 9] [9] (.step 0 0 (.step 0 1 (.step 0 2 (.step 0 3 (.step 0 4 (.step 1 5 (.step 2 6 (.step 2 7 (.step 0 8 (.step 3 9 .done)))))))))) (fun u => ∃ ls, St w0 u (HP.blk b580 ([.int .i64 (0), .int .i64 (((r552.2).length : Int)), .slice none (([] : List UInt8)).length 0, .slice p785 (s784.1).length c785]) 37 :: ls)) (by kernel_rfl) (by kernel_rfl) ⟨_, (H.drew.pm 16 [2, 0, 1, 3, 4, 5, 6, 7, 8, 9, 10, 11, 12, 13, 14, 15] rfl:)⟩ ?_
 replace H := H.drew
 generalize w.drew = w at H ⊢
 refine mbk [3] F H rfl ⟨fld37_3, trivial⟩ ?_; clear F; intro a F
 refine m_pure F rfl rfl rfl rfl (fun u hu => y_load1 F plain35 rfl rfl (row_at (v := .slice p785 (s784.1).length c785) ((hu.choose_spec.blk 0 rfl).row) rfl)) ?_; clear F; intro a F
 refine mbk [0, 0] F H rfl trivial ?_; clear F; intro a F
 refine m_pure F rfl rfl rfl rfl (fun u hu => y_idxS F elem35 rfl rfl rfl hp808 ex820) ?_; clear F; intro a F
 refine mbk [0] F H rfl ⟨rfl, plain9, trivial⟩ ?_; clear F; intro a F
 refine m_heavy rfl rfl ?_
 refine s_buildC wkP F rfl rfl rfl elem35 zero9 rfl rfl rfl rfl (by simp [Value.cells]) (by decide) H ?_; clear F H; intro b822 w a H F
 replace H := H.blkOw1 (R := rStr) (x := x820) (fun gg => rfl)
 refine lz ?_; refine ct ⟨⟨_, (H.pm 17 [3, 0, 1, 2, 4, 5, 6, 7, 8, 9, 10, 11, 12, 13, 14, 15, 16] rfl:)⟩, ?_⟩
 refine m_heavy rfl rfl ?_
 replace H := H.frz 0 rfl
 obtain ⟨x824, ex824, hm⟩ := ob hm
 refine s_app wkP F rfl rfl rfl rfl rfl rfl elem35 rfl ex824 H 16 0 rfl rfl ?_; clear F H; intro p823 c823 w a H F
 refine lz ?_; refine ct ⟨⟨_, (H.pm 17 [3, 0, 1, 2, 4, 5, 6, 7, 8, 9, 10, 11, 12, 13, 14, 15, 16] rfl:)⟩, ?_⟩
 refine mbk [3] F H rfl ⟨fld37_3, trivial⟩ ?_; clear F; intro a F
 refine m_last rfl rfl ?_
 refine s_st1 wkP F rfl rfl zero35 rfl rfl rfl rfl rfl H 3 rfl rfl ?_; clear H; intro w H
 refine lz ?_; refine ct ?_
 refine m_nil ?_
 cases hm
 refine ct ?_
 exact ⟨p823, c823, F.sl rfl, (H.pm 17 [2, 3, 4, 5, 6, 7, 8, 9, 10, 11, 12, 13, 14, 15, 16] rfl:)⟩
 replace hm := ifF hg819 hm
 refine sk ?_
 cases hm
 refine ct ?_
 exact ⟨p785, c785, F.sl rfl, H⟩
 clear F H hm
 rintro a w ⟨p818, c818, F, H⟩; have hm := hm817; clear hm817
 refine bn ?_
 cases hm
 refine ct ?_
 exact ⟨p818, c818, F.sl rfl, (H.pm 15 [1, 2, 3, 4, 5, 6, 7, 8, 9, 10, 11, 12, 13, 14] rfl:)⟩
 replace hm := ifF hg810 hm
 refine qr H (by kernel_rfl) (by kernel_rfl) ?_
 refine qbk [0, 0] F rfl trivial ?_; clear F; intro a F
 refine q_val F rfl rfl rfl (fun u hu => y_idxS F elem35 rfl rfl rfl hp808 ex807) ?_; clear F; intro a F
 refine qbk [0, 2, 10002] F rfl ⟨rfl, plain9, fld25_2, rfl, plain9, trivial⟩ ?_; clear F; intro a F
 refine q_val F rfl rfl rfl (fun u hu => y_gtrT (l := x807) (m := x1_.2.2.1) F rfl rfl rfl) ?_; clear F; intro a F
 refine qbk [0] F rfl trivial ?_; clear F; intro a F
 replace F := F.vF 131 hg810 rfl
 refine qbk (List.replicate 5 0) F rfl trivial ?_; clear F; intro a F
 refine q_nil ?_; clear H; intro w H
 refine ct (cF F rfl ?_)
 refine sk (bn ?_)
 cases hm
 refine ct ?_
 exact ⟨p785, c785, F.sl rfl, (H.pm 15 [1, 2, 3, 4, 5, 6, 7, 8, 9, 10, 11, 12, 13, 14] rfl:)⟩
 clear F H hm
 rintro a w ⟨p806, c806, F, H⟩; have hm := hm805; clear hm805
 refine ct (rl (bk [0, 0, 0] F H rfl trivial ?_)); clear F; intro a F
 refine lz (ct ?_); cases hm
 exact ⟨_, rfl, ⟨p806, c806, F.sl rfl, H⟩⟩
 replace hm := ifF hg786 hm
 refine ex (cx (cx ?_)); cases hm; refine ⟨_, rfl, ?_⟩; rintro rfl
 refine ch (ct ?_)
 exact ⟨p785, c785, F.sl rfl, (H.pm 14 [0, 1, 2, 3, 4, 5, 6, 7, 8, 9, 10, 11, 13] rfl:)⟩
 clear F H hm
 rintro a w ⟨p703, c703, F, H⟩; have hm := hm702; clear hm702
 refine ct (sq (mix_region [3] [3] (.step 0 0 (.step 1 1 (.step 0 2 (.step 3 3 .done)))) (fun u => ∃ ls, St w0 u (ls)) (by kernel_rfl) (by kernel_rfl) ⟨_, H.drew⟩ ?_))
 replace H := H.drew
 generalize w.drew = w at H ⊢
 refine mbk [0, 999, 0] F H rfl ⟨rfl, (aggn agg37 (by simp only [List.length_append, List.length_cons, List.length_nil, icells_length, bcells_length])), trivial⟩ ?_; clear F; intro a F
 refine m_last rfl rfl ?_
 refine s_storeA wkP F rfl rfl agg37 rfl rfl rfl H 6 rfl (by simp only [List.length_append, List.length_cons, List.length_nil, icells_length, bcells_length]) (by simp only [List.length_append, List.length_cons, List.length_nil, icells_length, bcells_length]) (by intro v hv; simp only [List.mem_append, List.mem_cons, List.not_mem_nil, or_false] at hv; first | (rcases hv with h | h <;> first | (subst h; rfl) | exact bcells_flat _ _ h | exact icells_flat _ _ _ h | (rcases h with h | h <;> first | (subst h; rfl) | exact bcells_flat _ _ h | exact icells_flat _ _ _ h | (rcases h with h | h <;> first | (subst h; rfl) | exact bcells_flat _ _ h | (rcases h with h | h <;> first | (subst h; rfl) | (rcases h with h | h <;> (subst h; rfl)))))) | (subst hv; rfl)) ?_; clear H; intro w H
 refine lz ?_; refine ct ?_
 refine m_nil ?_
 refine ct (wr (tr ?_))
 replace H := H.frz 3 rfl
 replace H := H.frz 12 rfl
 replace H := H.mkRc (R := R_api_Answer) (cs := [.int .i64 (0), .int .i64 (((r552.2).length : Int)), .slice none (([] : List UInt8)).length 0, .slice p703 (r702).length c703]) (x := (0, ((r552.2).length : Int), ([] : List UInt8), r702)) (fun gg => ⟨_, _, rfl, rfl, ⟨_, _, rfl, rfl, ⟨_, _, rfl, ⟨_, _, rfl, (gg 1 _ rfl).choose_spec⟩, ⟨_, _, rfl, (gg 0 _ rfl).choose_spec⟩⟩⟩⟩)
 cases hm
 refine x_resC2 F rfl rfl (⟨_, rfl, agg37.run_load (H.blk 8 rfl).row (by simp only [List.length_append, List.length_cons, List.length_nil, icells_length, bcells_length])⟩) ?_
 exact ⟨_, rfl, p1, c1, [.int .i64 (0), .int .i64 (((r552.2).length : Int)), .slice none (([] : List UInt8)).length 0, .slice p703 (r702).length c703], rfl, (H.pm 14 [12, 0] rfl:)⟩
 replace hm := ifF hg573 hm
 refine sk (ct (sq (sr (bk [1, 4001] F H rfl ⟨fld25_1, rfl, plain9, trivial⟩ ?_)))); clear F; intro a F
 refine s_val wkP F rfl rfl rfl rfl (y_eqT (l := x1_.2.1) (m := [47]) F rfl rfl rfl) ?_; clear F; intro a F
 refine nl (cP F rfl (fun hg825 => ?_) (fun hg825 => ?_))
 replace hm := ifT hg825 hm
 refine sr (bk [0] F H rfl trivial ?_); clear F; intro a F
 obtain ⟨x826, ex826, hm⟩ := ob hm
 refine sc wkP F rfl ent39 (w_m_triremeref11_no ex826 (H.pm 9 [5, 0, 1, 2, 3, 4, 5, 6, 7, 8] rfl:):) ?_; clear F H; rintro _ w a ⟨p827, c827, cs828, rfl, H⟩ F
 refine bk [0, 0, 0] F H rfl trivial ?_; clear F; intro a F
 refine s_storeA wkP F rfl rfl agg37 rfl rfl rfl H 3 rfl (H.rcLen 1 rfl) (by simp only [List.length_append, List.length_cons, List.length_nil, icells_length, bcells_length]) (H.rcFlat 1 rfl) ?_; clear H; intro w H
 replace H := H.nf 11 rfl
 refine nl (wr (tr ?_))
 cases hm
 refine x_resC2 F rfl rfl (⟨_, rfl, agg37.run_load (H.blk 3 rfl).row (H.rcLen 1 rfl)⟩) ?_
 exact ⟨_, rfl, p827, c827, cs828, rfl, (H.pm 11 [0, 1] rfl:)⟩
 replace hm := ifF hg825 hm
 refine sk (ct (sq (sr (bk [0, 0, 0] F H rfl ⟨⟨_, Tryz.underlying35⟩, trivial⟩ ?_)))); clear F; intro a F
 refine nl (cP F rfl (fun hg829 => ?_) (fun hg829 => ?_))
 replace hm := ifT hg829 hm
 refine sr (bk [0] F H rfl trivial ?_); clear F; intro a F
 obtain ⟨x830, ex830, hm⟩ := ob hm
 refine sc wkP F rfl ent39 (w_m_triremeref11_no ex830 (H.pm 9 [5, 0, 1, 2, 3, 4, 5, 6, 7, 8] rfl:):) ?_; clear F H; rintro _ w a ⟨p831, c831, cs832, rfl, H⟩ F
 refine bk [0, 0, 0] F H rfl trivial ?_; clear F; intro a F
 refine s_storeA wkP F rfl rfl agg37 rfl rfl rfl H 3 rfl (H.rcLen 1 rfl) (by simp only [List.length_append, List.length_cons, List.length_nil, icells_length, bcells_length]) (H.rcFlat 1 rfl) ?_; clear H; intro w H
 replace H := H.nf 11 rfl
 refine nl (wr (tr ?_))
 cases hm
 refine x_resC2 F rfl rfl (⟨_, rfl, agg37.run_load (H.blk 3 rfl).row (H.rcLen 1 rfl)⟩) ?_
 exact ⟨_, rfl, p831, c831, cs832, rfl, (H.pm 11 [0, 1] rfl:)⟩
 replace hm := ifF hg829 hm
 refine sk (ct (sq ?_))
 obtain ⟨x834, ex834, hm⟩ := ob hm
 have hc833 := H.slCap 5 rfl
 replace H := H.slSubN 3 rfl 5 rfl ex834
 obtain ⟨x836, ex836, hm⟩ := ob hm
 have hc835 := H.slCap 6 rfl
 replace H := H.slSubN 3 rfl 6 rfl ex836
 replace H := H.owNil rByte 5
 replace H := H.owNil rStr 9
 refine mix_region [0, 4, 9, 12] [12] (.step 0 1 (.step 0 2 (.step 0 3 (.step 0 5 (.step 0 6 (.step 0 7 (.step 0 8 (.step 0 10 (.step 2 0 (.step 2 4 (.step 2 9 (.step 0 11 (.step 3 12 .done))))))))))))) (fun u => ∃ ls, St w0 u (ls)) (by kernel_rfl) (by kernel_rfl) ⟨_, H.drew⟩ ?_
 replace H := H.drew
 generalize w.drew = w at H ⊢
 refine mbk [0, 0] F H rfl trivial ?_; clear F; intro a F
 refine m_pure F rfl rfl rfl rfl (fun u hu => y_slH F elem30 rfl rfl rfl ex834 hc833) ?_; clear F; intro a F
 refine mbk [0, 0, 0] F H rfl trivial ?_; clear F; intro a F
 refine m_pure F rfl rfl rfl rfl (fun u hu => y_slL F elem30 rfl rfl rfl ex836 hc835) ?_; clear F; intro a F
 refine m_pure F rfl rfl rfl rfl (fun u hu => y_build F rfl rfl (cs := [.int .i64 (0), .int .i64 (0), .slice none (([] : List UInt8)).length 0, .slice none (([] : List (List UInt8))).length 0]) (by kernel_rfl)) ?_; clear F; intro a F
 refine m_heavy rfl rfl ?_
 refine s_build0O (R := R_triremeref11_Node) wkP F rfl rfl rfl elem30 rfl H ?_; clear F H; intro b837 w a H F
 refine lz ?_; refine ct ⟨⟨_, H⟩, ?_⟩
 refine m_heavy rfl rfl ?_
 obtain ⟨x839, ex839, hm⟩ := ob hm
 refine s_app wkP F rfl rfl rfl rfl rfl rfl elem30 rfl ex839 H 0 4 rfl rfl ?_; clear F H; intro p838 c838 w a H F
 refine lz ?_; refine ct ⟨⟨_, H⟩, ?_⟩
 refine m_heavy rfl rfl ?_
 obtain ⟨x841, ex841, hm⟩ := ob hm
 refine s_app wkP F rfl rfl rfl rfl rfl rfl elem30 rfl ex841 H 0 3 rfl rfl ?_; clear F H; intro p840 c840 w a H F
 refine lz ?_; refine ct ⟨⟨_, H⟩, ?_⟩
 refine mbk [0] F H rfl trivial ?_; clear F; intro a F
 refine m_last rfl rfl ?_
 refine s_storeA wkP F rfl rfl agg37 rfl rfl rfl H 6 rfl (by simp only [List.length_append, List.length_cons, List.length_nil, icells_length, bcells_length]) (by simp only [List.length_append, List.length_cons, List.length_nil, icells_length, bcells_length]) (by intro v hv; simp only [List.mem_append, List.mem_cons, List.not_mem_nil, or_false] at hv; first | (rcases hv with h | h <;> first | (subst h; rfl) | exact bcells_flat _ _ h | exact icells_flat _ _ _ h | (rcases h with h | h <;> first | (subst h; rfl) | exact bcells_flat _ _ h | exact icells_flat _ _ _ h | (rcases h with h | h <;> first | (subst h; rfl) | exact bcells_flat _ _ h | (rcases h with h | h <;> first | (subst h; rfl) | (rcases h with h | h <;> (subst h; rfl)))))) | (subst hv; rfl)) ?_; clear H; intro w H
 refine lz ?_; refine ct ?_
 refine m_nil ?_
 refine ct (wr ?_)
 replace H := H.frz 0 rfl
 replace H := H.frz 2 rfl
 replace H := H.frz 2 rfl
 replace H := H.mkRc (R := R_api_Answer) (cs := [.int .i64 (0), .int .i64 (0), .slice none (([] : List UInt8)).length 0, .slice none (([] : List (List UInt8))).length 0]) (x := (0, 0, ([] : List UInt8), ([] : List (List UInt8)))) (fun gg => ⟨_, _, rfl, rfl, ⟨_, _, rfl, rfl, ⟨_, _, rfl, ⟨_, _, rfl, (gg 1 _ rfl).choose_spec⟩, ⟨_, _, rfl, (gg 0 _ rfl).choose_spec⟩⟩⟩⟩)
 cases hm
 refine x_resC2 F rfl rfl (⟨_, rfl, agg37.run_load (H.blk 7 rfl).row (by simp only [List.length_append, List.length_cons, List.length_nil, icells_length, bcells_length])⟩) ?_
 exact ⟨_, rfl, p840, c840, [.int .i64 (0), .int .i64 (0), .slice none (([] : List UInt8)).length 0, .slice none (([] : List (List UInt8))).length 0], rfl, (H.pm 15 [3, 0] rfl:)⟩
end Go.Proofs.YtohmcgmmphpgoaaGreatDoor
