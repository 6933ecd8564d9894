/- paths -/
import Derived.Test.YtohmcgmmphpgoaaGreatDoorStrA
set_option linter.unusedSimpArgs false
set_option linter.unusedVariables false
namespace Go.Proofs.YtohmcgmmphpgoaaGreatDoor
open Go.RowKit Go.Tri
set_option maxRecDepth 100000 in
set_option maxHeartbeats 4000000 in
theorem w_m_path_Name {x0_ : List UInt8}  {w0 w : World} {l : List HP}  {r : Bool} (hm : m_path_Name x0_ = some r) (H : St w0 w (l)) :
  Calls Tryz.prog 92 [.string (txb (x0_))].toArray w (fun e w' => ∃ v, e = .returned v ∧ v = .bool (r) ∧ St w0 w' (l)) := by
 unfold m_path_Name at hm
 refine x_enter Tryz.func92 rfl rfl rfl ?_
 intro a F
 refine sr (bk [0] F H rfl trivial ?_); clear F; intro a F
 refine nl (sq (sr (bk [0] F H rfl trivial ?_))); clear F; intro a F
 refine s_val wkP F rfl rfl rfl rfl (y_lenT (l := x0_) F rfl Tryz.underlying9 rfl) ?_; clear F; intro a F
 refine bk [0] F H rfl trivial ?_; clear F; intro a F
 refine nl ?_
 obtain ⟨o23, eo23, hm23⟩ := ob hm; clear hm; revert eo23; intro hm
 refine x_mid (fun aa ww => ∃ r23, o23 = Sum.inl r23 ∧ Fr ⟨33, []⟩ aa [(0, .string (txb (x0_)))] ∧ St w0 ww (l)) ?_ ?_
 refine bl (x_loopO _ (fun (s38 : Int) aa ww => Fr ⟨33, []⟩ aa [(0, .string (txb (x0_))), (5, .int .i64 (((x0_).length : Int))), (6, .int .i64 (s38))] ∧ St w0 ww (l)) hm ⟨F.sl rfl, H⟩ ?_)
 clear F H hm
 rintro s38 a w o ⟨F, H⟩ hm
 refine sr (bk [0] F H rfl trivial ?_); clear F; intro a F
 refine nl (sq (cP F rfl (fun hg39 => ?_) (fun hg39 => ?_)))
 replace hm := ifT hg39 hm
 refine sk (ct (sq (bl (sr (bk [0, 0] F H rfl trivial ?_))))); clear F; intro a F
 refine nl (sr (bk [0, 0] F H rfl trivial ?_)); clear F; intro a F
 obtain ⟨x40, ex40, hm⟩ := ob hm
 refine s_val wkP F rfl rfl rfl rfl (y_idxT F rfl Tryz.underlying9 rfl rfl ex40) ?_; clear F; intro a F
 refine bk [0, 0] F H rfl trivial ?_; clear F; intro a F
 by_cases hg41 : ((x40).toNat : Int) < 33
 replace hm := ifT hg41 hm
 replace F := F.bT 13 hg41 rfl
 refine bk (List.replicate 11 0) F H rfl trivial ?_; clear F; intro a F
 refine nl (cT F rfl ?_)
 refine sr (bk [0] F H rfl trivial ?_); clear F; intro a F
 refine nl (wr (br (tr (tr ?_)))); cases hm; refine ⟨_, rfl, ?_⟩; rintro rfl
 refine br (tr ?_)
 replace hm := elimR hm23
 refine tr ?_
 cases hm
 refine x_ret1 F rfl rfl ?_
 exact ⟨_, rfl, rfl, H⟩
 replace hm := ifF hg41 hm
 replace F := F.bF 13 hg41 rfl
 refine bk [0, 0] F H rfl trivial ?_; clear F; intro a F
 refine g_onP F rfl rfl rfl rfl ?_
 obtain ⟨x42, ex42, hm⟩ := ob hm
 refine s_val wkP F rfl rfl rfl rfl (y_idxT F rfl Tryz.underlying9 rfl rfl ex42) ?_; clear F; intro a F
 refine bk [0, 0, 0] F H rfl trivial ?_; clear F; intro a F
 by_cases hg43 : 126 < ((x42).toNat : Int)
 replace hm := ifT hg43 hm
 replace F := F.bT 19 hg43 rfl
 refine bk (List.replicate 5 0) F H rfl trivial ?_; clear F; intro a F
 refine nl (cT F rfl ?_)
 refine sr (bk [0] F H rfl trivial ?_); clear F; intro a F
 refine nl (wr (br (tr (tr ?_)))); cases hm; refine ⟨_, rfl, ?_⟩; rintro rfl
 refine br (tr ?_)
 replace hm := elimR hm23
 refine tr ?_
 cases hm
 refine x_ret1 F rfl rfl ?_
 exact ⟨_, rfl, rfl, H⟩
 replace hm := ifF hg43 hm
 replace F := F.bF 19 hg43 rfl
 refine bk [0, 0] F H rfl trivial ?_; clear F; intro a F
 refine g_onP F rfl rfl rfl rfl ?_
 obtain ⟨x44, ex44, hm⟩ := ob hm
 refine s_val wkP F rfl rfl rfl rfl (y_idxT F rfl Tryz.underlying9 rfl rfl ex44) ?_; clear F; intro a F
 refine bk [0, 0] F H rfl trivial ?_; clear F; intro a F
 refine nl (cP F rfl (fun hg45 => ?_) (fun hg45 => ?_))
 replace hm := ifT hg45 hm
 refine sr (bk [0] F H rfl trivial ?_); clear F; intro a F
 refine nl (wr (br (tr (tr ?_)))); cases hm; refine ⟨_, rfl, ?_⟩; rintro rfl
 refine br (tr ?_)
 replace hm := elimR hm23
 refine tr ?_
 cases hm
 refine x_ret1 F rfl rfl ?_
 exact ⟨_, rfl, rfl, H⟩
 replace hm := ifF hg45 hm
 refine sk (bn (ct (rl (bk [0, 0] F H rfl trivial ?_)))); clear F; intro a F
 refine lz (ct ?_); cases hm
 exact ⟨_, rfl, ⟨F.sl rfl, H⟩⟩
 replace hm := ifF hg39 hm
 refine ex (cx (cx ?_)); cases hm; refine ⟨_, rfl, ?_⟩; rintro rfl
 refine ch (ct ?_)
 exact ⟨_, rfl, F.sl rfl, H⟩
 clear F H hm
 rintro a w ⟨r23, rfl, F, H⟩; have hm := elimL hm23; clear hm23
 refine ct (sr (bk [0] F H rfl trivial ?_)); clear F; intro a F
 refine s_val wkP F rfl rfl rfl rfl (y_neT (l := x0_) (m := []) F rfl rfl rfl) ?_; clear F; intro a F
 refine bk [0] F H rfl trivial ?_; clear F; intro a F
 by_cases hg46 : x0_ = ([])
 replace hm := ifT hg46 hm
 replace F := F.nT 28 hg46 rfl
 refine bk (List.replicate 5 0) F H rfl trivial ?_; clear F; intro a F
 refine nl (wr ?_)
 cases hm
 refine x_ret1 F rfl rfl ?_
 exact ⟨_, rfl, rfl, H⟩
 replace hm := ifF hg46 hm
 replace F := F.nF 28 hg46 rfl
 refine bk [0] F H rfl trivial ?_; clear F; intro a F
 refine g_onP F rfl rfl rfl rfl ?_
 refine s_val wkP F rfl rfl rfl rfl (y_lenT (l := x0_) F rfl Tryz.underlying9 rfl) ?_; clear F; intro a F
 refine bk [0, 0, 0] F H rfl trivial ?_; clear F; intro a F
 refine nl (wr ?_)
 cases hm
 refine x_ret1 F rfl rfl ?_
 exact ⟨_, rfl, rfl, H⟩
theorem ent92 : ∀ args w, (callFunc 92 args).run Tryz.prog w = .ok (.enter 92 args) w := enters Tryz.func92 (by kernel_rfl) rfl
set_option maxRecDepth 100000 in
set_option maxHeartbeats 4000000 in
theorem w_m_path_names_1 {x0_ : List UInt8}  {w0 w : World} {l : List HP}  {r : Bool} (hm : m_path_names_1 x0_ = some r) (H : St w0 w (l)) :
  Calls Tryz.prog 91 [.string (txb (x0_))].toArray w (fun e w' => ∃ v, e = .returned v ∧ v = .bool (r) ∧ St w0 w' (l)) := by
 unfold m_path_names_1 at hm
 refine x_enter Tryz.func91 rfl rfl rfl ?_
 intro a F
 refine sr (bk [0] F H rfl trivial ?_); clear F; intro a F
 refine nl (sr (bk [0] F H rfl trivial ?_)); clear F; intro a F
 obtain ⟨x1, ex1, hm⟩ := ob hm
 refine sc wkP F rfl ent92 (w_m_path_Name ex1 H:) ?_; clear F H; rintro _ w a ⟨rfl, H⟩ F
 refine bk [0, 0] F H rfl trivial ?_; clear F; intro a F
 refine nl (wr ?_)
 cases hm
 refine x_ret1 F rfl rfl ?_
 exact ⟨_, rfl, rfl, H⟩
theorem elem35 : ElemT Tryz.prog 35 9 1 16 (.string ByteArray.empty) := ⟨Tryz.underlying35, by kernel_rfl, by kernel_rfl, by decide⟩
theorem plain9 : Plain Tryz.prog 9 := by unfold Plain; rw [Tryz.underlying9]; rfl
theorem ent91 : ∀ args w, (callFunc 91 args).run Tryz.prog w = .ok (.enter 91 args) w := enters Tryz.func91 (by kernel_rfl) rfl
set_option maxRecDepth 100000 in
set_option maxHeartbeats 4000000 in
theorem w_ixName {s : List (List UInt8)} {p1 : Option Addr} {c1 : Nat} {w0 w : World} {l : List HP}  {r : Int} (hm : ixName s = some r) (H : St w0 w (HP.sl rStr p1 c1 s :: l)) :
  Calls Tryz.prog 108 [.slice p1 (s).length c1, .func (.func 91) #[] #[]].toArray w (fun e w' => ∃ v, e = .returned v ∧ v = .int .i64 (r) ∧ St w0 w' (l)) := by
 unfold ixName at hm
 refine x_enter Tryz.func108 rfl rfl rfl ?_
 intro a F
 refine sr (bk [0] F H rfl trivial ?_); clear F; intro a F
 refine nl (sq (sr (bk [0, 0, 0] F H rfl ⟨⟨_, Tryz.underlying35⟩, trivial⟩ ?_))); clear F; intro a F
 refine nl ?_
 obtain ⟨o21, eo21, hm21⟩ := ob hm; clear hm; revert eo21; intro hm
 refine x_mid (fun aa ww => ∃ r21, o21 = Sum.inl r21 ∧ Fr ⟨19, []⟩ aa [] ∧ St w0 ww (l)) ?_ ?_
 refine bl (x_loopO _ (fun (s34 : Int) aa ww => Fr ⟨19, []⟩ aa [(0, .slice p1 (s).length c1), (1, .func (.func 91) #[] #[]), (7, .int .i64 (((s).length : Int))), (8, .int .i64 (s34))] ∧ St w0 ww (HP.sl rStr p1 c1 s :: l)) hm ⟨F.sl rfl, H⟩ ?_)
 clear F H hm
 rintro s34 a w o ⟨F, H⟩ hm
 refine sr (bk [0] F H rfl trivial ?_); clear F; intro a F
 refine nl (sq (cP F rfl (fun hg35 => ?_) (fun hg35 => ?_)))
 replace hm := ifT hg35 hm
 refine sk (ct (sq (bl (sr (bk [0, 0] F H rfl trivial ?_))))); clear F; intro a F
 refine nl (sr (bk [0, 0, 0] F H rfl trivial ?_)); clear F; intro a F
 obtain ⟨x36, ex36, hm⟩ := ob hm
 obtain ⟨b37, o37, hp37⟩ := H.slP 0 rfl (idxO_some ex36).2
 obtain ⟨cs38, hcl38, H⟩ := H.slEl 0 rfl hp37 (idxO_some ex36).2
 obtain rfl := H.rcStr 1 rfl
 replace H := H.dp 1 rfl
 clear hcl38
 refine s_val wkP F rfl rfl rfl rfl (y_idxS F elem35 rfl rfl rfl hp37 ex36) ?_; clear F; intro a F
 refine bk [0] F H rfl ⟨rfl, plain9, trivial⟩ ?_; clear F; intro a F
 obtain ⟨x39, ex39, hm⟩ := ob hm
 refine s_call wkP F rfl rfl rfl rfl (y_callV0 F rfl rfl rfl ent91) (w_m_path_names_1 ex39 H:) ?_; clear F H; rintro _ w a ⟨rfl, H⟩ F
 replace H := H.nf 2 rfl
 refine nl (cB F rfl (fun hg40 => ?_) (fun hg40 => ?_))
 replace hm := ifT hg40 hm
 refine sr (bk [0, 0] F H rfl trivial ?_); clear F; intro a F
 refine nl (wr (br (tr (tr ?_)))); cases hm; refine ⟨_, rfl, ?_⟩; rintro rfl
 refine br (tr ?_)
 replace hm := elimR hm21
 refine tr ?_
 cases hm
 refine x_ret1 F rfl rfl ?_
 exact ⟨_, rfl, rfl, (H.pm 2 [] rfl:)⟩
 replace hm := ifF (nT hg40) hm
 refine sk (bn (ct (rl (bk [0, 0] F H rfl trivial ?_)))); clear F; intro a F
 refine lz (ct ?_); cases hm
 exact ⟨_, rfl, ⟨F.sl rfl, (H.pm 2 [1] rfl:)⟩⟩
 replace hm := ifF hg35 hm
 refine ex (cx (cx ?_)); cases hm; refine ⟨_, rfl, ?_⟩; rintro rfl
 refine ch (ct ?_)
 exact ⟨_, rfl, F.cut _ trivial, (H.pm 1 [] rfl:)⟩
 clear F H hm
 rintro a w ⟨r21, rfl, F, H⟩; have hm := elimL hm21; clear hm21
 refine ct (sr (bk [0] F H rfl trivial ?_)); clear F; intro a F
 refine nl (wr ?_)
 cases hm
 refine x_ret1 F rfl rfl ?_
 exact ⟨_, rfl, rfl, H⟩
theorem ent108 : ∀ args w, (callFunc 108 args).run Tryz.prog w = .ok (.enter 108 args) w := enters Tryz.func108 (by kernel_rfl) rfl
set_option maxRecDepth 100000 in
set_option maxHeartbeats 4000000 in
theorem w_anyBad {s : List (List UInt8)} {p1 : Option Addr} {c1 : Nat} {w0 w : World} {l : List HP}  {r : Bool} (hm : anyBad s = some r) (H : St w0 w (HP.sl rStr p1 c1 s :: l)) :
  Calls Tryz.prog 90 [.slice p1 (s).length c1, .func (.func 91) #[] #[]].toArray w (fun e w' => ∃ v, e = .returned v ∧ v = .bool (r) ∧ St w0 w' (l)) := by
 unfold anyBad at hm
 refine x_enter Tryz.func90 rfl rfl rfl ?_
 intro a F
 refine sr (bk [0] F H rfl trivial ?_); clear F; intro a F
 refine nl (sr (bk [0, 0] F H rfl trivial ?_)); clear F; intro a F
 obtain ⟨x2, ex2, hm⟩ := ob hm
 refine sc wkP F rfl ent108 (w_ixName ex2 (H.pm 1 [0, 0] rfl:):) ?_; clear F H; rintro _ w a ⟨rfl, H⟩ F
 refine bk [0, 0] F H rfl trivial ?_; clear F; intro a F
 replace H := H.nf 1 rfl
 refine nl (wr ?_)
 cases hm
 refine x_ret1 F rfl rfl ?_
 exact ⟨_, rfl, rfl, (H.pm 1 [] rfl:)⟩
theorem ent88 : ∀ args w, (callFunc 88 args).run Tryz.prog w = .ok (.enter 88 args) w := enters Tryz.func88 (by kernel_rfl) rfl
theorem ent89 : ∀ args w, (callFunc 89 args).run Tryz.prog w = .ok (.enter 89 args) w := enters Tryz.func89 (by kernel_rfl) rfl
theorem ent90 : ∀ args w, (callFunc 90 args).run Tryz.prog w = .ok (.enter 90 args) w := enters Tryz.func90 (by kernel_rfl) rfl
set_option maxRecDepth 100000 in
set_option maxHeartbeats 4000000 in
theorem w_pNames {p : List UInt8}  {w0 w : World} {l : List HP}  {r : (List (List UInt8)) × Bool} (hm : pNames p = some r) (H : St w0 w (l)) :
  Calls Tryz.prog 73 [.string (txb (p))].toArray w (fun e w' => ∃ v, e = .returned v ∧ ∃ (p1 : Option Addr) (c1 : Nat), v = .tuple [.slice p1 (r.1).length c1, .bool (r.2)].toArray ∧ St w0 w' (HP.sl rStr p1 c1 r.1 :: l)) := by
 unfold pNames at hm
 refine x_enter Tryz.func73 rfl rfl rfl ?_
 intro a F
 refine sr (bk [0, 0] F H rfl trivial ?_); clear F; intro a F
 refine nl (sq (sr (bk [0] F H rfl trivial ?_))); clear F; intro a F
 refine s_val wkP F rfl rfl rfl rfl (y_eqT (l := p) (m := [47]) F rfl rfl rfl) ?_; clear F; intro a F
 refine nl (cP F rfl (fun hg2 => ?_) (fun hg2 => ?_))
 replace hm := ifT hg2 hm
 refine sr (bk [0, 0] F H rfl trivial ?_); clear F; intro a F
 refine nl (wr (tr ?_))
 replace H := H.slNil rStr
 cases hm
 refine x_ret2 F rfl rfl rfl ?_
 exact ⟨_, rfl, none, 0, rfl, H⟩
 replace hm := ifF hg2 hm
 refine sk (ct (sr (bk [0] F H rfl trivial ?_))); clear F; intro a F
 obtain ⟨x3, ex3, hm⟩ := ob hm
 refine sc wkP F rfl ent88 (w_cutPre ex3 H:) ?_; clear F H; rintro _ w a ⟨rfl, H⟩ F
 refine bk (List.replicate 5 0) F H rfl trivial ?_; clear F; intro a F
 refine nl (sr (bk [0] F H rfl trivial ?_)); clear F; intro a F
 obtain ⟨x4, ex4, hm⟩ := ob hm
 refine sc wkP F rfl ent89 (w_strSplit ex4 H:) ?_; clear F H; rintro _ w a ⟨p5, c5, rfl, H⟩ F
 refine bk [0] F H rfl trivial ?_; clear F; intro a F
 replace H := H.nf 1 rfl
 refine nl (sq (sr (bk [0, 0, 0] F H rfl trivial ?_))); clear F; intro a F
 by_cases hg6 : (!x3.2) = true
 replace hm := ifT hg6 hm
 replace F := F.vT 18 hg6 rfl
 refine bk (List.replicate 8 0) F H rfl trivial ?_; clear F; intro a F
 refine nl (cT F rfl ?_)
 refine sr (bk [0, 0] F H rfl trivial ?_); clear F; intro a F
 refine nl (wr (tr ?_))
 replace H := H.slNil rStr
 cases hm
 refine x_ret2 F rfl rfl rfl ?_
 exact ⟨_, rfl, none, 0, rfl, (H.pm 2 [0] rfl:)⟩
 replace hm := ifF hg6 hm
 replace F := F.vF 18 hg6 rfl
 refine bk [0] F H rfl trivial ?_; clear F; intro a F
 refine g_onP F rfl rfl rfl rfl ?_
 refine s_val wkP F rfl rfl rfl rfl (y_lenT (l := p) F rfl Tryz.underlying9 rfl) ?_; clear F; intro a F
 refine bk [0, 0, 0] F H rfl trivial ?_; clear F; intro a F
 by_cases hg7 : 24 < ((p).length : Int)
 replace hm := ifT hg7 hm
 replace F := F.bT 23 hg7 rfl
 refine bk [0, 0, 0] F H rfl trivial ?_; clear F; intro a F
 refine nl (cT F rfl ?_)
 refine sr (bk [0, 0] F H rfl trivial ?_); clear F; intro a F
 refine nl (wr (tr ?_))
 replace H := H.slNil rStr
 cases hm
 refine x_ret2 F rfl rfl rfl ?_
 exact ⟨_, rfl, none, 0, rfl, (H.pm 2 [0] rfl:)⟩
 replace hm := ifF hg7 hm
 replace F := F.bF 23 hg7 rfl
 refine bk [0] F H rfl trivial ?_; clear F; intro a F
 refine g_onP F rfl rfl rfl rfl ?_
 replace H := H.frz 0 rfl
 obtain ⟨x8, ex8, hm⟩ := ob hm
 refine sc wkP F rfl ent90 (w_anyBad ex8 (H.pm 1 [0, 0] rfl:):) ?_; clear F H; rintro _ w a ⟨rfl, H⟩ F
 refine bk [0] F H rfl trivial ?_; clear F; intro a F
 replace H := H.nf 1 rfl
 refine nl (cB F rfl (fun hg9 => ?_) (fun hg9 => ?_))
 replace hm := ifT hg9 hm
 refine sr (bk [0, 0] F H rfl trivial ?_); clear F; intro a F
 refine nl (wr (tr ?_))
 replace H := H.slNil rStr
 cases hm
 refine x_ret2 F rfl rfl rfl ?_
 exact ⟨_, rfl, none, 0, rfl, (H.pm 2 [0] rfl:)⟩
 replace hm := ifF (nT hg9) hm
 refine sk (ct (sr (bk [0, 0, 0] F H rfl trivial ?_))); clear F; intro a F
 refine nl (wr ?_)
 cases hm
 refine x_ret2 F rfl rfl rfl ?_
 exact ⟨_, rfl, p5, c5, rfl, H⟩
theorem ent93 : ∀ args w, (callFunc 93 args).run Tryz.prog w = .ok (.enter 93 args) w := enters Tryz.func93 (by kernel_rfl) rfl
set_option maxRecDepth 100000 in
set_option maxHeartbeats 4000000 in
theorem w_m_path_join {x0_ : List (List UInt8)} {p1 : Option Addr} {c1 : Nat} {w0 w : World} {l : List HP}  {r : (List UInt8)} (hm : m_path_join x0_ = some r) (H : St w0 w (HP.sl rStr p1 c1 x0_ :: l)) :
  Calls Tryz.prog 74 [.slice p1 (x0_).length c1].toArray w (fun e w' => ∃ v, e = .returned v ∧ v = .string (txb (r)) ∧ St w0 w' (l)) := by
 unfold m_path_join at hm
 refine x_enter Tryz.func74 rfl rfl rfl ?_
 intro a F
 refine sr (bk [0] F H rfl trivial ?_); clear F; intro a F
 refine nl (sr (bk [0] F H rfl trivial ?_)); clear F; intro a F
 obtain ⟨x2, ex2, hm⟩ := ob hm
 refine sc wkP F rfl ent93 (w_strJoin ex2 (H.pm 1 [0, 0] rfl:):) ?_; clear F H; rintro _ w a ⟨rfl, H⟩ F
 obtain ⟨x3, ex3, hm⟩ := ob hm
 refine s_val wkP F rfl rfl rfl rfl (y_addO F rfl rfl rfl ex3) ?_; clear F; intro a F
 refine bk [0] F H rfl trivial ?_; clear F; intro a F
 replace H := H.nf 1 rfl
 refine nl (wr ?_)
 cases hm
 refine x_ret1 F rfl rfl ?_
 exact ⟨_, rfl, rfl, (H.pm 1 [] rfl:)⟩
theorem ent73 : ∀ args w, (callFunc 73 args).run Tryz.prog w = .ok (.enter 73 args) w := enters Tryz.func73 (by kernel_rfl) rfl
set_option maxRecDepth 100000 in
set_option maxHeartbeats 4000000 in
theorem w_m_path_Check {x0_ : List UInt8}  {w0 w : World} {l : List HP}  {r : Int} (hm : m_path_Check x0_ = some r) (H : St w0 w (l)) :
  Calls Tryz.prog 49 [.string (txb (x0_))].toArray w (fun e w' => ∃ v, e = .returned v ∧ v = .int .i64 (r) ∧ St w0 w' (l)) := by
 unfold m_path_Check at hm
 refine x_enter Tryz.func49 rfl rfl rfl ?_
 intro a F
 refine sr (bk [0] F H rfl trivial ?_); clear F; intro a F
 refine nl (sq (sr (bk [0] F H rfl trivial ?_))); clear F; intro a F
 obtain ⟨x1, ex1, hm⟩ := ob hm
 refine sc wkP F rfl ent73 (w_pNames ex1 H:) ?_; clear F H; rintro _ w a ⟨p2, c2, rfl, H⟩ F
 refine bk (List.replicate 5 0) F H rfl trivial ?_; clear F; intro a F
 replace H := H.nf 1 rfl
 refine nl (sr (bk [0, 0] F H rfl trivial ?_)); clear F; intro a F
 refine nl (cB F rfl (fun hg3 => ?_) (fun hg3 => ?_))
 replace hm := ifT hg3 hm
 refine sr (bk [0] F H rfl trivial ?_); clear F; intro a F
 refine nl (wr (tr ?_))
 cases hm
 refine x_ret1 F rfl rfl ?_
 exact ⟨_, rfl, rfl, (H.pm 1 [] rfl:)⟩
 replace hm := ifF (nT hg3) hm
 refine sk (ct (sr (bk [0] F H rfl trivial ?_))); clear F; intro a F
 refine nl (wr ?_)
 cases hm
 refine x_ret1 F rfl rfl ?_
 exact ⟨_, rfl, rfl, (H.pm 1 [] rfl:)⟩
theorem ent74 : ∀ args w, (callFunc 74 args).run Tryz.prog w = .ok (.enter 74 args) w := enters Tryz.func74 (by kernel_rfl) rfl
set_option maxRecDepth 100000 in
set_option maxHeartbeats 4000000 in
theorem w_m_path_Parent {x0_ : List UInt8}  {w0 w : World} {l : List HP}  {r : (List UInt8)} (hm : m_path_Parent x0_ = some r) (H : St w0 w (l)) :
  Calls Tryz.prog 50 [.string (txb (x0_))].toArray w (fun e w' => ∃ v, e = .returned v ∧ v = .string (txb (r)) ∧ St w0 w' (l)) := by
 unfold m_path_Parent at hm
 refine x_enter Tryz.func50 rfl rfl rfl ?_
 intro a F
 refine sr (bk [0] F H rfl trivial ?_); clear F; intro a F
 refine nl (sr (bk [0] F H rfl trivial ?_)); clear F; intro a F
 obtain ⟨x1, ex1, hm⟩ := ob hm
 refine sc wkP F rfl ent73 (w_pNames ex1 H:) ?_; clear F H; rintro _ w a ⟨p2, c2, rfl, H⟩ F
 refine bk (List.replicate 5 0) F H rfl trivial ?_; clear F; intro a F
 replace H := H.nf 1 rfl
 refine nl (sq (sr (bk [0, 0, 0] F H rfl ⟨⟨_, Tryz.underlying35⟩, trivial⟩ ?_))); clear F; intro a F
 refine nl (cP F rfl (fun hg3 => ?_) (fun hg3 => ?_))
 replace hm := ifT hg3 hm
 refine sr (bk [0] F H rfl trivial ?_); clear F; intro a F
 refine nl (wr (tr ?_))
 cases hm
 refine x_ret1 F rfl rfl ?_
 exact ⟨_, rfl, rfl, (H.pm 1 [] rfl:)⟩
 replace hm := ifF hg3 hm
 refine sk (ct (sr (bk [0, 0, 0, 0] F H rfl ⟨⟨_, Tryz.underlying35⟩, trivial⟩ ?_))); clear F; intro a F
 obtain ⟨x5, ex5, hm⟩ := ob hm
 have hc4 := H.slCap 0 rfl
 replace H := H.slSubN 1 rfl 0 rfl ex5
 refine s_val wkP F rfl rfl rfl rfl (y_slH F elem35 rfl rfl rfl ex5 hc4) ?_; clear F; intro a F
 obtain ⟨x6, ex6, hm⟩ := ob hm
 refine sc wkP F rfl ent74 (w_m_path_join ex6 (H.pm 2 [0, 0, 1] rfl:):) ?_; clear F H; rintro _ w a ⟨rfl, H⟩ F
 refine bk [0] F H rfl trivial ?_; clear F; intro a F
 replace H := H.nf 2 rfl
 refine nl (wr ?_)
 cases hm
 refine x_ret1 F rfl rfl ?_
 exact ⟨_, rfl, rfl, (H.pm 2 [] rfl:)⟩
set_option maxRecDepth 100000 in
set_option maxHeartbeats 4000000 in
theorem w_m_path_Base {x0_ : List UInt8}  {w0 w : World} {l : List HP}  {r : (List UInt8)} (hm : m_path_Base x0_ = some r) (H : St w0 w (l)) :
  Calls Tryz.prog 106 [.string (txb (x0_))].toArray w (fun e w' => ∃ v, e = .returned v ∧ v = .string (txb (r)) ∧ St w0 w' (l)) := by
 unfold m_path_Base at hm
 refine x_enter Tryz.func106 rfl rfl rfl ?_
 intro a F
 refine sr (bk [0] F H rfl trivial ?_); clear F; intro a F
 refine nl (sr (bk [0] F H rfl trivial ?_)); clear F; intro a F
 obtain ⟨x1, ex1, hm⟩ := ob hm
 refine sc wkP F rfl ent73 (w_pNames ex1 H:) ?_; clear F H; rintro _ w a ⟨p2, c2, rfl, H⟩ F
 refine bk (List.replicate 5 0) F H rfl trivial ?_; clear F; intro a F
 replace H := H.nf 1 rfl
 refine nl (sq (sr (bk [0, 0, 0] F H rfl ⟨⟨_, Tryz.underlying35⟩, trivial⟩ ?_))); clear F; intro a F
 refine nl (cP F rfl (fun hg3 => ?_) (fun hg3 => ?_))
 replace hm := ifT hg3 hm
 refine sr (bk [0] F H rfl trivial ?_); clear F; intro a F
 refine nl (wr (tr ?_))
 cases hm
 refine x_ret1 F rfl rfl ?_
 exact ⟨_, rfl, rfl, (H.pm 1 [] rfl:)⟩
 replace hm := ifF hg3 hm
 refine sk (ct (sr (bk [0, 0, 0, 0] F H rfl ⟨⟨_, Tryz.underlying35⟩, trivial⟩ ?_))); clear F; intro a F
 obtain ⟨x4, ex4, hm⟩ := ob hm
 obtain ⟨b5, o5, hp5⟩ := H.slP 0 rfl (idxO_some ex4).2
 obtain ⟨cs6, hcl6, H⟩ := H.slEl 0 rfl hp5 (idxO_some ex4).2
 obtain rfl := H.rcStr 1 rfl
 replace H := H.dp 1 rfl
 clear hcl6
 refine s_val wkP F rfl rfl rfl rfl (y_idxS F elem35 rfl rfl rfl hp5 ex4) ?_; clear F; intro a F
 refine bk [0, 0] F H rfl ⟨rfl, plain9, trivial⟩ ?_; clear F; intro a F
 refine nl (wr ?_)
 cases hm
 refine x_ret1 F rfl rfl ?_
 exact ⟨_, rfl, rfl, (H.pm 2 [] rfl:)⟩
set_option maxRecDepth 100000 in
set_option maxHeartbeats 4000000 in
theorem w_m_slices_Equal___string_string_ {x0_ : List (List UInt8)} {x1_ : List (List UInt8)} {p1 : Option Addr} {c1 : Nat} {p2 : Option Addr} {c2 : Nat} {w0 w : World} {l : List HP}  {r : Bool} (hm : m_slices_Equal___string_string_ x0_ x1_ = some r) (H : St w0 w (HP.sl rStr p1 c1 x0_ :: HP.sl rStr p2 c2 x1_ :: l)) :
  Calls Tryz.prog 105 [.slice p1 (x0_).length c1, .slice p2 (x1_).length c2].toArray w (fun e w' => ∃ v, e = .returned v ∧ v = .bool (r) ∧ St w0 w' (l)) := by
 unfold m_slices_Equal___string_string_ at hm
 refine x_enter Tryz.func105 rfl rfl rfl ?_
 intro a F
 refine sr (bk [0] F H rfl trivial ?_); clear F; intro a F
 refine nl (sq (sr (bk (List.replicate 5 0) F H rfl ⟨⟨_, Tryz.underlying35⟩, ⟨_, Tryz.underlying35⟩, trivial⟩ ?_))); clear F; intro a F
 refine nl (cN F rfl (fun hg3 => ?_) (fun hg3 => ?_))
 replace hm := ifF hg3 hm
 refine sr (bk [0] F H rfl trivial ?_); clear F; intro a F
 refine nl (wr (tr ?_))
 cases hm
 refine x_ret1 F rfl rfl ?_
 exact ⟨_, rfl, rfl, (H.pm 2 [] rfl:)⟩
 replace hm := ifT hg3 hm
 refine sk (ct (sq (sr (bk [0, 0, 0] F H rfl ⟨⟨_, Tryz.underlying35⟩, trivial⟩ ?_)))); clear F; intro a F
 refine nl ?_
 obtain ⟨o29, eo29, hm29⟩ := ob hm; clear hm; revert eo29; intro hm
 refine x_mid (fun aa ww => ∃ r29, o29 = Sum.inl r29 ∧ Fr ⟨26, []⟩ aa [] ∧ St w0 ww (l)) ?_ ?_
 refine bl (x_loopO _ (fun (s46 : Int) aa ww => Fr ⟨26, []⟩ aa [(0, .slice p1 (x0_).length c1), (1, .slice p2 (x1_).length c2), (12, .int .i64 (((x0_).length : Int))), (13, .int .i64 (s46))] ∧ St w0 ww (HP.sl rStr p1 c1 x0_ :: HP.sl rStr p2 c2 x1_ :: l)) hm ⟨F.sl rfl, H⟩ ?_)
 clear F H hm
 rintro s46 a w o ⟨F, H⟩ hm
 refine sr (bk [0] F H rfl trivial ?_); clear F; intro a F
 refine nl (sq (cP F rfl (fun hg47 => ?_) (fun hg47 => ?_)))
 replace hm := ifT hg47 hm
 refine sk (ct (sq (bl (sr (bk [0, 0] F H rfl trivial ?_))))); clear F; intro a F
 refine nl (sq ?_)
 obtain ⟨x48, ex48, hm⟩ := ob hm
 obtain ⟨b49, o49, hp49⟩ := H.slP 0 rfl (idxO_some ex48).2
 obtain ⟨cs50, hcl50, H⟩ := H.slEl 0 rfl hp49 (idxO_some ex48).2
 obtain rfl := H.rcStr 1 rfl
 replace H := H.dp 1 rfl
 clear hcl50
 obtain ⟨x51, ex51, hm⟩ := ob hm
 obtain ⟨b52, o52, hp52⟩ := H.slP 2 rfl (idxO_some ex51).2
 obtain ⟨cs53, hcl53, H⟩ := H.slEl 2 rfl hp52 (idxO_some ex51).2
 obtain rfl := H.rcStr 1 rfl
 replace H := H.dp 1 rfl
 clear hcl53
 refine qr H (by kernel_rfl) (by kernel_rfl) ?_
 refine qbk [0, 0] F rfl trivial ?_; clear F; intro a F
 refine q_val F rfl rfl rfl (fun u hu => y_idxS F elem35 rfl rfl rfl hp49 ex48) ?_; clear F; intro a F
 refine qbk [1000, 0, 0] F rfl ⟨rfl, plain9, trivial⟩ ?_; clear F; intro a F
 refine q_val F rfl rfl rfl (fun u hu => y_idxS F elem35 rfl rfl rfl hp52 ex51) ?_; clear F; intro a F
 refine qbk [0] F rfl ⟨rfl, plain9, trivial⟩ ?_; clear F; intro a F
 refine q_val F rfl rfl rfl (fun u hu => y_neT (l := x48) (m := x51) F rfl rfl rfl) ?_; clear F; intro a F
 refine q_nil ?_; clear H; intro w H
 refine ct (cN F rfl (fun hg54 => ?_) (fun hg54 => ?_))
 replace hm := ifF hg54 hm
 refine sr (bk [0] F H rfl trivial ?_); clear F; intro a F
 refine nl (wr (br (tr (tr ?_)))); cases hm; refine ⟨_, rfl, ?_⟩; rintro rfl
 refine br (tr ?_)
 replace hm := elimR hm29
 refine tr ?_
 cases hm
 refine x_ret1 F rfl rfl ?_
 exact ⟨_, rfl, rfl, (H.pm 4 [] rfl:)⟩
 replace hm := ifT hg54 hm
 refine sk (bn (ct (rl (bk [0, 0] F H rfl trivial ?_)))); clear F; intro a F
 refine lz (ct ?_); cases hm
 exact ⟨_, rfl, ⟨F.sl rfl, (H.pm 4 [2, 3] rfl:)⟩⟩
 replace hm := ifF hg47 hm
 refine ex (cx (cx ?_)); cases hm; refine ⟨_, rfl, ?_⟩; rintro rfl
 refine ch (ct ?_)
 exact ⟨_, rfl, F.cut _ trivial, (H.pm 2 [] rfl:)⟩
 clear F H hm
 rintro a w ⟨r29, rfl, F, H⟩; have hm := elimL hm29; clear hm29
 refine ct (sr (bk [0] F H rfl trivial ?_)); clear F; intro a F
 refine nl (wr ?_)
 cases hm
 refine x_ret1 F rfl rfl ?_
 exact ⟨_, rfl, rfl, H⟩
theorem ent105 : ∀ args w, (callFunc 105 args).run Tryz.prog w = .ok (.enter 105 args) w := enters Tryz.func105 (by kernel_rfl) rfl
set_option maxRecDepth 100000 in
set_option maxHeartbeats 4000000 in
theorem w_m_path_Within {x0_ : List UInt8} {x1_ : List UInt8}  {w0 w : World} {l : List HP}  {r : Bool} (hm : m_path_Within x0_ x1_ = some r) (H : St w0 w (l)) :
  Calls Tryz.prog 82 [.string (txb (x0_)), .string (txb (x1_))].toArray w (fun e w' => ∃ v, e = .returned v ∧ v = .bool (r) ∧ St w0 w' (l)) := by
 unfold m_path_Within at hm
 refine x_enter Tryz.func82 rfl rfl rfl ?_
 intro a F
 refine sr (bk [0] F H rfl trivial ?_); clear F; intro a F
 refine nl (sr (bk [0] F H rfl trivial ?_)); clear F; intro a F
 obtain ⟨x1, ex1, hm⟩ := ob hm
 refine sc wkP F rfl ent73 (w_pNames ex1 H:) ?_; clear F H; rintro _ w a ⟨p2, c2, rfl, H⟩ F
 refine bk (List.replicate 5 0) F H rfl trivial ?_; clear F; intro a F
 replace H := H.nf 1 rfl
 refine nl (sr (bk [0] F H rfl trivial ?_)); clear F; intro a F
 obtain ⟨x3, ex3, hm⟩ := ob hm
 refine sc wkP F rfl ent73 (w_pNames ex3 H:) ?_; clear F H; rintro _ w a ⟨p4, c4, rfl, H⟩ F
 refine bk (List.replicate 5 0) F H rfl trivial ?_; clear F; intro a F
 replace H := H.nf 2 rfl
 refine nl (sr (bk [0, 0] F H rfl trivial ?_)); clear F; intro a F
 by_cases hg5 : x1.2 = true
 replace hm := ifT hg5 hm
 replace F := F.vT 20 hg5 rfl
 refine bk [0, 0, 0] F H rfl trivial ?_; clear F; intro a F
 by_cases hg6 : x3.2 = true
 replace hm := ifT hg6 hm
 replace F := F.vT 23 hg6 rfl
 refine bk (List.replicate 7 0) F H rfl ⟨⟨_, Tryz.underlying35⟩, ⟨_, Tryz.underlying35⟩, trivial⟩ ?_; clear F; intro a F
 by_cases hg7 : ((x1.1).length : Int) ≤ ((x3.1).length : Int)
 replace hm := ifT hg7 hm
 replace F := F.bT 30 hg7 rfl
 refine bk [0, 0, 0, 0] F H rfl ⟨⟨_, Tryz.underlying35⟩, trivial⟩ ?_; clear F; intro a F
 refine g_onP F rfl rfl rfl rfl ?_
 obtain ⟨x9, ex9, hm⟩ := ob hm
 have hc8 := H.slCap 0 rfl
 replace H := H.slSubN 1 rfl 0 rfl ex9
 refine s_val wkP F rfl rfl rfl rfl (y_slH F elem35 rfl rfl rfl ex9 hc8) ?_; clear F; intro a F
 refine g_onP F rfl rfl rfl rfl ?_
 obtain ⟨x10, ex10, hm⟩ := ob hm
 refine sc wkP F rfl ent105 (w_m_slices_Equal___string_string_ ex10 (H.pm 3 [2, 0, 0, 1, 2] rfl:):) ?_; clear F H; rintro _ w a ⟨rfl, H⟩ F
 refine bk [0, 0] F H rfl trivial ?_; clear F; intro a F
 replace H := H.nf 3 rfl
 refine nl (wr ?_)
 cases hm
 refine x_ret1 F rfl rfl ?_
 exact ⟨_, rfl, rfl, (H.pm 3 [] rfl:)⟩
 replace hm := ifF hg7 hm
 replace F := F.bF 30 hg7 rfl
 refine bk (List.replicate 8 0) F H rfl trivial ?_; clear F; intro a F
 refine nl (wr ?_)
 cases hm
 refine x_ret1 F rfl rfl ?_
 exact ⟨_, rfl, rfl, (H.pm 2 [] rfl:)⟩
 replace hm := ifF hg6 hm
 replace F := F.vF 23 hg6 rfl
 refine bk (List.replicate 15 0) F H rfl trivial ?_; clear F; intro a F
 refine nl (wr ?_)
 cases hm
 refine x_ret1 F rfl rfl ?_
 exact ⟨_, rfl, rfl, (H.pm 2 [] rfl:)⟩
 replace hm := ifF hg5 hm
 replace F := F.vF 20 hg5 rfl
 refine bk (List.replicate 18 0) F H rfl trivial ?_; clear F; intro a F
 refine nl (wr ?_)
 cases hm
 refine x_ret1 F rfl rfl ?_
 exact ⟨_, rfl, rfl, (H.pm 2 [] rfl:)⟩
theorem zero9 : Zero1 Tryz.prog 9 (.string ByteArray.empty) := ⟨by kernel_rfl, rfl⟩
set_option maxRecDepth 100000 in
set_option maxHeartbeats 4000000 in
theorem w_m_path_Ancestors {x0_ : List UInt8}  {w0 w : World} {l : List HP}  {r : (List (List UInt8))} (hm : m_path_Ancestors x0_ = some r) (H : St w0 w (l)) :
  Calls Tryz.prog 104 [.string (txb (x0_))].toArray w (fun e w' => ∃ v, e = .returned v ∧ ∃ (p1 : Option Addr) (c1 : Nat), v = .slice p1 (r).length c1 ∧ St w0 w' (HP.sl rStr p1 c1 r :: l)) := by
 unfold m_path_Ancestors at hm
 refine x_enter Tryz.func104 rfl rfl rfl ?_
 intro a F
 refine sr (bk [0] F H rfl trivial ?_); clear F; intro a F
 refine nl (sr (bk [0] F H rfl trivial ?_)); clear F; intro a F
 obtain ⟨x2, ex2, hm⟩ := ob hm
 refine sc wkP F rfl ent73 (w_pNames ex2 H:) ?_; clear F H; rintro _ w a ⟨p3, c3, rfl, H⟩ F
 refine bk (List.replicate 5 0) F H rfl trivial ?_; clear F; intro a F
 replace H := H.nf 1 rfl
 refine nl (sq (sr (bk [0, 0, 0] F H rfl ⟨⟨_, Tryz.underlying35⟩, trivial⟩ ?_))); clear F; intro a F
 refine nl ?_
 obtain ⟨r29, er29, hm29⟩ := ob hm; clear hm; revert er29; intro hm
 refine x_mid (fun aa ww => ∃ (p30 : Option Addr) (c30 : Nat), Fr ⟨25, []⟩ aa [(2, .slice p30 (r29).length c30)] ∧ St w0 ww (HP.ow rStr 9 p30 c30 r29 :: l)) ?_ ?_
 refine bl ?_
 replace H := H.owNil rStr 9
 refine x_loopO _ (fun (s47 : (List (List UInt8)) × Int) aa ww => ∃ (p48 : Option Addr) (c48 : Nat), Fr ⟨25, []⟩ aa [(2, .slice p48 (s47.1).length c48), (3, .slice p3 (x2.1).length c3), (12, .int .i64 (((x2.1).length : Int))), (13, .int .i64 (s47.2))] ∧ St w0 ww (HP.sl rStr p3 c3 x2.1 :: HP.ow rStr 9 p48 c48 s47.1 :: l)) hm ⟨none, 0, F.sl rfl, (H.pm 2 [1, 0] rfl:)⟩ ?_
 clear F H hm
 rintro s47 a w o ⟨p48, c48, F, H⟩ hm
 refine sr (bk [0] F H rfl trivial ?_); clear F; intro a F
 refine nl (sq (cP F rfl (fun hg49 => ?_) (fun hg49 => ?_)))
 replace hm := ifT hg49 hm
 refine sk (ct (sq (bl (sr (bk [0, 0] F H rfl trivial ?_))))); clear F; intro a F
 refine nl (rl (bk [0, 0, 0] F H rfl trivial ?_)); clear F; intro a F
 obtain ⟨x51, ex51, hm⟩ := ob hm
 have hc50 := H.slCap 0 rfl
 replace H := H.slSubN 1 rfl 0 rfl ex51
 refine s_val wkP F rfl rfl rfl rfl (y_slH F elem35 rfl rfl rfl ex51 hc50) ?_; clear F; intro a F
 obtain ⟨x52, ex52, hm⟩ := ob hm
 refine sc wkP F rfl ent74 (w_m_path_join ex52 (H.pm 3 [0, 0, 1, 2] rfl:):) ?_; clear F H; rintro _ w a ⟨rfl, H⟩ F
 refine s_buildC wkP F rfl rfl rfl elem35 zero9 rfl rfl rfl rfl (by simp [Value.cells]) (by decide) H ?_; clear F H; intro b53 w a H F
 replace H := H.blkOw1 (R := rStr) (x := x52) (fun gg => rfl)
 replace H := H.frz 0 rfl
 obtain ⟨x55, ex55, hm⟩ := ob hm
 refine s_app wkP F rfl rfl rfl rfl rfl rfl elem35 rfl ex55 H 3 0 rfl rfl ?_; clear F H; intro p54 c54 w a H F
 refine bk [0] F H rfl trivial ?_; clear F; intro a F
 replace H := H.nf 4 rfl
 refine lz (bn (ct (rl (bk [0, 0] F H rfl trivial ?_)))); clear F; intro a F
 refine lz (ct ?_); cases hm
 exact ⟨_, rfl, ⟨p54, c54, F.sl rfl, (H.pm 4 [2, 3] rfl:)⟩⟩
 replace hm := ifF hg49 hm
 refine ex (cx (cx ?_)); cases hm; refine ⟨_, rfl, ?_⟩; rintro rfl
 refine ch (ct ?_)
 exact ⟨p48, c48, F.sl rfl, (H.pm 2 [1] rfl:)⟩
 clear F H hm
 rintro a w ⟨p30, c30, F, H⟩; have hm := hm29; clear hm29
 refine ct (sr (bk [0, 0] F H rfl trivial ?_)); clear F; intro a F
 refine nl (wr ?_)
 replace H := H.frz 0 rfl
 cases hm
 refine x_ret1 F rfl rfl ?_
 exact ⟨_, rfl, p30, c30, rfl, H⟩
end Go.Proofs.YtohmcgmmphpgoaaGreatDoor
