/- paths -/
import Derived.Test.YtnagibpmfabkjaaGreatDoorStrA
set_option linter.unusedSimpArgs false
set_option linter.unusedVariables false
namespace Go.Proofs.YtnagibpmfabkjaaGreatDoor
open Go.RowKit Go.Tri
set_option maxRecDepth 100000
set_option maxHeartbeats 4000000
theorem w_m_path_Name {x0_ : List UInt8}  {w0 w : World} {l : List HP}  {r : Bool} (hm : m_path_Name x0_ = some r) (H : St w0 w (l)) :
  Calls Tryz.prog 52 [.string (txb (x0_))].toArray w (fun e w' => ∃ v, e = .returned v ∧ v = .bool (r) ∧ St w0 w' (l)) := by
 unfold m_path_Name at hm
 refine x_enter Tryz.func52 rfl rfl rfl ?_
 intro a F
 refine sb [0] F H rfl fun a F => ?_
 refine nl (sq (sb [0] F H rfl fun a F => ?_))
 refine sv F rfl (y_lenT (l := x0_) F rfl Tryz.underlying9 rfl) fun a F => ?_
 refine bb [0] F H rfl fun a F => ?_
 refine nl (xr0 0 [0] [] F H hm rfl rfl (fun r23 z => z) (fun r23 z => z) (fun o23 hm hm23 => ?_) (fun r23 a w hm F H => ?_))
 refine bl (xl0 0 [0,5] [] F H hm rfl rfl (fun (s38 : Int) z => (6, .int .i64 (s38)) :: z) (fun s38 z => z) ⟨F.sl rfl, H⟩ (fun s38 a w o F H hm => ?_))
 refine sb [0] F H rfl fun a F => ?_
 refine nl (sq (cPm F rfl hm (fun hg39 hm => ?_) (fun hg39 hm => ?_)))
 refine sk (ct (sq (bl (sb [0,0] F H rfl fun a F => ?_))))
 refine nb [0,0] F H rfl fun a F => ?_
 obtain ⟨x40, ex40, hm⟩ := ob hm
 refine sv F rfl (y_idxT F rfl Tryz.underlying9 rfl rfl ex40) fun a F => ?_
 refine bb [0,0] F H rfl fun a F => ?_
 rcases spP 13 F rfl hm with ⟨hg41, hm, F⟩ | ⟨hg41, hm, F⟩
 refine bb (List.replicate 11 0) F H rfl fun a F => ?_
 refine nl (cT F rfl ?_)
 refine sb [0] F H rfl fun a F => ?_
 refine nl (wr (br (tr (tr ?_)))); cases hm; refine ⟨_, rfl, ?_⟩; rintro rfl
 refine br (tr ?_)
 replace hm := elimR hm23
 refine tr ?_
 cases hm
 refine x_ret1 F rfl rfl ?_
 exact ⟨_, rfl, rfl, H⟩
 refine bb [0,0] F H rfl fun a F => ?_
 refine g_onP F rfl rfl rfl rfl ?_
 obtain ⟨x42, ex42, hm⟩ := ob hm
 refine sv F rfl (y_idxT F rfl Tryz.underlying9 rfl rfl ex42) fun a F => ?_
 refine bb [0,0,0] F H rfl fun a F => ?_
 rcases spP 19 F rfl hm with ⟨hg43, hm, F⟩ | ⟨hg43, hm, F⟩
 refine bb (List.replicate 5 0) F H rfl fun a F => ?_
 refine nl (cT F rfl ?_)
 refine sb [0] F H rfl fun a F => ?_
 refine nl (wr (br (tr (tr ?_)))); cases hm; refine ⟨_, rfl, ?_⟩; rintro rfl
 refine br (tr ?_)
 replace hm := elimR hm23
 refine tr ?_
 cases hm
 refine x_ret1 F rfl rfl ?_
 exact ⟨_, rfl, rfl, H⟩
 refine bb [0,0] F H rfl fun a F => ?_
 refine g_onP F rfl rfl rfl rfl ?_
 obtain ⟨x44, ex44, hm⟩ := ob hm
 refine sv F rfl (y_idxT F rfl Tryz.underlying9 rfl rfl ex44) fun a F => ?_
 refine bb [0,0] F H rfl fun a F => ?_
 refine nl (cPm F rfl hm (fun hg45 hm => ?_) (fun hg45 hm => ?_))
 refine sb [0] F H rfl fun a F => ?_
 refine nl (wr (br (tr (tr ?_)))); cases hm; refine ⟨_, rfl, ?_⟩; rintro rfl
 refine br (tr ?_)
 replace hm := elimR hm23
 refine tr ?_
 cases hm
 refine x_ret1 F rfl rfl ?_
 exact ⟨_, rfl, rfl, H⟩
 refine sk (bn (ct (rl (bb [0,0] F H rfl fun a F => ?_))))
 refine lz (ct ?_); cases hm
 exact ⟨_, rfl, ⟨F.sl rfl, H⟩⟩
 refine ex (cx (cx ?_)); cases hm; refine ⟨_, rfl, ?_⟩; rintro rfl
 refine ch (ct ?_)
 exact ⟨_, rfl, F.sl rfl, H⟩
 refine ct (sb [0] F H rfl fun a F => ?_)
 refine sv F rfl (y_neT (l := x0_) (m := []) F rfl rfl rfl) fun a F => ?_
 refine bb [0] F H rfl fun a F => ?_
 rcases spN 28 F rfl hm with ⟨hg46, hm, F⟩ | ⟨hg46, hm, F⟩
 refine bb (List.replicate 5 0) F H rfl fun a F => ?_
 refine nl (wr ?_)
 cases hm
 refine x_ret1 F rfl rfl ?_
 exact ⟨_, rfl, rfl, H⟩
 refine bb [0] F H rfl fun a F => ?_
 refine g_onP F rfl rfl rfl rfl ?_
 refine sv F rfl (y_lenT (l := x0_) F rfl Tryz.underlying9 rfl) fun a F => ?_
 refine bb [0,0,0] F H rfl fun a F => ?_
 refine nl (wr ?_)
 cases hm
 refine x_ret1 F rfl rfl ?_
 exact ⟨_, rfl, rfl, H⟩
theorem ent52 : En Tryz.prog 52 := enters Tryz.func52 (by kernel_rfl) rfl
theorem w_m_path_names_1 {x0_ : List UInt8}  {w0 w : World} {l : List HP}  {r : Bool} (hm : m_path_names_1 x0_ = some r) (H : St w0 w (l)) :
  Calls Tryz.prog 169 [.string (txb (x0_))].toArray w (fun e w' => ∃ v, e = .returned v ∧ v = .bool (r) ∧ St w0 w' (l)) := by
 unfold m_path_names_1 at hm
 refine x_enter Tryz.func169 rfl rfl rfl ?_
 intro a F
 refine sb [0] F H rfl fun a F => ?_
 refine nb [0] F H rfl fun a F => ?_
 obtain ⟨x1, ex1, hm⟩ := ob hm
 refine sd F rfl ent52 (w_m_path_Name ex1 H:) ?_; rintro _ w a ⟨rfl, H⟩ F
 refine bb [0,0] F H rfl fun a F => ?_
 refine nl (wr ?_)
 cases hm
 refine x_ret1 F rfl rfl ?_
 exact ⟨_, rfl, rfl, H⟩
theorem elem33 : ElemT Tryz.prog 33 9 1 16 (.string ByteArray.empty) := ⟨Tryz.underlying33, by kernel_rfl, by kernel_rfl, by decide⟩
theorem plain9 : Plain Tryz.prog 9 := by unfold Plain; rw [Tryz.underlying9]; rfl
theorem ent169 : En Tryz.prog 169 := enters Tryz.func169 (by kernel_rfl) rfl
theorem w_ixName {s : List (List UInt8)} {p1 : Option Addr} {c1 : Nat} {w0 w : World} {l : List HP}  {r : Int} (hm : ixName s = some r) (H : St w0 w (HP.sl rStr p1 c1 s :: l)) :
  Calls Tryz.prog 132 [.slice p1 (s).length c1, .func (.func 169) #[] #[]].toArray w (fun e w' => ∃ v, e = .returned v ∧ v = .int .i64 (r) ∧ St w0 w' (l)) := by
 unfold ixName at hm
 refine x_enter Tryz.func132 rfl rfl rfl ?_
 intro a F
 refine sb [0] F H rfl fun a F => ?_
 refine nl (sq (sr (bk [0,0,0] F H rfl ⟨⟨_, Tryz.underlying33⟩, trivial⟩ fun a F => ?_)))
 refine nl (xr0 1 [] [] F H hm rfl rfl (fun r21 z => z) (fun r21 z => z) (fun o21 hm hm21 => ?_) (fun r21 a w hm F H => ?_))
 refine bl (xl0 1 [0,1,7] [0] F H hm rfl rfl (fun (s34 : Int) z => (8, .int .i64 (s34)) :: z) (fun s34 z => z) ⟨F.sl rfl, H⟩ (fun s34 a w o F H hm => ?_))
 refine sb [0] F H rfl fun a F => ?_
 refine nl (sq (cPm F rfl hm (fun hg35 hm => ?_) (fun hg35 hm => ?_)))
 refine sk (ct (sq (bl (sb [0,0] F H rfl fun a F => ?_))))
 refine nb [0,0,0] F H rfl fun a F => ?_
 obtain ⟨x36, ex36, hm⟩ := ob hm
 obtain ⟨b37, o37, hp37⟩ := H.slP 0 rfl (idxO_some ex36).2
 obtain ⟨cs38, hcl38, H⟩ := H.slEl 0 rfl hp37 (idxO_some ex36).2
 obtain rfl := H.rcStr 1 rfl
 replace H := H.dp 1 rfl
 clear hcl38
 refine sv F rfl (y_idxS F elem33 rfl rfl rfl hp37 ex36) fun a F => ?_
 refine bk [0] F H rfl ⟨rfl, plain9, trivial⟩ fun a F => ?_
 obtain ⟨x39, ex39, hm⟩ := ob hm
 refine s_call wkP F rfl rfl rfl rfl (y_callV0 F rfl rfl rfl ent169) (w_m_path_names_1 ex39 H:) ?_; rintro _ w a ⟨rfl, H⟩ F
 replace H := H.nf 2 rfl
 refine nl (cB F rfl (fun hg40 => ?_) (fun hg40 => ?_))
 replace hm := ifT hg40 hm
 refine sb [0,0] F H rfl fun a F => ?_
 refine nl (wr (br (tr (tr ?_)))); cases hm; refine ⟨_, rfl, ?_⟩; rintro rfl
 refine br (tr ?_)
 replace hm := elimR hm21
 refine tr ?_
 cases hm
 refine x_ret1 F rfl rfl ?_
 exact ⟨_, rfl, rfl, (H.pm 2 [] rfl:)⟩
 replace hm := ifF (nT hg40) hm
 refine sk (bn (ct (rl (bb [0,0] F H rfl fun a F => ?_))))
 refine lz (ct ?_); cases hm
 exact ⟨_, rfl, ⟨F.sl rfl, (H.pm 2 [1] rfl:)⟩⟩
 refine ex (cx (cx ?_)); cases hm; refine ⟨_, rfl, ?_⟩; rintro rfl
 refine ch (ct ?_)
 exact ⟨_, rfl, F.cut _ trivial, (H.pm 1 [] rfl:)⟩
 refine ct (sb [0] F H rfl fun a F => ?_)
 refine nl (wr ?_)
 cases hm
 refine x_ret1 F rfl rfl ?_
 exact ⟨_, rfl, rfl, H⟩
theorem ent132 : En Tryz.prog 132 := enters Tryz.func132 (by kernel_rfl) rfl
theorem w_anyBad {s : List (List UInt8)} {p1 : Option Addr} {c1 : Nat} {w0 w : World} {l : List HP}  {r : Bool} (hm : anyBad s = some r) (H : St w0 w (HP.sl rStr p1 c1 s :: l)) :
  Calls Tryz.prog 96 [.slice p1 (s).length c1, .func (.func 169) #[] #[]].toArray w (fun e w' => ∃ v, e = .returned v ∧ v = .bool (r) ∧ St w0 w' (l)) := by
 unfold anyBad at hm
 refine x_enter Tryz.func96 rfl rfl rfl ?_
 intro a F
 refine sb [0] F H rfl fun a F => ?_
 refine nb [0,0] F H rfl fun a F => ?_
 obtain ⟨x2, ex2, hm⟩ := ob hm
 refine sd F rfl ent132 (w_ixName ex2 (H.pm 1 [0,0] rfl:):) ?_; rintro _ w a ⟨rfl, H⟩ F
 refine bb [0,0] F H rfl fun a F => ?_
 replace H := H.nf 1 rfl
 refine nl (wr ?_)
 cases hm
 refine x_ret1 F rfl rfl ?_
 exact ⟨_, rfl, rfl, (H.pm 1 [] rfl:)⟩
theorem ent167 : En Tryz.prog 167 := enters Tryz.func167 (by kernel_rfl) rfl
theorem ent168 : En Tryz.prog 168 := enters Tryz.func168 (by kernel_rfl) rfl
theorem ent96 : En Tryz.prog 96 := enters Tryz.func96 (by kernel_rfl) rfl
theorem w_pNames {p : List UInt8}  {w0 w : World} {l : List HP}  {r : (List (List UInt8)) × Bool} (hm : pNames p = some r) (H : St w0 w (l)) :
  Calls Tryz.prog 147 [.string (txb (p))].toArray w (fun e w' => ∃ v, e = .returned v ∧ ∃ (p1 : Option Addr) (c1 : Nat), v = .tuple [.slice p1 (r.1).length c1, .bool (r.2)].toArray ∧ St w0 w' (HP.sl rStr p1 c1 r.1 :: l)) := by
 unfold pNames at hm
 refine x_enter Tryz.func147 rfl rfl rfl ?_
 intro a F
 refine sb [0,0] F H rfl fun a F => ?_
 refine nl (sq (sb [0] F H rfl fun a F => ?_))
 refine sv F rfl (y_eqT (l := p) (m := [47]) F rfl rfl rfl) fun a F => ?_
 refine nl (cPm F rfl hm (fun hg2 hm => ?_) (fun hg2 hm => ?_))
 refine sb [0,0] F H rfl fun a F => ?_
 refine nl (wr (tr ?_))
 replace H := H.slNil rStr
 cases hm
 refine x_ret2 F rfl rfl rfl ?_
 exact ⟨_, rfl, none, 0, rfl, H⟩
 refine sk (ct (sb [0] F H rfl fun a F => ?_))
 obtain ⟨x3, ex3, hm⟩ := ob hm
 refine sd F rfl ent167 (w_cutPre ex3 H:) ?_; rintro _ w a ⟨rfl, H⟩ F
 refine bb (List.replicate 5 0) F H rfl fun a F => ?_
 refine nb [0] F H rfl fun a F => ?_
 obtain ⟨x4, ex4, hm⟩ := ob hm
 refine sd F rfl ent168 (w_strSplit ex4 H:) ?_; rintro _ w a ⟨p5, c5, rfl, H⟩ F
 refine bb [0] F H rfl fun a F => ?_
 replace H := H.nf 1 rfl
 refine nl (sq (sb [0,0,0] F H rfl fun a F => ?_))
 by_cases hg6 : (!x3.2) = true
 replace hm := ifT hg6 hm
 replace F := F.vT 18 hg6 rfl
 refine bb (List.replicate 8 0) F H rfl fun a F => ?_
 refine nl (cT F rfl ?_)
 refine sb [0,0] F H rfl fun a F => ?_
 refine nl (wr (tr ?_))
 replace H := H.slNil rStr
 cases hm
 refine x_ret2 F rfl rfl rfl ?_
 exact ⟨_, rfl, none, 0, rfl, (H.pm 2 [0] rfl:)⟩
 replace hm := ifF hg6 hm
 replace F := F.vF 18 hg6 rfl
 refine bb [0] F H rfl fun a F => ?_
 refine g_onP F rfl rfl rfl rfl ?_
 refine sv F rfl (y_lenT (l := p) F rfl Tryz.underlying9 rfl) fun a F => ?_
 refine bb [0,0,0] F H rfl fun a F => ?_
 rcases spP 23 F rfl hm with ⟨hg7, hm, F⟩ | ⟨hg7, hm, F⟩
 refine bb [0,0,0] F H rfl fun a F => ?_
 refine nl (cT F rfl ?_)
 refine sb [0,0] F H rfl fun a F => ?_
 refine nl (wr (tr ?_))
 replace H := H.slNil rStr
 cases hm
 refine x_ret2 F rfl rfl rfl ?_
 exact ⟨_, rfl, none, 0, rfl, (H.pm 2 [0] rfl:)⟩
 refine bb [0] F H rfl fun a F => ?_
 refine g_onP F rfl rfl rfl rfl ?_
 replace H := H.frz 0 rfl
 obtain ⟨x8, ex8, hm⟩ := ob hm
 refine sd F rfl ent96 (w_anyBad ex8 (H.pm 1 [0,0] rfl:):) ?_; rintro _ w a ⟨rfl, H⟩ F
 refine bb [0] F H rfl fun a F => ?_
 replace H := H.nf 1 rfl
 refine nl (cB F rfl (fun hg9 => ?_) (fun hg9 => ?_))
 replace hm := ifT hg9 hm
 refine sb [0,0] F H rfl fun a F => ?_
 refine nl (wr (tr ?_))
 replace H := H.slNil rStr
 cases hm
 refine x_ret2 F rfl rfl rfl ?_
 exact ⟨_, rfl, none, 0, rfl, (H.pm 2 [0] rfl:)⟩
 replace hm := ifF (nT hg9) hm
 refine sk (ct (sb [0,0,0] F H rfl fun a F => ?_))
 refine nl (wr ?_)
 cases hm
 refine x_ret2 F rfl rfl rfl ?_
 exact ⟨_, rfl, p5, c5, rfl, H⟩
theorem ent170 : En Tryz.prog 170 := enters Tryz.func170 (by kernel_rfl) rfl
theorem w_m_path_join {x0_ : List (List UInt8)} {p1 : Option Addr} {c1 : Nat} {w0 w : World} {l : List HP}  {r : (List UInt8)} (hm : m_path_join x0_ = some r) (H : St w0 w (HP.sl rStr p1 c1 x0_ :: l)) :
  Calls Tryz.prog 148 [.slice p1 (x0_).length c1].toArray w (fun e w' => ∃ v, e = .returned v ∧ v = .string (txb (r)) ∧ St w0 w' (l)) := by
 unfold m_path_join at hm
 refine x_enter Tryz.func148 rfl rfl rfl ?_
 intro a F
 refine sb [0] F H rfl fun a F => ?_
 refine nb [0] F H rfl fun a F => ?_
 obtain ⟨x2, ex2, hm⟩ := ob hm
 refine sd F rfl ent170 (w_strJoin ex2 (H.pm 1 [0,0] rfl:):) ?_; rintro _ w a ⟨rfl, H⟩ F
 obtain ⟨x3, ex3, hm⟩ := ob hm
 refine sv F rfl (y_addO F rfl rfl rfl ex3) fun a F => ?_
 refine bb [0] F H rfl fun a F => ?_
 replace H := H.nf 1 rfl
 refine nl (wr ?_)
 cases hm
 refine x_ret1 F rfl rfl ?_
 exact ⟨_, rfl, rfl, (H.pm 1 [] rfl:)⟩
theorem ent147 : En Tryz.prog 147 := enters Tryz.func147 (by kernel_rfl) rfl
theorem w_m_path_Check {x0_ : List UInt8}  {w0 w : World} {l : List HP}  {r : Int} (hm : m_path_Check x0_ = some r) (H : St w0 w (l)) :
  Calls Tryz.prog 123 [.string (txb (x0_))].toArray w (fun e w' => ∃ v, e = .returned v ∧ v = .int .i64 (r) ∧ St w0 w' (l)) := by
 unfold m_path_Check at hm
 refine x_enter Tryz.func123 rfl rfl rfl ?_
 intro a F
 refine sb [0] F H rfl fun a F => ?_
 refine nl (sq (sb [0] F H rfl fun a F => ?_))
 obtain ⟨x1, ex1, hm⟩ := ob hm
 refine sd F rfl ent147 (w_pNames ex1 H:) ?_; rintro _ w a ⟨p2, c2, rfl, H⟩ F
 refine bb (List.replicate 5 0) F H rfl fun a F => ?_
 replace H := H.nf 1 rfl
 refine nb [0,0] F H rfl fun a F => ?_
 refine nl (cB F rfl (fun hg3 => ?_) (fun hg3 => ?_))
 replace hm := ifT hg3 hm
 refine sb [0] F H rfl fun a F => ?_
 refine nl (wr (tr ?_))
 cases hm
 refine x_ret1 F rfl rfl ?_
 exact ⟨_, rfl, rfl, (H.pm 1 [] rfl:)⟩
 replace hm := ifF (nT hg3) hm
 refine sk (ct (sb [0] F H rfl fun a F => ?_))
 refine nl (wr ?_)
 cases hm
 refine x_ret1 F rfl rfl ?_
 exact ⟨_, rfl, rfl, (H.pm 1 [] rfl:)⟩
theorem ent148 : En Tryz.prog 148 := enters Tryz.func148 (by kernel_rfl) rfl
theorem w_m_path_Parent {x0_ : List UInt8}  {w0 w : World} {l : List HP}  {r : (List UInt8)} (hm : m_path_Parent x0_ = some r) (H : St w0 w (l)) :
  Calls Tryz.prog 124 [.string (txb (x0_))].toArray w (fun e w' => ∃ v, e = .returned v ∧ v = .string (txb (r)) ∧ St w0 w' (l)) := by
 unfold m_path_Parent at hm
 refine x_enter Tryz.func124 rfl rfl rfl ?_
 intro a F
 refine sb [0] F H rfl fun a F => ?_
 refine nb [0] F H rfl fun a F => ?_
 obtain ⟨x1, ex1, hm⟩ := ob hm
 refine sd F rfl ent147 (w_pNames ex1 H:) ?_; rintro _ w a ⟨p2, c2, rfl, H⟩ F
 refine bb (List.replicate 5 0) F H rfl fun a F => ?_
 replace H := H.nf 1 rfl
 refine nl (sq (sr (bk [0,0,0] F H rfl ⟨⟨_, Tryz.underlying33⟩, trivial⟩ fun a F => ?_)))
 refine nl (cPm F rfl hm (fun hg3 hm => ?_) (fun hg3 hm => ?_))
 refine sb [0] F H rfl fun a F => ?_
 refine nl (wr (tr ?_))
 cases hm
 refine x_ret1 F rfl rfl ?_
 exact ⟨_, rfl, rfl, (H.pm 1 [] rfl:)⟩
 refine sk (ct (sr (bk [0,0,0,0] F H rfl ⟨⟨_, Tryz.underlying33⟩, trivial⟩ fun a F => ?_)))
 obtain ⟨x5, ex5, hm⟩ := ob hm
 have hc4 := H.slCap 0 rfl
 replace H := H.slSubN 1 rfl 0 rfl ex5
 refine sv F rfl (y_slH F elem33 rfl rfl rfl ex5 hc4) fun a F => ?_
 obtain ⟨x6, ex6, hm⟩ := ob hm
 refine sd F rfl ent148 (w_m_path_join ex6 (H.pm 2 [0,0,1] rfl:):) ?_; rintro _ w a ⟨rfl, H⟩ F
 refine bb [0] F H rfl fun a F => ?_
 replace H := H.nf 2 rfl
 refine nl (wr ?_)
 cases hm
 refine x_ret1 F rfl rfl ?_
 exact ⟨_, rfl, rfl, (H.pm 2 [] rfl:)⟩
theorem w_m_path_Base {x0_ : List UInt8}  {w0 w : World} {l : List HP}  {r : (List UInt8)} (hm : m_path_Base x0_ = some r) (H : St w0 w (l)) :
  Calls Tryz.prog 165 [.string (txb (x0_))].toArray w (fun e w' => ∃ v, e = .returned v ∧ v = .string (txb (r)) ∧ St w0 w' (l)) := by
 unfold m_path_Base at hm
 refine x_enter Tryz.func165 rfl rfl rfl ?_
 intro a F
 refine sb [0] F H rfl fun a F => ?_
 refine nb [0] F H rfl fun a F => ?_
 obtain ⟨x1, ex1, hm⟩ := ob hm
 refine sd F rfl ent147 (w_pNames ex1 H:) ?_; rintro _ w a ⟨p2, c2, rfl, H⟩ F
 refine bb (List.replicate 5 0) F H rfl fun a F => ?_
 replace H := H.nf 1 rfl
 refine nl (sq (sr (bk [0,0,0] F H rfl ⟨⟨_, Tryz.underlying33⟩, trivial⟩ fun a F => ?_)))
 refine nl (cPm F rfl hm (fun hg3 hm => ?_) (fun hg3 hm => ?_))
 refine sb [0] F H rfl fun a F => ?_
 refine nl (wr (tr ?_))
 cases hm
 refine x_ret1 F rfl rfl ?_
 exact ⟨_, rfl, rfl, (H.pm 1 [] rfl:)⟩
 refine sk (ct (sr (bk [0,0,0,0] F H rfl ⟨⟨_, Tryz.underlying33⟩, trivial⟩ fun a F => ?_)))
 obtain ⟨x4, ex4, hm⟩ := ob hm
 obtain ⟨b5, o5, hp5⟩ := H.slP 0 rfl (idxO_some ex4).2
 obtain ⟨cs6, hcl6, H⟩ := H.slEl 0 rfl hp5 (idxO_some ex4).2
 obtain rfl := H.rcStr 1 rfl
 replace H := H.dp 1 rfl
 clear hcl6
 refine sv F rfl (y_idxS F elem33 rfl rfl rfl hp5 ex4) fun a F => ?_
 refine bk [0,0] F H rfl ⟨rfl, plain9, trivial⟩ fun a F => ?_
 refine nl (wr ?_)
 cases hm
 refine x_ret1 F rfl rfl ?_
 exact ⟨_, rfl, rfl, (H.pm 2 [] rfl:)⟩
theorem w_m_slices_Equal___string_string_ {x0_ : List (List UInt8)} {x1_ : List (List UInt8)} {p1 : Option Addr} {c1 : Nat} {p2 : Option Addr} {c2 : Nat} {w0 w : World} {l : List HP}  {r : Bool} (hm : m_slices_Equal___string_string_ x0_ x1_ = some r) (H : St w0 w (HP.sl rStr p1 c1 x0_ :: HP.sl rStr p2 c2 x1_ :: l)) :
  Calls Tryz.prog 164 [.slice p1 (x0_).length c1, .slice p2 (x1_).length c2].toArray w (fun e w' => ∃ v, e = .returned v ∧ v = .bool (r) ∧ St w0 w' (l)) := by
 unfold m_slices_Equal___string_string_ at hm
 refine x_enter Tryz.func164 rfl rfl rfl ?_
 intro a F
 refine sb [0] F H rfl fun a F => ?_
 refine nl (sq (sr (bk (List.replicate 5 0) F H rfl ⟨⟨_, Tryz.underlying33⟩, ⟨_, Tryz.underlying33⟩, trivial⟩ fun a F => ?_)))
 refine nl (cNm F rfl hm (fun hg3 hm => ?_) (fun hg3 hm => ?_))
 refine sb [0] F H rfl fun a F => ?_
 refine nl (wr (tr ?_))
 cases hm
 refine x_ret1 F rfl rfl ?_
 exact ⟨_, rfl, rfl, (H.pm 2 [] rfl:)⟩
 refine sk (ct (sq (sr (bk [0,0,0] F H rfl ⟨⟨_, Tryz.underlying33⟩, trivial⟩ fun a F => ?_))))
 refine nl (xr0 2 [] [] F H hm rfl rfl (fun r29 z => z) (fun r29 z => z) (fun o29 hm hm29 => ?_) (fun r29 a w hm F H => ?_))
 refine bl (xl0 2 [0,1,12] [0,1] F H hm rfl rfl (fun (s46 : Int) z => (13, .int .i64 (s46)) :: z) (fun s46 z => z) ⟨F.sl rfl, H⟩ (fun s46 a w o F H hm => ?_))
 refine sb [0] F H rfl fun a F => ?_
 refine nl (sq (cPm F rfl hm (fun hg47 hm => ?_) (fun hg47 hm => ?_)))
 refine sk (ct (sq (bl (sb [0,0] F H rfl fun a F => ?_))))
 refine nl (sq ?_)
 obtain ⟨x48, ex48, hm⟩ := ob hm
 obtain ⟨b49, o49, hp49⟩ := H.slP 0 rfl (idxO_some ex48).2
 obtain ⟨cs50, hcl50, H⟩ := H.slEl 0 rfl hp49 (idxO_some ex48).2
 obtain rfl := H.rcStr 1 rfl
 replace H := H.dp 1 rfl
 clear hcl50
 obtain ⟨x51, ex51, hm⟩ := ob hm
 obtain ⟨b52, o52, hp52⟩ := H.slP 2 rfl (idxO_some ex51).2
 obtain ⟨cs53, hcl53, H⟩ := H.slEl 2 rfl hp52 (idxO_some ex51).2
 obtain rfl := H.rcStr 1 rfl
 replace H := H.dp 1 rfl
 clear hcl53
 refine qr H (by kernel_rfl) (by kernel_rfl) ?_
 refine qb [0,0] F rfl fun a F => ?_
 refine qv F rfl (fun u hu => y_idxS F elem33 rfl rfl rfl hp49 ex48) fun a F => ?_
 refine qbk [1000,0,0] F rfl ⟨rfl, plain9, trivial⟩ fun a F => ?_
 refine qv F rfl (fun u hu => y_idxS F elem33 rfl rfl rfl hp52 ex51) fun a F => ?_
 refine qbk [0] F rfl ⟨rfl, plain9, trivial⟩ fun a F => ?_
 refine qv F rfl (fun u hu => y_neT (l := x48) (m := x51) F rfl rfl rfl) fun a F => ?_
 refine q_nil fun w H => ?_
 refine ct (cNm F rfl hm (fun hg54 hm => ?_) (fun hg54 hm => ?_))
 refine sb [0] F H rfl fun a F => ?_
 refine nl (wr (br (tr (tr ?_)))); cases hm; refine ⟨_, rfl, ?_⟩; rintro rfl
 refine br (tr ?_)
 replace hm := elimR hm29
 refine tr ?_
 cases hm
 refine x_ret1 F rfl rfl ?_
 exact ⟨_, rfl, rfl, (H.pm 4 [] rfl:)⟩
 refine sk (bn (ct (rl (bb [0,0] F H rfl fun a F => ?_))))
 refine lz (ct ?_); cases hm
 exact ⟨_, rfl, ⟨F.sl rfl, (H.pm 4 [2,3] rfl:)⟩⟩
 refine ex (cx (cx ?_)); cases hm; refine ⟨_, rfl, ?_⟩; rintro rfl
 refine ch (ct ?_)
 exact ⟨_, rfl, F.cut _ trivial, (H.pm 2 [] rfl:)⟩
 refine ct (sb [0] F H rfl fun a F => ?_)
 refine nl (wr ?_)
 cases hm
 refine x_ret1 F rfl rfl ?_
 exact ⟨_, rfl, rfl, H⟩
theorem ent164 : En Tryz.prog 164 := enters Tryz.func164 (by kernel_rfl) rfl
theorem w_m_path_Within {x0_ : List UInt8} {x1_ : List UInt8}  {w0 w : World} {l : List HP}  {r : Bool} (hm : m_path_Within x0_ x1_ = some r) (H : St w0 w (l)) :
  Calls Tryz.prog 143 [.string (txb (x0_)), .string (txb (x1_))].toArray w (fun e w' => ∃ v, e = .returned v ∧ v = .bool (r) ∧ St w0 w' (l)) := by
 unfold m_path_Within at hm
 refine x_enter Tryz.func143 rfl rfl rfl ?_
 intro a F
 refine sb [0] F H rfl fun a F => ?_
 refine nb [0] F H rfl fun a F => ?_
 obtain ⟨x1, ex1, hm⟩ := ob hm
 refine sd F rfl ent147 (w_pNames ex1 H:) ?_; rintro _ w a ⟨p2, c2, rfl, H⟩ F
 refine bb (List.replicate 5 0) F H rfl fun a F => ?_
 replace H := H.nf 1 rfl
 refine nb [0] F H rfl fun a F => ?_
 obtain ⟨x3, ex3, hm⟩ := ob hm
 refine sd F rfl ent147 (w_pNames ex3 H:) ?_; rintro _ w a ⟨p4, c4, rfl, H⟩ F
 refine bb (List.replicate 5 0) F H rfl fun a F => ?_
 replace H := H.nf 2 rfl
 refine nb [0,0] F H rfl fun a F => ?_
 by_cases hg5 : x1.2 = true
 replace hm := ifT hg5 hm
 replace F := F.vT 20 hg5 rfl
 refine bb [0,0,0] F H rfl fun a F => ?_
 by_cases hg6 : x3.2 = true
 replace hm := ifT hg6 hm
 replace F := F.vT 23 hg6 rfl
 refine bk (List.replicate 7 0) F H rfl ⟨⟨_, Tryz.underlying33⟩, ⟨_, Tryz.underlying33⟩, trivial⟩ fun a F => ?_
 rcases spP 30 F rfl hm with ⟨hg7, hm, F⟩ | ⟨hg7, hm, F⟩
 refine bk [0,0,0,0] F H rfl ⟨⟨_, Tryz.underlying33⟩, trivial⟩ fun a F => ?_
 refine g_onP F rfl rfl rfl rfl ?_
 obtain ⟨x9, ex9, hm⟩ := ob hm
 have hc8 := H.slCap 0 rfl
 replace H := H.slSubN 1 rfl 0 rfl ex9
 refine sv F rfl (y_slH F elem33 rfl rfl rfl ex9 hc8) fun a F => ?_
 refine g_onP F rfl rfl rfl rfl ?_
 obtain ⟨x10, ex10, hm⟩ := ob hm
 refine sd F rfl ent164 (w_m_slices_Equal___string_string_ ex10 (H.pm 3 [2,0,0,1,2] rfl:):) ?_; rintro _ w a ⟨rfl, H⟩ F
 refine bb [0,0] F H rfl fun a F => ?_
 replace H := H.nf 3 rfl
 refine nl (wr ?_)
 cases hm
 refine x_ret1 F rfl rfl ?_
 exact ⟨_, rfl, rfl, (H.pm 3 [] rfl:)⟩
 refine bb (List.replicate 8 0) F H rfl fun a F => ?_
 refine nl (wr ?_)
 cases hm
 refine x_ret1 F rfl rfl ?_
 exact ⟨_, rfl, rfl, (H.pm 2 [] rfl:)⟩
 replace hm := ifF hg6 hm
 replace F := F.vF 23 hg6 rfl
 refine bb (List.replicate 15 0) F H rfl fun a F => ?_
 refine nl (wr ?_)
 cases hm
 refine x_ret1 F rfl rfl ?_
 exact ⟨_, rfl, rfl, (H.pm 2 [] rfl:)⟩
 replace hm := ifF hg5 hm
 replace F := F.vF 20 hg5 rfl
 refine bb (List.replicate 18 0) F H rfl fun a F => ?_
 refine nl (wr ?_)
 cases hm
 refine x_ret1 F rfl rfl ?_
 exact ⟨_, rfl, rfl, (H.pm 2 [] rfl:)⟩
theorem zero9 : Zero1 Tryz.prog 9 (.string ByteArray.empty) := ⟨by kernel_rfl, rfl⟩
theorem w_m_path_Ancestors {x0_ : List UInt8}  {w0 w : World} {l : List HP}  {r : (List (List UInt8))} (hm : m_path_Ancestors x0_ = some r) (H : St w0 w (l)) :
  Calls Tryz.prog 163 [.string (txb (x0_))].toArray w (fun e w' => ∃ v, e = .returned v ∧ ∃ (p1 : Option Addr) (c1 : Nat), v = .slice p1 (r).length c1 ∧ St w0 w' (HP.sl rStr p1 c1 r :: l)) := by
 unfold m_path_Ancestors at hm
 refine x_enter Tryz.func163 rfl rfl rfl ?_
 intro a F
 refine sb [0] F H rfl fun a F => ?_
 refine nb [0] F H rfl fun a F => ?_
 obtain ⟨x2, ex2, hm⟩ := ob hm
 refine sd F rfl ent147 (w_pNames ex2 H:) ?_; rintro _ w a ⟨p3, c3, rfl, H⟩ F
 refine bb (List.replicate 5 0) F H rfl fun a F => ?_
 replace H := H.nf 1 rfl
 refine nl (sq (sr (bk [0,0,0] F H rfl ⟨⟨_, Tryz.underlying33⟩, trivial⟩ fun a F => ?_)))
 refine nl (xm2 1 [] [] F H hm rfl rfl (fun r29 (p30 : Option Addr) (c30 : Nat) z => (2, .slice p30 (r29).length c30) :: z) (fun r29 p30 c30 z => HP.ow rStr 9 p30 c30 r29 :: z) (fun r29 hm => ?_) (fun r29 a w hm p30 c30 F H => ?_))
 refine bl ?_
 replace H := H.owNil rStr 9
 refine xl2 2 [3,12] [1] F H hm rfl rfl (fun (s47 : (List (List UInt8)) × Int) (p48 : Option Addr) (c48 : Nat) z => (2, .slice p48 (s47.1).length c48) :: (13, .int .i64 (s47.2)) :: z) (fun s47 p48 c48 z => HP.ow rStr 9 p48 c48 s47.1 :: z) ⟨none, 0, F.sl rfl, H⟩ (fun s47 a w o p48 c48 F H hm => ?_)
 refine sb [0] F H rfl fun a F => ?_
 refine nl (sq (cPm F rfl hm (fun hg49 hm => ?_) (fun hg49 hm => ?_)))
 refine sk (ct (sq (bl (sb [0,0] F H rfl fun a F => ?_))))
 refine nl (rl (bb [0,0,0] F H rfl fun a F => ?_))
 obtain ⟨x51, ex51, hm⟩ := ob hm
 have hc50 := H.slCap 1 rfl
 replace H := H.slSubN 1 rfl 1 rfl ex51
 refine sv F rfl (y_slH F elem33 rfl rfl rfl ex51 hc50) fun a F => ?_
 obtain ⟨x52, ex52, hm⟩ := ob hm
 refine sd F rfl ent148 (w_m_path_join ex52 (H.pm 3 [0,0,1,2] rfl:):) ?_; rintro _ w a ⟨rfl, H⟩ F
 refine s_buildC wkP F rfl rfl rfl elem33 zero9 rfl rfl rfl rfl (by simp [Value.cells]) (by decide) H fun b53 w a H F => ?_
 replace H := H.blkOw1 (R := rStr) (x := x52) (fun gg => rfl)
 replace H := H.frz 0 rfl
 obtain ⟨x55, ex55, hm⟩ := ob hm
 refine s_app wkP F rfl rfl rfl rfl rfl rfl elem33 rfl ex55 H 2 0 rfl rfl fun p54 c54 w a H F => ?_
 refine bb [0] F H rfl fun a F => ?_
 replace H := H.nf 4 rfl
 refine lz (bn (ct (rl (bb [0,0] F H rfl fun a F => ?_))))
 refine lz (ct ?_); cases hm
 exact ⟨_, rfl, ⟨p54, c54, F.sl rfl, (H.pm 4 [2,3] rfl:)⟩⟩
 refine ex (cx (cx ?_)); cases hm; refine ⟨_, rfl, ?_⟩; rintro rfl
 refine ch (ct ?_)
 exact ⟨p48, c48, F.sl rfl, (H.pm 2 [0] rfl:)⟩
 refine ct (sb [0,0] F H rfl fun a F => ?_)
 refine nl (wr ?_)
 replace H := H.frz 0 rfl
 cases hm
 refine x_ret1 F rfl rfl ?_
 exact ⟨_, rfl, p30, c30, rfl, H⟩
end Go.Proofs.YtnagibpmfabkjaaGreatDoor
