/- node -/
import Derived.Test.YtnjemlkcamdbfaaGreatDoorPackA
import Derived.Test.YtnjemlkcamdbfaaGreatDoorK
import Derived.Test.YtnjemlkcamdbfaaGreatDoorRec
set_option linter.unusedSimpArgs false
set_option linter.unusedVariables false
namespace Go.Proofs.YtnjemlkcamdbfaaGreatDoor
open Go.RowKit Go.Tri
set_option maxRecDepth 100000
set_option maxHeartbeats 4000000
theorem fld48_0 : FieldT Tryz.prog 48 0 0 := by unfold FieldT; rw [Tryz.underlying48]; kernel_rfl
theorem w_m_node_right_1 {x0_ : T_api_Pair} {cs1 : List Value} {w0 w : World} {l : List HP}  {r : (List UInt8)} (hm : m_node_right_1 x0_ = some r) (H : St w0 w (HP.rc R_api_Pair cs1 x0_ :: l)) :
  Calls Tryz.prog 91 [.agg cs1.toArray].toArray w (fun e w' => ∃ v, e = .returned v ∧ ∃ (p2 : Option Addr) (c2 : Nat), v = .slice p2 (r).length c2 ∧ St w0 w' (HP.sl rByte p2 c2 r :: l)) := by
 unfold m_node_right_1 at hm
 refine x_enter Tryz.func91 rfl rfl rfl ?_
 intro a F
 refine sr (s_boxA wkP F rfl rfl rfl rfl rfl H fun b3 w a H F => ?_)
 refine bb [0] F H rfl fun a F => ?_
 replace H := H.nf 2 rfl
 refine nl (sr (bk [0] F H rfl ⟨fld48_0, trivial⟩ fun a F => ?_))
 have G := F; replace H := rc_api_Pair (H.pk 1 rfl); obtain ⟨p4, c5, p6, c7, rfl, J⟩ := H; have H := J; have F := G; clear G J
 refine bk [2000,0] F H rfl ⟨rfl, plain26, trivial⟩ fun a F => ?_
 refine nl (wr ?_)
 cases hm
 refine x_ret1 F rfl rfl ?_
 exact ⟨_, rfl, p4, c5, rfl, (H.pm 3 [0] rfl:)⟩
theorem fld80_0 : FieldT Tryz.prog 80 0 0 := by unfold FieldT; rw [Tryz.underlying80]; kernel_rfl
theorem w_m_node_right_2 {x0_ : T_api_Kid} {cs1 : List Value} {w0 w : World} {l : List HP}  {r : (List UInt8)} (hm : m_node_right_2 x0_ = some r) (H : St w0 w (HP.rc R_api_Kid cs1 x0_ :: l)) :
  Calls Tryz.prog 93 [.agg cs1.toArray].toArray w (fun e w' => ∃ v, e = .returned v ∧ ∃ (p2 : Option Addr) (c2 : Nat), v = .slice p2 (r).length c2 ∧ St w0 w' (HP.sl rByte p2 c2 r :: l)) := by
 unfold m_node_right_2 at hm
 refine x_enter Tryz.func93 rfl rfl rfl ?_
 intro a F
 refine sr (s_boxA wkP F rfl rfl rfl rfl rfl H fun b3 w a H F => ?_)
 refine bb [0] F H rfl fun a F => ?_
 replace H := H.nf 2 rfl
 refine nl (sr (bk [0] F H rfl ⟨fld80_0, trivial⟩ fun a F => ?_))
 have G := F; replace H := rc_api_Kid (H.pk 1 rfl); obtain ⟨p4, c5, hl6, rfl, J⟩ := H; have H := J; have F := G; clear G J
 refine bk [1000,0] F H rfl ⟨rfl, plain26, trivial⟩ fun a F => ?_
 refine nl (wr ?_)
 cases hm
 refine x_ret1 F rfl rfl ?_
 exact ⟨_, rfl, p4, c5, rfl, (H.pm 2 [0] rfl:)⟩
theorem w_cmp29 {w : World} {v u : Value} {x y : List UInt8} (hx : Sl w v x.length (bcells x)) (hy : Sl w u y.length (bcells y)) : Calls Tryz.prog 29 [v, u].toArray w (fun e w' => e = .returned (.int .i64 (Lib.compareBytes x y)) ∧ w' = w) := by
 refine x_enter Tryz.func29 rfl rfl rfl ?_
 intro a F
 replace F : Fr ⟨8, []⟩ a [(0, v), (1, u)] := F
 refine wp_seq (r_lit ?_)
 refine sv F rfl (y_assign F rfl rfl) fun a F => ?_
 refine wpList_nil (c_then ?_)
 refine wp_seq (r_lit ?_)
 refine sv F rfl (y_move F rfl rfl) fun a F => ?_
 refine sv F rfl (y_move F rfl rfl) fun a F => ?_
 refine sv F rfl (y_ext F rfl rfl (v := .int .i64 (Lib.compareBytes x y)) (w := w) (by rw [run_callFunc_extern Tryz.func49 (by kernel_rfl) (by kernel_rfl) (by kernel_rfl) (e := Extern.BytealgCompare.compare) (by kernel_rfl), run_compare hx hy]; rfl)) fun a F => ?_
 refine sv F rfl (y_assign F rfl rfl) fun a F => ?_
 refine wpList_nil (c_then ?_)
 refine wp_ret ?_
 refine x_ret1 F rfl rfl ?_
 exact ⟨rfl, rfl⟩
theorem w_cmpB {a : List UInt8} {b : List UInt8} {p1 : Option Addr} {c1 : Nat} {p2 : Option Addr} {c2 : Nat} {w0 w : World} {l : List HP}  {r : Int} (hm : cmpB a b = some r) (H : St w0 w (HP.sl rByte p1 c1 a :: HP.sl rByte p2 c2 b :: l)) :
  Calls Tryz.prog 29 [.slice p1 (a).length c1, .slice p2 (b).length c2].toArray w (fun e w' => ∃ v, e = .returned v ∧ v = .int .i64 (r) ∧ St w0 w' (l)) := by
 unfold cmpB at hm
 cases hm
 have hx : Sl w (.slice p1 (a).length c1) (a).length (bcells a) := H.slBy 0 rfl
 have hy : Sl w (.slice p2 (b).length c2) (b).length (bcells b) := H.slBy 1 rfl
 exact (w_cmp29 hx hy).mono fun e w' h => ⟨_, h.1, rfl, by rw [h.2]; exact H.tail.tail⟩
theorem elem32 : ElemT Tryz.prog 32 48 2 48 (.agg [.slice none 0 0, .slice none 0 0].toArray) := ⟨Tryz.underlying32, by kernel_rfl, by kernel_rfl, by decide⟩
theorem agg48 : AggT Tryz.prog 48 2 [.slice none 0 0, .slice none 0 0] := ⟨by rw [Tryz.underlying48]; rfl, by kernel_rfl, by kernel_rfl⟩
theorem ent91 : En Tryz.prog 91 := enters Tryz.func91 (by kernel_rfl) rfl
theorem ent29 : En Tryz.prog 29 := enters Tryz.func29 (by kernel_rfl) rfl
theorem w_riseP {list : List T_api_Pair} {p1 : Option Addr} {c1 : Nat} {w0 w : World} {l : List HP}  {r : Bool} (hm : riseP list = some r) (H : St w0 w (HP.sl R_api_Pair p1 c1 list :: l)) :
  Calls Tryz.prog 90 [.slice p1 (list).length c1, .func (.func 91) #[] #[]].toArray w (fun e w' => ∃ v, e = .returned v ∧ v = .bool (r) ∧ St w0 w' (l)) := by
 unfold riseP at hm
 refine x_enter Tryz.func90 rfl rfl rfl ?_
 intro a F
 refine sb [0] F H rfl fun a F => ?_
 refine nl (sq (sb [0] F H rfl fun a F => ?_))
 refine nl (xr0 1 [] [] F H hm rfl rfl (fun r39 z => z) (fun r39 z => z) (fun o39 hm hm39 => ?_) (fun r39 a w hm F H => ?_))
 refine bl (xl0 1 [0,1] [0] F H hm rfl rfl (fun (s64 : Int) z => (5, .int .i64 (s64)) :: z) (fun s64 z => z) ⟨F.sl rfl, H⟩ (fun s64 a w o F H hm => ?_))
 refine sq (sr (bk [0,0,0,0] F H rfl ⟨⟨_, Tryz.underlying32⟩, trivial⟩ fun a F => ?_))
 refine nl (cPm F rfl hm (fun hg65 hm => ?_) (fun hg65 hm => ?_))
 refine sk (ct (sq (bl (sq ?_))))
 obtain ⟨x66, ex66, hm⟩ := ob hm
 obtain ⟨b67, o67, hp67⟩ := H.slP 0 rfl (idxO_some ex66).2
 obtain ⟨cs68, hcl68, H⟩ := H.slEl 0 rfl hp67 (idxO_some ex66).2
 clear hcl68
 obtain ⟨x69, ex69, hm⟩ := ob hm
 obtain ⟨cs70, hcl70, H⟩ := H.slEl 2 rfl hp67 (idxO_some ex69).2
 clear hcl70
 refine mix_regionK [6,12,13] [] (scL [0,1,2,3,4,1005,7,8,9,10,11,2006,2012,2013,14]) [0,1] H rfl rfl (by kernel_rfl) (by kernel_rfl) fun w H => ?_
 refine mb [0,0,0,0] F H rfl fun a F => ?_
 refine m_pure F rfl rfl rfl rfl (fun u hu => y_idxS F elem32 rfl rfl rfl hp67 ex66) fun a F => ?_
 refine mbk [2999,0,0,0] F H rfl ⟨rfl, (aggn agg48 (H.rcLen 3 rfl)), trivial⟩ fun a F => ?_
 refine m_pure F rfl rfl rfl rfl (fun u hu => y_idxS F elem32 rfl rfl rfl hp67 ex69) fun a F => ?_
 refine m_pure F rfl rfl rfl rfl (fun u hu => y_loadA F agg48 rfl rfl (hu.choose_spec.rowAt 0 rfl) (hu.choose_spec.rcLen 1 rfl)) fun a F => ?_
 refine m_heavy rfl rfl ?_
 obtain ⟨x71, ex71, hm⟩ := ob hm
 refine s_call wkP F rfl rfl rfl rfl (y_callV0 F rfl rfl rfl ent91) (w_m_node_right_1 ex71 (H.pm 5 [3,0,1,2,3,4] rfl:):) ?_; rintro _ w a ⟨p72, c72, rfl, H⟩ F
 refine lz ?_; refine ct ⟨⟨_, (H.pm 6 [1,2,0,1,2,3,4,5] rfl:)⟩, ?_⟩
 refine m_heavy rfl rfl ?_
 obtain ⟨x73, ex73, hm⟩ := ob hm
 refine s_call wkP F rfl rfl rfl rfl (y_callV0 F rfl rfl rfl ent91) (w_m_node_right_1 ex73 (H.pm 6 [2,0,1,2,3,4,5] rfl:):) ?_; rintro _ w a ⟨p74, c74, rfl, H⟩ F
 refine lz ?_; refine ct ⟨⟨_, (H.pm 7 [2,3,0,1,2,3,4,5,6] rfl:)⟩, ?_⟩
 refine m_heavy rfl rfl ?_
 obtain ⟨x75, ex75, hm⟩ := ob hm
 refine sd F rfl ent29 (w_cmpB ex75 (H.pm 7 [1,0,0,1,2,3,4,5,6] rfl:):) ?_; rintro _ w a ⟨rfl, H⟩ F
 refine lz ?_; refine ct ⟨⟨_, (H.pm 7 [2,3,0,1,2,3,4,5,6] rfl:)⟩, ?_⟩
 refine mb [0] F H rfl fun a F => ?_
 refine m_nil ?_
 refine ct (cPm F rfl hm (fun hg76 hm => ?_) (fun hg76 hm => ?_))
 refine sb [0] F H rfl fun a F => ?_
 replace H := H.nf 7 rfl
 refine nl (wr (br (tr (tr ?_)))); cases hm; refine ⟨_, rfl, ?_⟩; rintro rfl
 refine br (tr ?_)
 replace hm := elimR hm39
 refine tr ?_
 cases hm
 refine x_ret1 F rfl rfl ?_
 exact ⟨_, rfl, rfl, (H.pm 7 [] rfl:)⟩
 refine sk (bn (ct (rl (bb [0,0,0] F H rfl fun a F => ?_))))
 replace H := H.nf 7 rfl
 refine lz (ct ?_); cases hm
 exact ⟨_, rfl, ⟨F.sl rfl, (H.pm 7 [6] rfl:)⟩⟩
 refine ex (cx (cx ?_)); cases hm; refine ⟨_, rfl, ?_⟩; rintro rfl
 refine ch (ct ?_)
 exact ⟨_, rfl, F.cut _ trivial, (H.pm 1 [] rfl:)⟩
 refine ct (sb [0] F H rfl fun a F => ?_)
 refine nl (wr ?_)
 cases hm
 refine x_ret1 F rfl rfl ?_
 exact ⟨_, rfl, rfl, H⟩
theorem elem76 : ElemT Tryz.prog 76 80 33 56 (.agg [.slice none 0 0, .int .u8 0, .int .u8 0, .int .u8 0, .int .u8 0, .int .u8 0, .int .u8 0, .int .u8 0, .int .u8 0, .int .u8 0, .int .u8 0, .int .u8 0, .int .u8 0, .int .u8 0, .int .u8 0, .int .u8 0, .int .u8 0, .int .u8 0, .int .u8 0, .int .u8 0, .int .u8 0, .int .u8 0, .int .u8 0, .int .u8 0, .int .u8 0, .int .u8 0, .int .u8 0, .int .u8 0, .int .u8 0, .int .u8 0, .int .u8 0, .int .u8 0, .int .u8 0].toArray) := ⟨Tryz.underlying76, by kernel_rfl, by kernel_rfl, by decide⟩
theorem agg80 : AggT Tryz.prog 80 33 [.slice none 0 0, .int .u8 0, .int .u8 0, .int .u8 0, .int .u8 0, .int .u8 0, .int .u8 0, .int .u8 0, .int .u8 0, .int .u8 0, .int .u8 0, .int .u8 0, .int .u8 0, .int .u8 0, .int .u8 0, .int .u8 0, .int .u8 0, .int .u8 0, .int .u8 0, .int .u8 0, .int .u8 0, .int .u8 0, .int .u8 0, .int .u8 0, .int .u8 0, .int .u8 0, .int .u8 0, .int .u8 0, .int .u8 0, .int .u8 0, .int .u8 0, .int .u8 0, .int .u8 0] := ⟨by rw [Tryz.underlying80]; rfl, by kernel_rfl, by kernel_rfl⟩
theorem ent93 : En Tryz.prog 93 := enters Tryz.func93 (by kernel_rfl) rfl
theorem w_riseK {list : List T_api_Kid} {p1 : Option Addr} {c1 : Nat} {w0 w : World} {l : List HP}  {r : Bool} (hm : riseK list = some r) (H : St w0 w (HP.sl R_api_Kid p1 c1 list :: l)) :
  Calls Tryz.prog 92 [.slice p1 (list).length c1, .func (.func 93) #[] #[]].toArray w (fun e w' => ∃ v, e = .returned v ∧ v = .bool (r) ∧ St w0 w' (l)) := by
 unfold riseK at hm
 refine x_enter Tryz.func92 rfl rfl rfl ?_
 intro a F
 refine sb [0] F H rfl fun a F => ?_
 refine nl (sq (sb [0] F H rfl fun a F => ?_))
 refine nl (xr0 1 [] [] F H hm rfl rfl (fun r39 z => z) (fun r39 z => z) (fun o39 hm hm39 => ?_) (fun r39 a w hm F H => ?_))
 refine bl (xl0 1 [0,1] [0] F H hm rfl rfl (fun (s64 : Int) z => (5, .int .i64 (s64)) :: z) (fun s64 z => z) ⟨F.sl rfl, H⟩ (fun s64 a w o F H hm => ?_))
 refine sq (sr (bk [0,0,0,0] F H rfl ⟨⟨_, Tryz.underlying76⟩, trivial⟩ fun a F => ?_))
 refine nl (cPm F rfl hm (fun hg65 hm => ?_) (fun hg65 hm => ?_))
 refine sk (ct (sq (bl (sq ?_))))
 obtain ⟨x66, ex66, hm⟩ := ob hm
 obtain ⟨b67, o67, hp67⟩ := H.slP 0 rfl (idxO_some ex66).2
 obtain ⟨cs68, hcl68, H⟩ := H.slEl 0 rfl hp67 (idxO_some ex66).2
 clear hcl68
 obtain ⟨x69, ex69, hm⟩ := ob hm
 obtain ⟨cs70, hcl70, H⟩ := H.slEl 2 rfl hp67 (idxO_some ex69).2
 clear hcl70
 refine mix_regionK [6,12,13] [] (scL [0,1,2,3,4,1005,7,8,9,10,11,2006,2012,2013,14]) [0,1] H rfl rfl (by kernel_rfl) (by kernel_rfl) fun w H => ?_
 refine mb [0,0,0,0] F H rfl fun a F => ?_
 refine m_pure F rfl rfl rfl rfl (fun u hu => y_idxS F elem76 rfl rfl rfl hp67 ex66) fun a F => ?_
 refine mbk [2999,0,0,0] F H rfl ⟨rfl, (aggn agg80 (H.rcLen 3 rfl)), trivial⟩ fun a F => ?_
 refine m_pure F rfl rfl rfl rfl (fun u hu => y_idxS F elem76 rfl rfl rfl hp67 ex69) fun a F => ?_
 refine m_pure F rfl rfl rfl rfl (fun u hu => y_loadA F agg80 rfl rfl (hu.choose_spec.rowAt 0 rfl) (hu.choose_spec.rcLen 1 rfl)) fun a F => ?_
 refine m_heavy rfl rfl ?_
 obtain ⟨x71, ex71, hm⟩ := ob hm
 refine s_call wkP F rfl rfl rfl rfl (y_callV0 F rfl rfl rfl ent93) (w_m_node_right_2 ex71 (H.pm 5 [3,0,1,2,3,4] rfl:):) ?_; rintro _ w a ⟨p72, c72, rfl, H⟩ F
 refine lz ?_; refine ct ⟨⟨_, (H.pm 6 [1,2,0,1,2,3,4,5] rfl:)⟩, ?_⟩
 refine m_heavy rfl rfl ?_
 obtain ⟨x73, ex73, hm⟩ := ob hm
 refine s_call wkP F rfl rfl rfl rfl (y_callV0 F rfl rfl rfl ent93) (w_m_node_right_2 ex73 (H.pm 6 [2,0,1,2,3,4,5] rfl:):) ?_; rintro _ w a ⟨p74, c74, rfl, H⟩ F
 refine lz ?_; refine ct ⟨⟨_, (H.pm 7 [2,3,0,1,2,3,4,5,6] rfl:)⟩, ?_⟩
 refine m_heavy rfl rfl ?_
 obtain ⟨x75, ex75, hm⟩ := ob hm
 refine sd F rfl ent29 (w_cmpB ex75 (H.pm 7 [1,0,0,1,2,3,4,5,6] rfl:):) ?_; rintro _ w a ⟨rfl, H⟩ F
 refine lz ?_; refine ct ⟨⟨_, (H.pm 7 [2,3,0,1,2,3,4,5,6] rfl:)⟩, ?_⟩
 refine mb [0] F H rfl fun a F => ?_
 refine m_nil ?_
 refine ct (cPm F rfl hm (fun hg76 hm => ?_) (fun hg76 hm => ?_))
 refine sb [0] F H rfl fun a F => ?_
 replace H := H.nf 7 rfl
 refine nl (wr (br (tr (tr ?_)))); cases hm; refine ⟨_, rfl, ?_⟩; rintro rfl
 refine br (tr ?_)
 replace hm := elimR hm39
 refine tr ?_
 cases hm
 refine x_ret1 F rfl rfl ?_
 exact ⟨_, rfl, rfl, (H.pm 7 [] rfl:)⟩
 refine sk (bn (ct (rl (bb [0,0,0] F H rfl fun a F => ?_))))
 replace H := H.nf 7 rfl
 refine lz (ct ?_); cases hm
 exact ⟨_, rfl, ⟨F.sl rfl, (H.pm 7 [6] rfl:)⟩⟩
 refine ex (cx (cx ?_)); cases hm; refine ⟨_, rfl, ?_⟩; rintro rfl
 refine ch (ct ?_)
 exact ⟨_, rfl, F.cut _ trivial, (H.pm 1 [] rfl:)⟩
 refine ct (sb [0] F H rfl fun a F => ?_)
 refine nl (wr ?_)
 cases hm
 refine x_ret1 F rfl rfl ?_
 exact ⟨_, rfl, rfl, H⟩
theorem fld84_0 : FieldT Tryz.prog 84 0 0 := by unfold FieldT; rw [Tryz.underlying84]; kernel_rfl
theorem fld84_2 : FieldT Tryz.prog 84 2 2 := by unfold FieldT; rw [Tryz.underlying84]; kernel_rfl
theorem plain76 : Plain Tryz.prog 76 := by unfold Plain; rw [Tryz.underlying76]; rfl
theorem fld84_1 : FieldT Tryz.prog 84 1 1 := by unfold FieldT; rw [Tryz.underlying84]; kernel_rfl
theorem plain32 : Plain Tryz.prog 32 := by unfold Plain; rw [Tryz.underlying32]; rfl
theorem ent90 : En Tryz.prog 90 := enters Tryz.func90 (by kernel_rfl) rfl
theorem ent92 : En Tryz.prog 92 := enters Tryz.func92 (by kernel_rfl) rfl
theorem w_m_node_right {x0_ : T_api_Node} {cs1 : List Value} {w0 w : World} {l : List HP}  {r : Bool} (hm : m_node_right x0_ = some r) (H : St w0 w (HP.rc R_api_Node cs1 x0_ :: l)) :
  Calls Tryz.prog 66 [.agg cs1.toArray].toArray w (fun e w' => ∃ v, e = .returned v ∧ v = .bool (r) ∧ St w0 w' (l)) := by
 unfold m_node_right at hm
 refine x_enter Tryz.func66 rfl rfl rfl ?_
 intro a F
 refine sr (s_boxA wkP F rfl rfl rfl rfl rfl H fun b2 w a H F => ?_)
 refine bb [0] F H rfl fun a F => ?_
 replace H := H.nf 2 rfl
 refine nl (sq (bl (sr (bk [0] F H rfl ⟨fld84_0, trivial⟩ fun a F => ?_))))
 have G := F; replace H := rc_api_Node (H.pk 1 rfl); obtain ⟨p3, c4, p5, c6, rfl, J⟩ := H; have H := J; have F := G; clear G J
 refine bk [2000,0,0] F H rfl ⟨rfl, plain3, trivial⟩ fun a F => ?_
 rcases spP 7 F rfl hm with ⟨hg7, hm, F⟩ | ⟨hg7, hm, F⟩
 refine bb (List.replicate 5 0) F H rfl fun a F => ?_
 refine nl (cT F rfl ?_)
 refine sb [0] F H rfl fun a F => ?_
 refine nl (wr (br (tr ?_)))
 cases hm
 refine x_ret1 F rfl rfl ?_
 exact ⟨_, rfl, rfl, (H.pm 3 [] rfl:)⟩
 refine bk [0,2000,0,0,0] F H rfl ⟨fld84_0, rfl, plain3, trivial⟩ fun a F => ?_
 refine nl (cPm F rfl hm (fun hg8 hm => ?_) (fun hg8 hm => ?_))
 refine sb [0] F H rfl fun a F => ?_
 refine nl (wr (br (tr ?_)))
 cases hm
 refine x_ret1 F rfl rfl ?_
 exact ⟨_, rfl, rfl, (H.pm 3 [] rfl:)⟩
 refine sr (bk [0,2000,0,0] F H rfl ⟨fld84_0, rfl, plain3, trivial⟩ fun a F => ?_)
 refine nl (cPm F rfl hm (fun hg9 hm => ?_) (fun hg9 hm => ?_))
 refine sr (bk [2,2002,0,0,0] F H rfl ⟨fld84_2, rfl, plain76, ⟨_, Tryz.underlying76⟩, trivial⟩ fun a F => ?_)
 rcases spP 20 F rfl hm with ⟨hg10, hm, F⟩ | ⟨hg10, hm, F⟩
 refine bk [1,2001,0,0,0,0] F H rfl ⟨fld84_1, rfl, plain32, ⟨_, Tryz.underlying32⟩, trivial⟩ fun a F => ?_
 rcases spP 26 F rfl hm with ⟨hg11, hm, F⟩ | ⟨hg11, hm, F⟩
 refine bk [1,2001] F H rfl ⟨fld84_1, rfl, plain32, trivial⟩ fun a F => ?_
 refine g_onP F rfl rfl rfl rfl ?_
 obtain ⟨x12, ex12, hm⟩ := ob hm
 refine sd F rfl ent90 (w_riseP ex12 (H.pm 3 [0,0,1,2] rfl:):) ?_; rintro _ w a ⟨rfl, H⟩ F
 refine bb [0,0] F H rfl fun a F => ?_
 replace H := H.nf 3 rfl
 refine nl (wr (br (tr ?_)))
 cases hm
 refine x_ret1 F rfl rfl ?_
 exact ⟨_, rfl, rfl, (H.pm 3 [] rfl:)⟩
 refine bb (List.replicate 5 0) F H rfl fun a F => ?_
 refine nl (wr (br (tr ?_)))
 cases hm
 refine x_ret1 F rfl rfl ?_
 exact ⟨_, rfl, rfl, (H.pm 3 [] rfl:)⟩
 refine bb (List.replicate 11 0) F H rfl fun a F => ?_
 refine nl (wr (br (tr ?_)))
 cases hm
 refine x_ret1 F rfl rfl ?_
 exact ⟨_, rfl, rfl, (H.pm 3 [] rfl:)⟩
 refine sk (bn (ct (sr (bk [1,2001,0,0,0] F H rfl ⟨fld84_1, rfl, plain32, ⟨_, Tryz.underlying32⟩, trivial⟩ fun a F => ?_))))
 rcases spP 35 F rfl hm with ⟨hg13, hm, F⟩ | ⟨hg13, hm, F⟩
 refine bk [2,2002,0,0,0,0] F H rfl ⟨fld84_2, rfl, plain76, ⟨_, Tryz.underlying76⟩, trivial⟩ fun a F => ?_
 rcases spP 41 F rfl hm with ⟨hg14, hm, F⟩ | ⟨hg14, hm, F⟩
 refine bk [2,2002,0,0,0,0] F H rfl ⟨fld84_2, rfl, plain76, ⟨_, Tryz.underlying76⟩, trivial⟩ fun a F => ?_
 rcases spP 47 F rfl hm with ⟨hg15, hm, F⟩ | ⟨hg15, hm, F⟩
 refine bk [2,2002] F H rfl ⟨fld84_2, rfl, plain76, trivial⟩ fun a F => ?_
 refine g_onP F rfl rfl rfl rfl ?_
 obtain ⟨x16, ex16, hm⟩ := ob hm
 refine sd F rfl ent92 (w_riseK ex16 (H.pm 3 [1,0,1,2] rfl:):) ?_; rintro _ w a ⟨rfl, H⟩ F
 refine bb [0,0] F H rfl fun a F => ?_
 replace H := H.nf 3 rfl
 refine nl (wr ?_)
 cases hm
 refine x_ret1 F rfl rfl ?_
 exact ⟨_, rfl, rfl, (H.pm 3 [] rfl:)⟩
 refine bb (List.replicate 5 0) F H rfl fun a F => ?_
 refine nl (wr ?_)
 cases hm
 refine x_ret1 F rfl rfl ?_
 exact ⟨_, rfl, rfl, (H.pm 3 [] rfl:)⟩
 refine bb (List.replicate 11 0) F H rfl fun a F => ?_
 refine nl (wr ?_)
 cases hm
 refine x_ret1 F rfl rfl ?_
 exact ⟨_, rfl, rfl, (H.pm 3 [] rfl:)⟩
 refine bb (List.replicate 17 0) F H rfl fun a F => ?_
 refine nl (wr ?_)
 cases hm
 refine x_ret1 F rfl rfl ?_
 exact ⟨_, rfl, rfl, (H.pm 3 [] rfl:)⟩
theorem agg84 : AggT Tryz.prog 84 3 [.int .i64 0, .slice none 0 0, .slice none 0 0] := ⟨by rw [Tryz.underlying84]; rfl, by kernel_rfl, by kernel_rfl⟩
theorem ent66 : En Tryz.prog 66 := enters Tryz.func66 (by kernel_rfl) rfl
theorem agz48 : AggT Tryz.prog 48 2 ([.slice none (([] : List UInt8)).length 0, .slice none (([] : List UInt8)).length 0]) := ⟨by rw [Tryz.underlying48]; rfl, by kernel_rfl, by kernel_rfl⟩
theorem ent68 : En Tryz.prog 68 := enters Tryz.func68 (by kernel_rfl) rfl
theorem fld48_1 : FieldT Tryz.prog 48 1 1 := by unfold FieldT; rw [Tryz.underlying48]; kernel_rfl
theorem agz80 : AggT Tryz.prog 80 33 ([Value.slice none (([] : List UInt8)).length 0] ++ (bcells (List.replicate 32 0))) := ⟨by rw [Tryz.underlying80]; rfl, by kernel_rfl, by kernel_rfl⟩
theorem fld80_1 : FieldT Tryz.prog 80 1 1 := by unfold FieldT; rw [Tryz.underlying80]; kernel_rfl
theorem ent69 : En Tryz.prog 69 := enters Tryz.func69 (by kernel_rfl) rfl
theorem w_ndWrite {n : T_api_Node} {cs1 : List Value} {w0 w : World} {l : List HP}  {r : (List UInt8) × Int} (hm : ndWrite n = some r) (H : St w0 w (HP.rc R_api_Node cs1 n :: l)) :
  Calls Tryz.prog 55 [.agg cs1.toArray].toArray w (fun e w' => ∃ v, e = .returned v ∧ ∃ (p2 : Option Addr) (c2 : Nat), v = .tuple [.slice p2 (r.1).length c2, .int .i64 (r.2)].toArray ∧ St w0 w' (HP.ow rByte 5 p2 c2 r.1 :: l)) := by
 unfold ndWrite at hm
 refine x_enter Tryz.func55 rfl rfl rfl ?_
 intro a F
 refine sr (s_boxA wkP F rfl rfl rfl rfl rfl H fun b3 w a H F => ?_)
 refine bb [0,0] F H rfl fun a F => ?_
 replace H := H.nf 2 rfl
 refine nl (sq (sr (bk [999] F H rfl ⟨rfl, (aggn agg84 (H.rcLen 1 rfl)), trivial⟩ fun a F => ?_)))
 obtain ⟨x4, ex4, hm⟩ := ob hm
 refine sd F rfl ent66 (w_m_node_right ex4 (H.pm 2 [1,0,1] rfl:):) ?_; rintro _ w a ⟨rfl, H⟩ F
 refine bb [0] F H rfl fun a F => ?_
 replace H := H.nf 2 rfl
 refine nl (cB F rfl (fun hg5 => ?_) (fun hg5 => ?_))
 replace hm := ifT hg5 hm
 refine sb [0,0] F H rfl fun a F => ?_
 refine nl (wr (tr ?_))
 replace H := H.owNil rByte 5
 cases hm
 refine x_ret2 F rfl rfl rfl ?_
 exact ⟨_, rfl, none, 0, rfl, (H.pm 3 [0] rfl:)⟩
 replace hm := ifF (nT hg5) hm
 refine sk (ct (sr ?_))
 replace H := H.owNil rByte 5
 refine sv F rfl (y_build F rfl rfl (cs := [.slice none (([] : List UInt8)).length 0]) (by kernel_rfl)) fun a F => ?_
 refine s_boxA wkP F rfl rfl rfl rfl rfl H fun b6 w a H F => ?_
 refine bb [0] F H rfl fun a F => ?_
 replace H := H.nf 4 rfl
 refine nl (sr (bk [0,0] F H rfl ⟨fld84_0, trivial⟩ fun a F => ?_))
 have G := F; replace H := rc_api_Node (H.pk 3 rfl); obtain ⟨p7, c8, p9, c10, rfl, J⟩ := H; have H := J; have F := G; clear G J
 refine bk [4000,1,1,4001,0,2,4002,0,0,1] F H rfl ⟨rfl, plain3, Tryz.underlying3, Tryz.underlying5, fld84_1, rfl, plain32, ⟨_, Tryz.underlying32⟩, fld84_2, rfl, plain76, ⟨_, Tryz.underlying76⟩, Tryz.underlying3, Tryz.underlying5, trivial⟩ fun a F => ?_
 obtain ⟨x12, ex12, hm⟩ := ob hm
 obtain ⟨x13, ex13, hm⟩ := ob hm
 obtain ⟨x14, ex14, hm⟩ := ob hm
 refine s_buildC wkP F rfl rfl rfl elem26 zero5 rfl rfl rfl rfl (by simp [Value.cells]) (by decide) H fun b11 w a H F => ?_
 replace H : St w0 w (HP.ow rByte 5 (some ⟨b11, 0, none⟩) (([x12, x13, x14]).length) ([x12, x13, x14]) :: HP.sl R_api_Pair p7 c8 n.2.1 :: HP.sl R_api_Kid p9 c10 n.2.2 :: HP.blk b6 ([.slice none (([] : List UInt8)).length 0]) 132 :: HP.ow rByte 5 none 0 ([] : List UInt8) :: HP.blk b3 ([.int .i64 (n.1), .slice p7 (n.2.1).length c8, .slice p9 (n.2.2).length c10]) 84 :: l) := H.blkOw (R := rByte) 0 rfl (fun gg => ⟨[[.int .u8 (84)], [.int .u8 (IntKind.u8.wrap (n.1))], [.int .u8 (IntKind.u8.wrap (IntKind.i64.wrap (((n.2.1).length : Int) + ((n.2.2).length : Int))))]], rfl, (congrArg (fun z => [Value.int .u8 z]) (u8O_some ex12).symm), (congrArg (fun z => [Value.int .u8 z]) (u8O_some ex13).symm), (congrArg (fun z => [Value.int .u8 z]) (u8O_some ex14).symm), trivial⟩) (by simp)
 replace H := O_pack_Pen_s (x0 := ([] : List UInt8)) (H.pm 6 [3,4,0,1,2,5] rfl:)
 replace H := H.frz 1 rfl
 obtain ⟨x15, ex15, hm⟩ := ob hm
 refine sd F rfl ent67 (w_penRaw ex15 (H.pm 5 [1,0,0,2,3,4] rfl:):) ?_; rintro _ w a ⟨rfl, H⟩ F
 replace H := H.nf 5 rfl
 refine nl (sq (sr (bk [1,4001,0,0] F H rfl ⟨fld84_1, rfl, plain32, ⟨_, Tryz.underlying32⟩, trivial⟩ fun a F => ?_)))
 refine nl (xr0 5 [1,4] [2,3,4] F H hm rfl rfl (fun r56 z => z) (fun r56 z => O_pack_Pen b6 r56 :: z) (fun o56 hm hm56 => ?_) (fun r56 a w hm F H => ?_))
 refine bl (xl0 5 [1,4,30,31] [2,3,4] F H hm rfl rfl (fun (s83 : T_pack_Pen_o × Int) z => (32, .int .i64 (s83.2)) :: z) (fun s83 z => O_pack_Pen b6 s83.1 :: z) ⟨F.sl rfl, (H.pm 5 [0,2,3,4] rfl:)⟩ (fun s83 a w o F H hm => ?_))
 refine sb [0] F H rfl fun a F => ?_
 refine nl (sq (cPm F rfl hm (fun hg84 hm => ?_) (fun hg84 hm => ?_)))
 refine sk (ct (sq (bl (sr ?_))))
 obtain ⟨x85, ex85, hm⟩ := ob hm
 obtain ⟨b86, o86, hp86, cs87, H⟩ := H.slE 1 rfl ex85
 refine sv F rfl (y_idxS F elem32 rfl rfl rfl hp86 ex85) fun a F => ?_
 refine bk [999] F H rfl ⟨rfl, (aggn agg48 (H.rcLen 1 rfl)), trivial⟩ fun a F => ?_
 replace H := H.owNil rByte 5
 replace H := H.owNil rByte 5
 refine s_allocA wkP F rfl rfl rfl agz48 rfl H fun b88 w a H F => ?_
 refine s_storeA wkP F rfl rfl agg48 rfl rfl rfl H 0 rfl (H.rcLen 4 rfl) rfl (H.rcFlat 4 rfl) fun w H => ?_
 replace H := H.nf 9 rfl
 refine nl (sr (bk [0,0] F H rfl ⟨fld48_0, trivial⟩ fun a F => ?_))
 have G := F; replace H := rc_api_Pair (H.pk 4 rfl); obtain ⟨p89, c90, p91, c92, rfl, J⟩ := H; have H := J; have F := G; clear G J
 refine bk [2000] F H rfl ⟨rfl, plain26, trivial⟩ fun a F => ?_
 obtain ⟨x93, ex93, hm⟩ := ob hm
 refine sd F rfl ent68 (w_penText ex93 (H.pm 10 [6,0,0,1,2,3,4,5,7,8,9] rfl:):) ?_; rintro _ w a ⟨rfl, H⟩ F
 refine bb [0,0] F H rfl fun a F => ?_
 rcases spN 41 F rfl hm with ⟨hg94, hm, F⟩ | ⟨hg94, hm, F⟩
 refine bk [0,1,3001] F H rfl ⟨fld48_1, rfl, plain26, trivial⟩ fun a F => ?_
 refine g_onP F rfl rfl rfl rfl ?_
 obtain ⟨x95, ex95, hm⟩ := ob hm
 refine sd F rfl ent68 (w_penText ex95 (H.pm 10 [0,2,1,2,3,4,5,6,7,8,9] rfl:):) ?_; rintro _ w a ⟨rfl, H⟩ F
 refine bb [0,0] F H rfl fun a F => ?_
 replace H := H.nf 10 rfl
 refine nl (cNm F rfl hm (fun hg96 hm => ?_) (fun hg96 hm => ?_))
 refine sb [0,0] F H rfl fun a F => ?_
 refine nl (wr (br (tr (tr ?_)))); cases hm; refine ⟨_, rfl, ?_⟩; rintro rfl
 refine br (tr ?_)
 replace hm := elimR hm56
 refine tr ?_
 replace H := H.owNil rByte 5
 cases hm
 refine x_ret2 F rfl rfl rfl ?_
 exact ⟨_, rfl, none, 0, rfl, (H.pm 11 [0] rfl:)⟩
 refine sk (bn (ct (rl (bb [0,0] F H rfl fun a F => ?_))))
 refine lz (ct ?_); cases hm
 exact ⟨_, rfl, ⟨F.sl rfl, (H.pm 10 [0,7,8,9] rfl:)⟩⟩
 refine bb (List.replicate 6 0) F H rfl fun a F => ?_
 replace H := H.nf 10 rfl
 refine nl (cT F rfl ?_)
 refine sb [0,0] F H rfl fun a F => ?_
 refine nl (wr (br (tr (tr ?_)))); cases hm; refine ⟨_, rfl, ?_⟩; rintro rfl
 refine br (tr ?_)
 replace hm := elimR hm56
 refine tr ?_
 replace H := H.owNil rByte 5
 cases hm
 refine x_ret2 F rfl rfl rfl ?_
 exact ⟨_, rfl, none, 0, rfl, (H.pm 11 [0] rfl:)⟩
 refine ex (cx (cx ?_)); cases hm; refine ⟨_, rfl, ?_⟩; rintro rfl
 refine ch (ct ?_)
 exact ⟨_, rfl, F.sl rfl, H⟩
 refine ct (sq (sr (bk [2,3002,0,0] F H rfl ⟨fld84_2, rfl, plain76, ⟨_, Tryz.underlying76⟩, trivial⟩ fun a F => ?_)))
 refine nl (xr0 4 [4] [1,2,3] F H hm rfl rfl (fun r131 z => z) (fun r131 z => O_pack_Pen b6 r131 :: z) (fun o131 hm hm131 => ?_) (fun r131 a w hm F H => ?_))
 refine bl (xl0 4 [4,50,51] [1,2,3] F H hm rfl rfl (fun (s154 : T_pack_Pen_o × Int) z => (52, .int .i64 (s154.2)) :: z) (fun s154 z => O_pack_Pen b6 s154.1 :: z) ⟨F.sl rfl, H⟩ (fun s154 a w o F H hm => ?_))
 refine sb [0] F H rfl fun a F => ?_
 refine nl (sq (cPm F rfl hm (fun hg155 hm => ?_) (fun hg155 hm => ?_)))
 refine sk (ct (sq (bl (sr ?_))))
 obtain ⟨x156, ex156, hm⟩ := ob hm
 obtain ⟨b157, o157, hp157, cs158, H⟩ := H.slE 2 rfl ex156
 refine sv F rfl (y_idxS F elem76 rfl rfl rfl hp157 ex156) fun a F => ?_
 refine bk [999] F H rfl ⟨rfl, (aggn agg80 (H.rcLen 1 rfl)), trivial⟩ fun a F => ?_
 replace H := H.owNil rByte 5
 refine s_allocA wkP F rfl rfl rfl agz80 rfl H fun b159 w a H F => ?_
 refine s_storeA wkP F rfl rfl agg80 rfl rfl rfl H 0 rfl (H.rcLen 3 rfl) (by simp only [List.length_append, List.length_cons, List.length_nil, icells_length, bcells_length, (List.length_replicate (n := 32))]) (H.rcFlat 3 rfl) fun w H => ?_
 replace H := H.nf 8 rfl
 refine nl (sq (sr (bk [0,0] F H rfl ⟨fld80_0, trivial⟩ fun a F => ?_)))
 have G := F; replace H := rc_api_Kid (H.pk 3 rfl); obtain ⟨p160, c161, hl162, rfl, J⟩ := H; have H := J; have F := G; clear G J
 refine bk [1000] F H rfl ⟨rfl, plain26, trivial⟩ fun a F => ?_
 obtain ⟨x163, ex163, hm⟩ := ob hm
 refine sd F rfl ent68 (w_penText ex163 (H.pm 8 [4,0,0,1,2,3,5,6,7] rfl:):) ?_; rintro _ w a ⟨rfl, H⟩ F
 refine bb [0] F H rfl fun a F => ?_
 replace H := H.nf 8 rfl
 refine nl (cNm F rfl hm (fun hg164 hm => ?_) (fun hg164 hm => ?_))
 refine sb [0,0] F H rfl fun a F => ?_
 refine nl (wr (tr (br (tr (tr ?_))))); cases hm; refine ⟨_, rfl, ?_⟩; rintro rfl
 refine br (tr ?_)
 replace hm := elimR hm131
 refine tr ?_
 replace H := H.owNil rByte 5
 cases hm
 refine x_ret2 F rfl rfl rfl ?_
 exact ⟨_, rfl, none, 0, rfl, (H.pm 9 [0] rfl:)⟩
 refine sk (ct (rl (bk [0,1] F H rfl ⟨fld80_1, trivial⟩ fun a F => ?_)))
 replace H := H.blkFrz 2 rfl
 replace H : St w0 w (HP.sl rByte (shp (some ⟨b159, 0 + 1, none⟩) 32 0 1) (32 - 0) x156.2 :: HP.row b159 (0) ([Value.slice p160 (x156.1).length c161] ++ (bcells x156.2)) :: O_pack_Pen b6 x163.2 :: HP.sl rByte p160 c161 x156.1 :: HP.ow rByte 5 none 0 ([] : List UInt8) :: HP.row b157 (o157 + (s154.2 : Int).toNat * 33) ([Value.slice p160 (x156.1).length c161] ++ (bcells x156.2)) :: HP.sl R_api_Pair p7 c8 n.2.1 :: HP.sl R_api_Kid p9 c10 n.2.2 :: HP.blk b3 ([.int .i64 (n.1), .slice p7 (n.2.1).length c8, .slice p9 (n.2.2).length c10]) 84 :: l) := H.rowSl 0 rfl (pre := [.slice p160 (x156.1).length c161]) (post := ([] : List Value)) (k := 1) (by simp) rfl hl162 (by decide)
 refine sv F rfl (y_slAW F arr25 rfl rfl hl162) fun a F => ?_
 obtain ⟨x165, ex165, hm⟩ := ob hm
 refine sd F rfl ent67 (w_penRaw ex165 (H.pm 9 [2,0,0,1,3,4,5,6,7,8] rfl:):) ?_; rintro _ w a ⟨rfl, H⟩ F
 replace H := H.nf 9 rfl
 refine lz (bn (ct (rl (bb [0,0] F H rfl fun a F => ?_))))
 refine lz (ct ?_); cases hm
 exact ⟨_, rfl, ⟨F.sl rfl, (H.pm 9 [0,6,7,8] rfl:)⟩⟩
 refine ex (cx (cx ?_)); cases hm; refine ⟨_, rfl, ?_⟩; rintro rfl
 refine ch (ct ?_)
 exact ⟨_, rfl, F.sl rfl, H⟩
 refine ct (sb [0] F H rfl fun a F => ?_)
 obtain ⟨x166, ex166, hm⟩ := ob hm
 refine sd F rfl ent69 (w_penData ex166 H:) ?_; rintro _ w a ⟨p167, c167, rfl, H⟩ F
 refine bb [0] F H rfl fun a F => ?_
 replace H := H.nf 5 rfl
 refine nl (sq (sr (bk [0,0,0] F H rfl ⟨⟨_, Tryz.underlying26⟩, trivial⟩ fun a F => ?_)))
 refine nl (cPm F rfl hm (fun hg168 hm => ?_) (fun hg168 hm => ?_))
 refine sb [0,0] F H rfl fun a F => ?_
 refine nl (wr (tr ?_))
 replace H := H.owNil rByte 5
 cases hm
 refine x_ret2 F rfl rfl rfl ?_
 exact ⟨_, rfl, none, 0, rfl, (H.pm 6 [0] rfl:)⟩
 refine sk (ct (sb [0,0,0] F H rfl fun a F => ?_))
 refine nl (wr ?_)
 cases hm
 refine x_ret2 F rfl rfl rfl ?_
 exact ⟨_, rfl, p167, c167, rfl, (H.pm 5 [0] rfl:)⟩
theorem w_equalB {x : List UInt8} {y : List UInt8} {p1 : Option Addr} {c1 : Nat} {p2 : Option Addr} {c2 : Nat} {w0 w : World} {l : List HP}  {r : Bool} (hm : equalB x y = some r) (H : St w0 w (HP.sl rByte p1 c1 x :: HP.sl rByte p2 c2 y :: l)) :
  Calls Tryz.prog 77 [.slice p1 (x).length c1, .slice p2 (y).length c2].toArray w (fun e w' => ∃ v, e = .returned v ∧ v = .bool (r) ∧ St w0 w' (l)) := by
 unfold equalB at hm
 refine x_enter Tryz.func77 rfl rfl rfl ?_
 intro a F
 refine sb [0] F H rfl fun a F => ?_
 refine nl (sq (sr (bk (List.replicate 5 0) F H rfl ⟨⟨_, Tryz.underlying26⟩, ⟨_, Tryz.underlying26⟩, trivial⟩ fun a F => ?_)))
 refine nl (cNm F rfl hm (fun hg3 hm => ?_) (fun hg3 hm => ?_))
 refine sb [0] F H rfl fun a F => ?_
 refine nl (wr (tr ?_))
 cases hm
 refine x_ret1 F rfl rfl ?_
 exact ⟨_, rfl, rfl, (H.pm 2 [] rfl:)⟩
 refine sk (ct (sq (sr (bk [0,0,0] F H rfl ⟨⟨_, Tryz.underlying26⟩, trivial⟩ fun a F => ?_))))
 refine nl (xr0 2 [] [] F H hm rfl rfl (fun r29 z => z) (fun r29 z => z) (fun o29 hm hm29 => ?_) (fun r29 a w hm F H => ?_))
 refine bl (xl0 2 [0,1,12] [0,1] F H hm rfl rfl (fun (s46 : Int) z => (13, .int .i64 (s46)) :: z) (fun s46 z => z) ⟨F.sl rfl, H⟩ (fun s46 a w o F H hm => ?_))
 refine sb [0] F H rfl fun a F => ?_
 refine nl (sq (cPm F rfl hm (fun hg47 hm => ?_) (fun hg47 hm => ?_)))
 refine sk (ct (sq (bl (sb [0,0] F H rfl fun a F => ?_))))
 refine nl (sq ?_)
 obtain ⟨x48, ex48, hm⟩ := ob hm
 obtain ⟨b49, o49, hp49, cs50, H⟩ := H.slE 0 rfl ex48
 obtain rfl := H.rcB 1 rfl
 replace H := H.dp 1 rfl
 obtain ⟨x51, ex51, hm⟩ := ob hm
 obtain ⟨b52, o52, hp52, cs53, H⟩ := H.slE 2 rfl ex51
 obtain rfl := H.rcB 1 rfl
 replace H := H.dp 1 rfl
 refine qr H (by kernel_rfl) (by kernel_rfl) ?_
 refine qb [0,0] F rfl fun a F => ?_
 refine qv F rfl (fun u hu => y_idxS F elem26 rfl rfl rfl hp49 ex48) fun a F => ?_
 refine qbk [1000,0,0] F rfl ⟨rfl, plain5, trivial⟩ fun a F => ?_
 refine qv F rfl (fun u hu => y_idxS F elem26 rfl rfl rfl hp52 ex51) fun a F => ?_
 refine qbk [0,0] F rfl ⟨rfl, plain5, trivial⟩ fun a F => ?_
 refine q_nil fun w H => ?_
 refine ct (cNm F rfl hm (fun hg54 hm => ?_) (fun hg54 hm => ?_))
 refine sb [0] F H rfl fun a F => ?_
 refine nl (wr (br (tr (tr ?_)))); cases hm; refine ⟨_, rfl, ?_⟩; rintro rfl
 refine br (tr ?_)
 replace hm := elimR hm29
 refine tr ?_
 cases hm
 refine x_ret1 F rfl rfl ?_
 exact ⟨_, rfl, rfl, (H.pm 4 [] rfl:)⟩
 refine sk (bn (ct (rl (bb [0,0] F H rfl fun a F => ?_))))
 refine lz (ct ?_); cases hm
 exact ⟨_, rfl, ⟨F.sl rfl, (H.pm 4 [2,3] rfl:)⟩⟩
 refine ex (cx (cx ?_)); cases hm; refine ⟨_, rfl, ?_⟩; rintro rfl
 refine ch (ct ?_)
 exact ⟨_, rfl, F.cut _ trivial, (H.pm 2 [] rfl:)⟩
 refine ct (sb [0] F H rfl fun a F => ?_)
 refine nl (wr ?_)
 cases hm
 refine x_ret1 F rfl rfl ?_
 exact ⟨_, rfl, rfl, H⟩
theorem agz84 : AggT Tryz.prog 84 3 ([.int .i64 (0), .slice none (([] : List T_api_Pair)).length 0, .slice none (([] : List T_api_Kid)).length 0]) := ⟨by rw [Tryz.underlying84]; rfl, by kernel_rfl, by kernel_rfl⟩
theorem ent73 : En Tryz.prog 73 := enters Tryz.func73 (by kernel_rfl) rfl
theorem ent75 : En Tryz.prog 75 := enters Tryz.func75 (by kernel_rfl) rfl
theorem zero32 : Zero1 Tryz.prog 32 (.slice none 0 0) := ⟨by kernel_rfl, rfl⟩
theorem build_80_0 : ∀ (p0 : Option Addr) (x0 : List UInt8) (c0 : Nat), Tryz.prog.built 80 [(0, .slice p0 (x0).length c0)] = some (([Value.slice p0 (x0).length c0] ++ (bcells (List.replicate 32 0)) : List Value)).toArray := fun p0 x0 c0 => by kernel_rfl
theorem zero76 : Zero1 Tryz.prog 76 (.slice none 0 0) := ⟨by kernel_rfl, rfl⟩
theorem ent55 : En Tryz.prog 55 := enters Tryz.func55 (by kernel_rfl) rfl
theorem ent77 : En Tryz.prog 77 := enters Tryz.func77 (by kernel_rfl) rfl
theorem w_ndRead {block : List UInt8} {p1 : Option Addr} {c1 : Nat} {w0 w : World} {l : List HP}  {r : T_api_Node × Int} (hm : ndRead block = some r) (H : St w0 w (HP.sl rByte p1 c1 block :: l)) :
  Calls Tryz.prog 57 [.slice p1 (block).length c1].toArray w (fun e w' => ∃ v, e = .returned v ∧ ∃ (p2 : Option Addr) (c2 : Nat) (p3 : Option Addr) (c3 : Nat), v = .tuple [.agg ([.int .i64 (r.1.1), .slice p2 (r.1.2.1).length c2, .slice p3 (r.1.2.2).length c3]).toArray, .int .i64 (r.2)].toArray ∧ St w0 w' (HP.nsl w0.heap.size (rP2N w0.heap.size) p2 c2 r.1.2.1 :: HP.sl R_api_Kid p3 c3 r.1.2.2 :: l)) := by
 unfold ndRead at hm
 refine x_enter Tryz.func57 rfl rfl rfl ?_
 intro a F
 refine sr ?_
 replace H := H.owNil (rP2N w0.heap.size) 48
 replace H := H.owNil R_api_Kid 80
 refine s_allocA wkP F rfl rfl rfl agz84 rfl H fun b4 w a H F => ?_
 refine bb [0] F H rfl fun a F => ?_
 replace H := H.nf 4 rfl
 refine nb [0] F H rfl fun a F => ?_
 obtain ⟨x5, ex5, hm⟩ := ob hm
 refine sd F rfl ent73 (w_newEye ex5 (H.pm 4 [3,0,1,2,3] rfl:):) ?_; rintro _ w a ⟨b6, rfl, H⟩ F
 refine bb [0] F H rfl fun a F => ?_
 replace H := H.nf 5 rfl
 refine nb [0] F H rfl fun a F => ?_
 obtain ⟨x7, ex7, hm⟩ := ob hm
 refine sd F rfl ent74 (w_eyeUint ex7 H:) ?_; rintro _ w a ⟨rfl, H⟩ F
 replace H := H.nf 5 rfl
 refine nb [0] F H rfl fun a F => ?_
 obtain ⟨x8, ex8, hm⟩ := ob hm
 refine sd F rfl ent74 (w_eyeUint ex8 H:) ?_; rintro _ w a ⟨rfl, H⟩ F
 refine bb (List.replicate 5 0) F H rfl fun a F => ?_
 replace H := H.nf 5 rfl
 refine nb [0] F H rfl fun a F => ?_
 obtain ⟨x9, ex9, hm⟩ := ob hm
 refine sd F rfl ent74 (w_eyeUint ex9 H:) ?_; rintro _ w a ⟨rfl, H⟩ F
 refine bb (List.replicate 5 0) F H rfl fun a F => ?_
 replace H := H.nf 5 rfl
 refine nl (sr (bk [0,0] F H rfl ⟨Tryz.underlying116, Tryz.underlying3, trivial⟩ fun a F => ?_))
 replace H := H.owNil (rP2N w0.heap.size) 48
 replace H := H.owNil R_api_Kid 80
 refine sv F rfl (y_build F rfl rfl (cs := [.int .i64 (IntKind.i64.wrap (x8.1)), .slice none (([] : List T_api_Pair)).length 0, .slice none (([] : List T_api_Kid)).length 0]) (by kernel_rfl)) fun a F => ?_
 replace H := H.owNil (rP2N w0.heap.size) 48
 replace H := H.owNil R_api_Kid 80
 refine s_allocA wkP F rfl rfl rfl agz84 rfl H fun b10 w a H F => ?_
 refine s_storeA wkP F rfl rfl agg84 rfl rfl rfl H 0 rfl rfl rfl (fl rfl) fun w H => ?_
 replace H := H.nf 10 rfl
 refine nl (sq (sb [0,0] F H rfl fun a F => ?_))
 refine nl ?_
 refine xm4 10 [0,2,9] [1,2,6,7,8,9] F H hm rfl rfl (fun r120 (p121 : Option Addr) (c121 : Nat) (p122 : Option Addr) (c122 : Nat) z => z) (fun r120 p121 c121 p122 c122 z => HP.blk b10 ([.int .i64 (IntKind.i64.wrap (x8.1)), .slice p121 (r120.1.1).length c121, .slice p122 (r120.1.2).length c122]) 84 :: O_pack_Eye_1 b6 r120.2 :: HP.ow (rP2N w0.heap.size) 48 p121 c121 r120.1.1 :: HP.ow R_api_Kid 80 p122 c122 r120.1.2 :: z) (fun r120 hm => ?_) (fun r120 a w hm p121 c121 p122 c122 F H => ?_)
 refine bl ?_
 refine xl4 10 [0,2,4,5,9,36] [1,2,6,7,8,9] F H hm rfl rfl (fun (s195 : ((List T_api_Pair) × (List T_api_Kid)) × T_pack_Eye_o × Int) (p196 : Option Addr) (c196 : Nat) (p197 : Option Addr) (c197 : Nat) z => (37, .int .u64 (s195.2.2)) :: z) (fun s195 p196 c196 p197 c197 z => HP.blk b10 ([.int .i64 (IntKind.i64.wrap (x8.1)), .slice p196 (s195.1.1).length c196, .slice p197 (s195.1.2).length c197]) 84 :: O_pack_Eye_1 b6 s195.2.1 :: HP.ow (rP2N w0.heap.size) 48 p196 c196 s195.1.1 :: HP.ow R_api_Kid 80 p197 c197 s195.1.2 :: z) ⟨none,0, none,0, F.sl rfl, (H.pm 10 [0,5,4,3,1,2,6,7,8,9] rfl:)⟩ (fun s195 a w o p196 c196 p197 c197 F H hm => ?_)
 refine sb [0] F H rfl fun a F => ?_
 refine nl (sq (cPm F rfl hm (fun hg198 hm => ?_) (fun hg198 hm => ?_)))
 refine sk (ct (sq ?_))
 refine xm4 10 [0,2,4,5,9,36,37] [4,5,6,7,8,9] F H hm rfl rfl (fun r214 (p215 : Option Addr) (c215 : Nat) (p216 : Option Addr) (c216 : Nat) z => z) (fun r214 p215 c215 p216 c216 z => HP.blk b10 ([.int .i64 (IntKind.i64.wrap (x8.1)), .slice p215 (r214.1.1).length c215, .slice p216 (r214.1.2).length c216]) 84 :: O_pack_Eye_1 b6 r214.2 :: HP.ow (rP2N w0.heap.size) 48 p215 c215 r214.1.1 :: HP.ow R_api_Kid 80 p216 c216 r214.1.2 :: z) (fun r214 hm => ?_) (fun r214 a w hm p215 c215 p216 c216 F H => ?_)
 refine bl (sb [0] F H rfl fun a F => ?_)
 obtain ⟨x217, ex217, hm⟩ := ob hm
 refine sd F rfl ent75 (w_eyeText ex217 (H.pm 10 [1,0,2,3,4,5,6,7,8,9] rfl:):) ?_; rintro _ w a ⟨p218, c218, rfl, H⟩ F
 refine bb (List.replicate 5 0) F H rfl fun a F => ?_
 replace H := H.nf 11 rfl
 refine nl (sq (sb [0,0] F H rfl fun a F => ?_))
 refine nl (cPm F rfl hm (fun hg219 hm => ?_) (fun hg219 hm => ?_))
 refine sb [0] F H rfl fun a F => ?_
 obtain ⟨x220, ex220, hm⟩ := ob hm
 refine sd F rfl ent75 (w_eyeText ex220 (H.pm 11 [1,0,2,3,4,5,6,7,8,9,10] rfl:):) ?_; rintro _ w a ⟨p221, c221, rfl, H⟩ F
 refine bb (List.replicate 5 0) F H rfl fun a F => ?_
 replace H := H.nf 12 rfl
 refine nl (sr (bk [1,3001,0,0] F H rfl ⟨fld84_1, rfl, plain32, trivial⟩ fun a F => ?_))
 refine sv F rfl (y_build F rfl rfl (cs := [.slice p218 (x217.1).length c218, .slice p221 (x220.1).length c221]) (by kernel_rfl)) fun a F => ?_
 replace H := H.frzNB 2 rfl
 replace H := H.nslSl 0 rfl
 replace H := H.frzNB 2 rfl
 replace H := H.nslSl 0 rfl
 refine s_build1 wkP F rfl rfl rfl agg48 elem32 rfl rfl rfl (by decide) H fun b222 w a H F => ?_
 replace H := H.blkOw1 (R := (rP2N w0.heap.size)) (x := (x217.1, x220.1)) (fun gg => ⟨_, _, rfl, ⟨_, _, rfl, (gg 4 _ rfl).choose_spec⟩, ⟨_, _, rfl, (gg 2 _ rfl).choose_spec⟩⟩)
 replace H := H.frzP2 0 rfl
 replace H := H.nslSl 0 rfl
 obtain ⟨x224, ex224, hm⟩ := ob hm
 refine s_app wkP F rfl rfl rfl rfl rfl rfl elem32 rfl ex224 H 8 0 rfl rfl fun p223 c223 w a H F => ?_
 refine bk [1] F H rfl ⟨fld84_1, trivial⟩ fun a F => ?_
 refine s_st1 wkP F rfl rfl zero32 rfl rfl rfl rfl rfl H 7 rfl rfl fun w H => ?_
 replace H := H.nf 16 rfl
 refine nl (ex (cx (ch ?_)))
 cases hm
 refine ct ?_
 exact ⟨p223, c223, p197, c197, F.sl rfl, (H.pm 16 [7,6,8,9,10,11,12,13,14,15] rfl:)⟩
 refine sk (ct (sb [0] F H rfl fun a F => ?_))
 refine sv F rfl (y_build F rfl rfl (cs := [Value.slice p218 (x217.1).length c218] ++ (bcells (List.replicate 32 0))) (build_80_0 p218 x217.1 c218)) fun a F => ?_
 replace H := H.owNil rByte 5
 refine s_allocA wkP F rfl rfl rfl agz80 rfl H fun b225 w a H F => ?_
 refine s_storeA wkP F rfl rfl agg80 rfl rfl rfl H 0 rfl (by simp only [List.length_append, List.length_cons, List.length_nil, icells_length, bcells_length, (List.length_replicate (n := 32))]) (by simp only [List.length_append, List.length_cons, List.length_nil, icells_length, bcells_length, (List.length_replicate (n := 32))]) (by intro v hv; simp only [List.mem_append, List.mem_cons, List.not_mem_nil, or_false] at hv; first | (rcases hv with h | h <;> first | (subst h; rfl) | exact bcells_flat _ _ h | exact icells_flat _ _ _ h | (rcases h with h | h <;> first | (subst h; rfl) | exact bcells_flat _ _ h | exact icells_flat _ _ _ h | (rcases h with h | h <;> first | (subst h; rfl) | exact bcells_flat _ _ h | (rcases h with h | h <;> first | (subst h; rfl) | (rcases h with h | h <;> (subst h; rfl)))))) | (subst hv; rfl)) fun w H => ?_
 replace H := H.nf 13 rfl
 refine nb [0] F H rfl fun a F => ?_
 obtain ⟨x226, ex226, hm⟩ := ob hm
 refine sd F rfl ent76 (w_eyeRaw ex226 (H.pm 13 [3,0,1,2,4,5,6,7,8,9,10,11,12] rfl:):) ?_; rintro _ w a ⟨p227, c227, rfl, H⟩ F
 refine bb (List.replicate 5 0) F H rfl fun a F => ?_
 replace H := H.nf 14 rfl
 refine nl (sr (bk [1] F H rfl ⟨fld80_1, trivial⟩ fun a F => ?_))
 refine sv F rfl (y_slAW (α := UInt8) (xs := (List.replicate 32 0)) F arr25 rfl rfl (List.length_replicate (n := 32))) fun a F => ?_
 refine bb [0] F H rfl fun a F => ?_
 replace H := H.frz 0 rfl
 have hA228 : ((List.replicate 32 0) : List UInt8).length = 32 := (List.length_replicate (n := 32))
 have hl228 : (putAt (List.replicate 32 0) 0 ((x226.1).take 32) : List UInt8).length = 32 := (putAt_len _ _ _ (by rw [List.length_take]; omega)).trans hA228
 refine s_cpyFE (n := 32) wkP F rfl rfl rfl elem26 rfl rfl hA228 (shp_ne (by decide)) rfl H 2 0 (A := [.slice p218 (x217.1).length c218]) rfl rfl (by simp only [List.length_append, List.length_cons, List.length_nil, icells_length, bcells_length]) hA228 fun w a H F => ?_
 replace H := H.nf 14 rfl
 refine nl (rl (bk [2,5002,2999] F H rfl ⟨fld84_2, rfl, plain76, rfl, (aggn agg80 (by simp only [List.length_append, List.length_cons, List.length_nil, icells_length, bcells_length, hl228])), trivial⟩ fun a F => ?_))
 replace H := H.frzNB 4 rfl
 replace H := H.nslSl 0 rfl
 refine s_build1 wkP F rfl rfl rfl agg80 elem76 rfl rfl (by simp only [List.length_append, List.length_cons, List.length_nil, icells_length, bcells_length, hl228]) (by decide) H fun b229 w a H F => ?_
 replace H := H.blkOw1 (R := R_api_Kid) (x := (x217.1, putAt (List.replicate 32 0) 0 ((x226.1).take 32))) (fun gg => ⟨_, _, rfl, ⟨_, _, rfl, (gg 1 _ rfl).choose_spec⟩, ⟨rfl, hl228⟩⟩)
 replace H := H.frz 0 rfl
 obtain ⟨x231, ex231, hm⟩ := ob hm
 refine s_app wkP F rfl rfl rfl rfl rfl rfl elem76 rfl ex231 H 9 0 rfl rfl fun p230 c230 w a H F => ?_
 refine bk [2] F H rfl ⟨fld84_2, trivial⟩ fun a F => ?_
 refine s_st1 wkP F rfl rfl zero76 rfl rfl rfl rfl rfl H 7 rfl rfl fun w H => ?_
 replace H := H.nf 16 rfl
 refine lz (bn ?_)
 cases hm
 refine ct ?_
 exact ⟨p196, c196, p230, c230, F.sl rfl, (H.pm 16 [7,4,8,9,10,11,12,13,14,15] rfl:)⟩
 refine ct (rl (bb [0,0] F H rfl fun a F => ?_))
 refine lz (ct ?_); cases hm
 exact ⟨_, rfl, ⟨p215, c215, p216, c216, F.sl rfl, H⟩⟩
 refine ex (cx (cx ?_)); cases hm; refine ⟨_, rfl, ?_⟩; rintro rfl
 refine ch (ct ?_)
 exact ⟨p196, c196, p197, c197, F.sl rfl, H⟩
 refine ct (sq (sr (bk [999] F H rfl ⟨rfl, (aggn agg84 rfl), trivial⟩ fun a F => ?_)))
 replace H := H.frzP2 2 rfl
 replace H := H.nslSl 0 rfl
 replace H := H.frz 4 rfl
 replace H := H.slP2W 1 rfl
 replace H := mk_api_Node H (IntKind.i64.wrap (x8.1)) 0 rfl 1 rfl
 obtain ⟨x232, ex232, hm⟩ := ob hm
 refine sd F rfl ent55 (w_ndWrite ex232 (H.pm 13 [0,0,1,2,3,4,5,6,7,8,9,10,11,12] rfl:):) ?_; rintro _ w a ⟨p233, c233, rfl, H⟩ F
 refine bb (List.replicate 5 0) F H rfl fun a F => ?_
 replace H := H.nf 14 rfl
 refine nb [0,0,0] F H rfl fun a F => ?_
 rcases spN 84 F rfl hm with ⟨hg234, hm, F⟩ | ⟨hg234, hm, F⟩
 refine bb [0,0] F H rfl fun a F => ?_
 refine g_onP F rfl rfl rfl rfl ?_
 replace H := H.frz 0 rfl
 obtain ⟨x235, ex235, hm⟩ := ob hm
 refine sd F rfl ent77 (w_equalB ex235 (H.pm 14 [0,13,0,1,2,3,4,5,6,7,8,9,10,11,12,13] rfl:):) ?_; rintro _ w a ⟨rfl, H⟩ F
 refine bb [0,0] F H rfl fun a F => ?_
 replace H := H.nf 14 rfl
 refine nl (cB F rfl (fun hg236 => ?_) (fun hg236 => ?_))
 replace hm := ifT hg236 hm
 refine sr ?_
 replace H := H.owNil (rP2N w0.heap.size) 48
 replace H := H.owNil R_api_Kid 80
 refine sv F rfl (y_build F rfl rfl (cs := [.int .i64 (0), .slice none (([] : List T_api_Pair)).length 0, .slice none (([] : List T_api_Kid)).length 0]) (by kernel_rfl)) fun a F => ?_
 refine s_storeA wkP F rfl rfl agg84 rfl rfl rfl H 12 rfl rfl rfl (fl rfl) fun w H => ?_
 refine bb [0] F H rfl fun a F => ?_
 replace H := H.nf 16 rfl
 refine nl (wr (tr ?_))
 replace H := H.frzP2 1 rfl
 replace H := H.frz 1 rfl
 cases hm
 refine x_resC2 F rfl (⟨_, rfl, agg84.run_load (H.blk 12 rfl).row rfl⟩) rfl ?_
 exact ⟨_, rfl, none,0, none,0, rfl, (H.pm 16 [1,0] rfl:)⟩
 replace hm := ifF (nT hg236) hm
 refine sk (ct (sr (bk [6999] F H rfl ⟨rfl, (aggn agg84 rfl), trivial⟩ fun a F => ?_)))
 refine s_storeA wkP F rfl rfl agg84 rfl rfl rfl H 10 rfl rfl rfl (fl rfl) fun w H => ?_
 refine bb [0] F H rfl fun a F => ?_
 replace H := H.nf 14 rfl
 refine nl (wr ?_)
 cases hm
 refine x_resC2 F rfl (⟨_, rfl, agg84.run_load (H.blk 10 rfl).row rfl⟩) rfl ?_
 exact ⟨_, rfl, p121, c121, p122, c122, rfl, (H.pm 14 [5,3] rfl:)⟩
 refine bb (List.replicate 5 0) F H rfl fun a F => ?_
 refine nl (cT F rfl ?_)
 refine sr ?_
 replace H := H.owNil (rP2N w0.heap.size) 48
 replace H := H.owNil R_api_Kid 80
 refine sv F rfl (y_build F rfl rfl (cs := [.int .i64 (0), .slice none (([] : List T_api_Pair)).length 0, .slice none (([] : List T_api_Kid)).length 0]) (by kernel_rfl)) fun a F => ?_
 refine s_storeA wkP F rfl rfl agg84 rfl rfl rfl H 12 rfl rfl rfl (fl rfl) fun w H => ?_
 refine bb [0] F H rfl fun a F => ?_
 replace H := H.nf 16 rfl
 refine nl (wr (tr ?_))
 replace H := H.frzP2 1 rfl
 replace H := H.frz 1 rfl
 cases hm
 refine x_resC2 F rfl (⟨_, rfl, agg84.run_load (H.blk 12 rfl).row rfl⟩) rfl ?_
 exact ⟨_, rfl, none,0, none,0, rfl, (H.pm 16 [1,0] rfl:)⟩
end Go.Proofs.YtnjemlkcamdbfaaGreatDoor
