/- tree -/
import Derived.Test.YtnjemlkcamdbfaaGreatDoorKeyA
set_option linter.unusedSimpArgs false
set_option linter.unusedVariables false
namespace Go.Proofs.YtnjemlkcamdbfaaGreatDoor
open Go.RowKit Go.Tri
set_option maxRecDepth 100000
set_option maxHeartbeats 4000000
theorem w_m_tree_compare {x0_ : T_api_Pair} {x1_ : T_api_Pair} {cs1 : List Value} {cs2 : List Value} {w0 w : World} {l : List HP}  {r : Int} (hm : m_tree_compare x0_ x1_ = some r) (H : St w0 w (HP.rc R_api_Pair cs1 x0_ :: HP.rc R_api_Pair cs2 x1_ :: l)) :
  Calls Tryz.prog 24 [.agg cs1.toArray, .agg cs2.toArray].toArray w (fun e w' => ∃ v, e = .returned v ∧ v = .int .i64 (r) ∧ St w0 w' (l)) := by
 unfold m_tree_compare at hm
 refine x_enter Tryz.func24 rfl rfl rfl ?_
 intro a F
 refine sr (s_boxA wkP F rfl rfl rfl rfl rfl H fun b3 w a H F => ?_)
 refine s_boxA wkP F rfl rfl rfl rfl rfl H fun b4 w a H F => ?_
 refine bb [0] F H rfl fun a F => ?_
 replace H := H.nf 4 rfl
 refine nl (sr (bk [0] F H rfl ⟨fld48_0, trivial⟩ fun a F => ?_))
 have G := F; replace H := rc_api_Pair (H.pk 2 rfl); obtain ⟨p5, c6, p7, c8, rfl, J⟩ := H; have H := J; have F := G; clear G J
 refine bk [3000,0] F H rfl ⟨rfl, plain26, fld48_0, trivial⟩ fun a F => ?_
 have G := F; replace H := rc_api_Pair (H.pk 4 rfl); obtain ⟨p9, c10, p11, c12, rfl, J⟩ := H; have H := J; have F := G; clear G J
 refine bk [4000] F H rfl ⟨rfl, plain26, trivial⟩ fun a F => ?_
 obtain ⟨x13, ex13, hm⟩ := ob hm
 refine sd F rfl ent29 (w_cmpB ex13 (H.pm 6 [2,0,0,1,2,3,4,5] rfl:):) ?_; rintro _ w a ⟨rfl, H⟩ F
 refine bb [0] F H rfl fun a F => ?_
 replace H := H.nf 6 rfl
 refine nl (wr ?_)
 cases hm
 refine x_ret1 F rfl rfl ?_
 exact ⟨_, rfl, rfl, (H.pm 6 [] rfl:)⟩
theorem ent24 : En Tryz.prog 24 := enters Tryz.func24 (by kernel_rfl) rfl
theorem w_m_tree_rises {x0_ : List T_api_Pair} {p1 : Option Addr} {c1 : Nat} {w0 w : World} {l : List HP}  {r : Bool} (hm : m_tree_rises x0_ = some r) (H : St w0 w (HP.sl R_api_Pair p1 c1 x0_ :: l)) :
  Calls Tryz.prog 35 [.slice p1 (x0_).length c1].toArray w (fun e w' => ∃ v, e = .returned v ∧ v = .bool (r) ∧ St w0 w' (l)) := by
 unfold m_tree_rises at hm
 refine x_enter Tryz.func35 rfl rfl rfl ?_
 intro a F
 refine sb [0] F H rfl fun a F => ?_
 refine nl (sq (sb [0] F H rfl fun a F => ?_))
 refine nl (xr0 1 [] [] F H hm rfl rfl (fun r27 z => z) (fun r27 z => z) (fun o27 hm hm27 => ?_) (fun r27 a w hm F H => ?_))
 refine bl (xl0 1 [0] [0] F H hm rfl rfl (fun (s44 : Int) z => (3, .int .i64 (s44)) :: z) (fun s44 z => z) ⟨F.sl rfl, H⟩ (fun s44 a w o F H hm => ?_))
 refine sq (sr (bk [0,0,0,0] F H rfl ⟨⟨_, Tryz.underlying32⟩, trivial⟩ fun a F => ?_))
 refine nl (cPm F rfl hm (fun hg45 hm => ?_) (fun hg45 hm => ?_))
 refine sk (ct (sq (bl (sq ?_))))
 obtain ⟨x46, ex46, hm⟩ := ob hm
 obtain ⟨b47, o47, hp47, cs48, H⟩ := H.slE 0 rfl ex46
 obtain ⟨x49, ex49, hm⟩ := ob hm
 obtain ⟨cs50, H⟩ := H.slF 2 rfl hp47 ex49
 obtain ⟨x51, ex51, hm⟩ := ob hm
 refine qr H (by kernel_rfl) (by kernel_rfl) ?_
 refine qb [0,0,0] F rfl fun a F => ?_
 refine qv F rfl (fun u hu => y_idxS F elem32 rfl rfl rfl hp47 ex46) fun a F => ?_
 refine qbk [2999,0,0] F rfl ⟨rfl, (aggn agg48 (H.rcLen 3 rfl)), trivial⟩ fun a F => ?_
 refine qv F rfl (fun u hu => y_idxS F elem32 rfl rfl rfl hp47 ex49) fun a F => ?_
 refine qbk [999] F rfl ⟨rfl, (aggn agg48 (H.rcLen 1 rfl)), trivial⟩ fun a F => ?_
 refine q_call F rfl rfl rfl (fun u hu => y_call F rfl rfl ent24) (fun u hu => (w_m_tree_compare ex51 (hu.pm 5 [3,1,0,1,2,3,4] rfl:)).mono fun e u2 he => by obtain ⟨v, rfl, rfl, H⟩ := he; exact ⟨rfl, H⟩) fun a F => ?_
 refine qb [0] F rfl fun a F => ?_
 refine q_nil fun w H => ?_
 refine ct (cPm F rfl hm (fun hg52 hm => ?_) (fun hg52 hm => ?_))
 refine sb [0] F H rfl fun a F => ?_
 refine nl (wr (br (tr (tr ?_)))); cases hm; refine ⟨_, rfl, ?_⟩; rintro rfl
 refine br (tr ?_)
 replace hm := elimR hm27
 refine tr ?_
 cases hm
 refine x_ret1 F rfl rfl ?_
 exact ⟨_, rfl, rfl, (H.pm 5 [] rfl:)⟩
 refine sk (bn (ct (rl (bb [0,0,0] F H rfl fun a F => ?_))))
 refine lz (ct ?_); cases hm
 exact ⟨_, rfl, ⟨F.sl rfl, (H.pm 5 [4] rfl:)⟩⟩
 refine ex (cx (cx ?_)); cases hm; refine ⟨_, rfl, ?_⟩; rintro rfl
 refine ch (ct ?_)
 exact ⟨_, rfl, F.cut _ trivial, (H.pm 1 [] rfl:)⟩
 refine ct (sb [0] F H rfl fun a F => ?_)
 refine nl (wr ?_)
 cases hm
 refine x_ret1 F rfl rfl ?_
 exact ⟨_, rfl, rfl, H⟩
theorem elem87 : ElemT Tryz.prog 87 32 1 24 (.slice none 0 0) := ⟨Tryz.underlying87, by kernel_rfl, by kernel_rfl, by decide⟩
theorem w_m_tree_cut_api_Pair_ {x0_ : List T_api_Pair} {x1_ : List Int} {p1 : Option Addr} {c1 : Nat} {p2 : Option Addr} {c2 : Nat} {w0 w : World} {l : List HP}  {r : (List (List T_api_Pair))} (hm : m_tree_cut_api_Pair_ x0_ x1_ = some r) (H : St w0 w (HP.sl R_api_Pair p1 c1 x0_ :: HP.sl (rInt .i64) p2 c2 x1_ :: l)) :
  Calls Tryz.prog 36 [.slice p1 (x0_).length c1, .slice p2 (x1_).length c2].toArray w (fun e w' => ∃ v, e = .returned v ∧ ∃ (p3 : Option Addr) (c3 : Nat), v = .slice p3 (r).length c3 ∧ St w0 w' (HP.sl (rSl R_api_Pair) p3 c3 r :: l)) := by
 unfold m_tree_cut_api_Pair_ at hm
 refine x_enter Tryz.func36 rfl rfl rfl ?_
 intro a F
 refine sb [0] F H rfl fun a F => ?_
 refine nl (sq (sr (bk [0,0,0] F H rfl ⟨⟨_, Tryz.underlying77⟩, trivial⟩ fun a F => ?_)))
 refine nl (xm2 2 [] [] F H hm rfl rfl (fun r44 (p45 : Option Addr) (c45 : Nat) z => (4, .slice p45 (r44).length c45) :: z) (fun r44 p45 c45 z => HP.ow (rSl R_api_Pair) 32 p45 c45 r44 :: z) (fun r44 hm => ?_) (fun r44 a w hm p45 c45 F H => ?_))
 refine bl ?_
 replace H := H.owNil (rSl R_api_Pair) 32
 refine xl4 3 [7,8] [2] F H hm rfl rfl (fun (s72 : (List T_api_Pair) × (List (List T_api_Pair)) × Int) (p73 : Option Addr) (c73 : Nat) (p74 : Option Addr) (c74 : Nat) z => (0, .slice p73 (s72.1).length c73) :: (4, .slice p74 (s72.2.1).length c74) :: (9, .int .i64 (s72.2.2)) :: z) (fun s72 p73 c73 p74 c74 z => HP.sl R_api_Pair p73 c73 s72.1 :: HP.ow (rSl R_api_Pair) 32 p74 c74 s72.2.1 :: z) ⟨p1, c1, none,0, F.sl rfl, (H.pm 3 [1,0,2] rfl:)⟩ (fun s72 a w o p73 c73 p74 c74 F H hm => ?_)
 refine sb [0] F H rfl fun a F => ?_
 refine nl (sq (cPm F rfl hm (fun hg75 hm => ?_) (fun hg75 hm => ?_)))
 refine sk (ct (sq (bl (sr ?_))))
 obtain ⟨x76, ex76, hm⟩ := ob hm
 obtain ⟨b77, o77, hp77⟩ := H.slP 2 rfl (idxO_some ex76).2
 obtain ⟨cs78, hcl78, H⟩ := H.slEl 2 rfl hp77 (idxO_some ex76).2
 obtain rfl := H.rcI 1 rfl
 replace H := H.dp 1 rfl
 clear hcl78
 refine sv F rfl (y_idxS F elem77 rfl rfl rfl hp77 ex76) fun a F => ?_
 refine bk [0,0] F H rfl ⟨rfl, plain3, trivial⟩ fun a F => ?_
 refine nb [0,0,0] F H rfl fun a F => ?_
 obtain ⟨x80, ex80, hm⟩ := ob hm
 have hc79 := H.slCap 1 rfl
 replace H := H.slSubN 2 rfl 1 rfl ex80
 refine sv F rfl (y_slH F elem32 rfl rfl rfl ex80 hc79) fun a F => ?_
 refine s_buildC wkP F rfl rfl rfl elem87 zero32 rfl rfl rfl rfl (by simp [Value.cells]) (by decide) H fun b81 w a H F => ?_
 replace H := H.blkOw1 (R := (rSl R_api_Pair)) (x := x80) (fun gg => ⟨_, _, rfl, (gg 1 _ rfl).choose_spec⟩)
 replace H := H.frz 0 rfl
 obtain ⟨x83, ex83, hm⟩ := ob hm
 refine s_app wkP F rfl rfl rfl rfl rfl rfl elem87 rfl ex83 H 4 0 rfl rfl fun p82 c82 w a H F => ?_
 refine bb [0] F H rfl fun a F => ?_
 replace H := H.nf 6 rfl
 refine nl (rl (bb [0,0] F H rfl fun a F => ?_))
 obtain ⟨x85, ex85, hm⟩ := ob hm
 have hc84 := H.slCap 3 rfl
 replace H := H.slSubN 2 rfl 3 rfl ex85
 refine sv F rfl (y_slL F elem32 rfl rfl rfl ex85 hc84) fun a F => ?_
 refine bb [0] F H rfl fun a F => ?_
 replace H := H.nf 7 rfl
 refine lz (bn (ct (rl (bb [0,0] F H rfl fun a F => ?_))))
 refine lz (ct ?_); cases hm
 exact ⟨_, rfl, ⟨(shp p73 c73 (x76 : Int).toNat 2), (c73 - (x76 : Int).toNat), p82, c82, F.sl rfl, (H.pm 7 [0,5,6] rfl:)⟩⟩
 refine ex (cx (cx ?_)); cases hm; refine ⟨_, rfl, ?_⟩; rintro rfl
 refine ch (ct ?_)
 exact ⟨p74, c74, F.sl rfl, (H.pm 3 [1] rfl:)⟩
 refine ct (sb [0,0] F H rfl fun a F => ?_)
 refine nl (wr ?_)
 replace H := H.frz 0 rfl
 cases hm
 refine x_ret1 F rfl rfl ?_
 exact ⟨_, rfl, p45, c45, rfl, H⟩
theorem elem91 : ElemT Tryz.prog 91 76 1 24 (.slice none 0 0) := ⟨Tryz.underlying91, by kernel_rfl, by kernel_rfl, by decide⟩
theorem w_m_tree_cut_api_Kid_ {x0_ : List T_api_Kid} {x1_ : List Int} {p1 : Option Addr} {c1 : Nat} {p2 : Option Addr} {c2 : Nat} {w0 w : World} {l : List HP}  {r : (List (List T_api_Kid))} (hm : m_tree_cut_api_Kid_ x0_ x1_ = some r) (H : St w0 w (HP.sl R_api_Kid p1 c1 x0_ :: HP.sl (rInt .i64) p2 c2 x1_ :: l)) :
  Calls Tryz.prog 39 [.slice p1 (x0_).length c1, .slice p2 (x1_).length c2].toArray w (fun e w' => ∃ v, e = .returned v ∧ ∃ (p3 : Option Addr) (c3 : Nat), v = .slice p3 (r).length c3 ∧ St w0 w' (HP.sl (rSl R_api_Kid) p3 c3 r :: l)) := by
 unfold m_tree_cut_api_Kid_ at hm
 refine x_enter Tryz.func39 rfl rfl rfl ?_
 intro a F
 refine sb [0] F H rfl fun a F => ?_
 refine nl (sq (sr (bk [0,0,0] F H rfl ⟨⟨_, Tryz.underlying77⟩, trivial⟩ fun a F => ?_)))
 refine nl (xm2 2 [] [] F H hm rfl rfl (fun r44 (p45 : Option Addr) (c45 : Nat) z => (4, .slice p45 (r44).length c45) :: z) (fun r44 p45 c45 z => HP.ow (rSl R_api_Kid) 76 p45 c45 r44 :: z) (fun r44 hm => ?_) (fun r44 a w hm p45 c45 F H => ?_))
 refine bl ?_
 replace H := H.owNil (rSl R_api_Kid) 76
 refine xl4 3 [7,8] [2] F H hm rfl rfl (fun (s72 : (List T_api_Kid) × (List (List T_api_Kid)) × Int) (p73 : Option Addr) (c73 : Nat) (p74 : Option Addr) (c74 : Nat) z => (0, .slice p73 (s72.1).length c73) :: (4, .slice p74 (s72.2.1).length c74) :: (9, .int .i64 (s72.2.2)) :: z) (fun s72 p73 c73 p74 c74 z => HP.sl R_api_Kid p73 c73 s72.1 :: HP.ow (rSl R_api_Kid) 76 p74 c74 s72.2.1 :: z) ⟨p1, c1, none,0, F.sl rfl, (H.pm 3 [1,0,2] rfl:)⟩ (fun s72 a w o p73 c73 p74 c74 F H hm => ?_)
 refine sb [0] F H rfl fun a F => ?_
 refine nl (sq (cPm F rfl hm (fun hg75 hm => ?_) (fun hg75 hm => ?_)))
 refine sk (ct (sq (bl (sr ?_))))
 obtain ⟨x76, ex76, hm⟩ := ob hm
 obtain ⟨b77, o77, hp77⟩ := H.slP 2 rfl (idxO_some ex76).2
 obtain ⟨cs78, hcl78, H⟩ := H.slEl 2 rfl hp77 (idxO_some ex76).2
 obtain rfl := H.rcI 1 rfl
 replace H := H.dp 1 rfl
 clear hcl78
 refine sv F rfl (y_idxS F elem77 rfl rfl rfl hp77 ex76) fun a F => ?_
 refine bk [0,0] F H rfl ⟨rfl, plain3, trivial⟩ fun a F => ?_
 refine nb [0,0,0] F H rfl fun a F => ?_
 obtain ⟨x80, ex80, hm⟩ := ob hm
 have hc79 := H.slCap 1 rfl
 replace H := H.slSubN 33 rfl 1 rfl ex80
 refine sv F rfl (y_slH F elem76 rfl rfl rfl ex80 hc79) fun a F => ?_
 refine s_buildC wkP F rfl rfl rfl elem91 zero76 rfl rfl rfl rfl (by simp [Value.cells]) (by decide) H fun b81 w a H F => ?_
 replace H := H.blkOw1 (R := (rSl R_api_Kid)) (x := x80) (fun gg => ⟨_, _, rfl, (gg 1 _ rfl).choose_spec⟩)
 replace H := H.frz 0 rfl
 obtain ⟨x83, ex83, hm⟩ := ob hm
 refine s_app wkP F rfl rfl rfl rfl rfl rfl elem91 rfl ex83 H 4 0 rfl rfl fun p82 c82 w a H F => ?_
 refine bb [0] F H rfl fun a F => ?_
 replace H := H.nf 6 rfl
 refine nl (rl (bb [0,0] F H rfl fun a F => ?_))
 obtain ⟨x85, ex85, hm⟩ := ob hm
 have hc84 := H.slCap 3 rfl
 replace H := H.slSubN 33 rfl 3 rfl ex85
 refine sv F rfl (y_slL F elem76 rfl rfl rfl ex85 hc84) fun a F => ?_
 refine bb [0] F H rfl fun a F => ?_
 replace H := H.nf 7 rfl
 refine lz (bn (ct (rl (bb [0,0] F H rfl fun a F => ?_))))
 refine lz (ct ?_); cases hm
 exact ⟨_, rfl, ⟨(shp p73 c73 (x76 : Int).toNat 33), (c73 - (x76 : Int).toNat), p82, c82, F.sl rfl, (H.pm 7 [0,5,6] rfl:)⟩⟩
 refine ex (cx (cx ?_)); cases hm; refine ⟨_, rfl, ?_⟩; rintro rfl
 refine ch (ct ?_)
 exact ⟨p74, c74, F.sl rfl, (H.pm 3 [1] rfl:)⟩
 refine ct (sb [0,0] F H rfl fun a F => ?_)
 refine nl (wr ?_)
 replace H := H.frz 0 rfl
 cases hm
 refine x_ret1 F rfl rfl ?_
 exact ⟨_, rfl, p45, c45, rfl, H⟩
theorem ent56 : En Tryz.prog 56 := enters Tryz.func56 (by kernel_rfl) rfl
theorem w_trPut {bag : (List UInt8) → Option (List UInt8)} {n : T_api_Node} {first : List UInt8} {m1 : Nat} {cs2 : List Value} {p3 : Option Addr} {c3 : Nat} {w0 w : World} {l : List HP}  {r : T_api_Kid × Int × ((List UInt8) → Option (List UInt8))} (hm : trPut bag n first = some r) (H : St w0 w (HP.row 1 (0) (icells .u32 shaStart) :: HP.row 2 (0) (icells .u32 shaRounds) :: HP.mm (some m1) hv false (rSlN w0.heap.size rByte) (fun l => l.length = 32) bag :: HP.rc R_api_Node cs2 n :: HP.sl rByte p3 c3 first :: l)) :
  Calls Tryz.prog 38 [.map (some m1), .agg cs2.toArray, .slice p3 (first).length c3].toArray w (fun e w' => ∃ v, e = .returned v ∧ ∃ (cs4 : List Value), v = .tuple [.agg cs4.toArray, .int .i64 (r.2.1)].toArray ∧ St w0 w' (HP.rc R_api_Kid cs4 r.1 :: HP.mm (some m1) hv false (rSlN w0.heap.size rByte) (fun l => l.length = 32) r.2.2 :: l)) := by
 unfold trPut at hm
 refine x_enter Tryz.func38 rfl rfl rfl ?_
 intro a F
 refine sr (s_boxA wkP F rfl rfl rfl rfl rfl H fun b5 w a H F => ?_)
 replace H := H.owNil rByte 5
 refine s_allocA wkP F rfl rfl rfl agz80 rfl H fun b6 w a H F => ?_
 refine bb [0] F H rfl fun a F => ?_
 replace H := H.nf 8 rfl
 refine nl (sr (bk [2999] F H rfl ⟨rfl, (aggn agg84 (H.rcLen 6 rfl)), trivial⟩ fun a F => ?_))
 obtain ⟨x7, ex7, hm⟩ := ob hm
 refine sd F rfl ent55 (w_ndWrite ex7 (H.pm 8 [6,0,1,2,3,4,5,6,7] rfl:):) ?_; rintro _ w a ⟨p8, c8, rfl, H⟩ F
 refine bb (List.replicate 5 0) F H rfl fun a F => ?_
 replace H := H.nf 9 rfl
 refine nl (sq (sb [0,0] F H rfl fun a F => ?_))
 refine nl (cNm F rfl hm (fun hg9 hm => ?_) (fun hg9 hm => ?_))
 refine sr ?_
 replace H := H.owNil rByte 5
 refine sv F rfl (y_build F rfl rfl (cs := [Value.slice none (([] : List UInt8)).length 0] ++ (bcells (List.replicate 32 0))) (by kernel_rfl)) fun a F => ?_
 refine bb [0] F H rfl fun a F => ?_
 refine s_storeA wkP F rfl rfl agg80 rfl rfl rfl H 2 rfl (by simp only [List.length_append, List.length_cons, List.length_nil, icells_length, bcells_length, (List.length_replicate (n := 32))]) (by simp only [List.length_append, List.length_cons, List.length_nil, icells_length, bcells_length, (List.length_replicate (n := 32))]) (by intro v hv; simp only [List.mem_append, List.mem_cons, List.not_mem_nil, or_false] at hv; first | (rcases hv with h | h <;> first | (subst h; rfl) | exact bcells_flat _ _ h | exact icells_flat _ _ _ h | (rcases h with h | h <;> first | (subst h; rfl) | exact bcells_flat _ _ h | exact icells_flat _ _ _ h | (rcases h with h | h <;> first | (subst h; rfl) | exact bcells_flat _ _ h | (rcases h with h | h <;> first | (subst h; rfl) | (rcases h with h | h <;> (subst h; rfl)))))) | (subst hv; rfl)) fun w H => ?_
 refine bb [0] F H rfl fun a F => ?_
 replace H := H.nf 10 rfl
 refine nl (wr (tr ?_))
 replace H := H.frzNB 0 rfl
 replace H := H.nslSl 0 rfl
 replace H := H.mkRc (R := R_api_Kid) (cs := [Value.slice none (([] : List UInt8)).length 0] ++ (bcells (List.replicate 32 0))) (x := (([] : List UInt8), (List.replicate 32 0))) (fun gg => ⟨_, _, rfl, ⟨_, _, rfl, (gg 0 _ rfl).choose_spec⟩, ⟨rfl, (List.length_replicate (n := 32))⟩⟩)
 cases hm
 refine x_resC2 F rfl (⟨_, rfl, agg80.run_load (H.blk 4 rfl).row (by simp only [List.length_append, List.length_cons, List.length_nil, icells_length, bcells_length, (List.length_replicate (n := 32))])⟩) rfl ?_
 exact ⟨_, rfl, [Value.slice none (([] : List UInt8)).length 0] ++ (bcells (List.replicate 32 0)), rfl, (H.pm 12 [0,9] rfl:)⟩
 refine sk (ct (sb [0] F H rfl fun a F => ?_))
 replace H := H.frzNB 0 rfl
 replace H := H.nslSl 0 rfl
 obtain ⟨x10, ex10, hm⟩ := ob hm
 refine sd F rfl ent56 (w_shaSum ex10 (H.pm 10 [5,6,0,0,1,2,3,4,5,6,7,8,9] rfl:):) ?_; rintro _ w a ⟨rfl, hl11, H⟩ F
 refine s_allocA wkP F rfl rfl rfl agz25 rfl H fun b12 w a H F => ?_
 refine s_storeA wkP F rfl rfl agg25 rfl rfl rfl H 0 rfl ((bcells_length _).trans hl11) ((bcells_length _).trans (List.length_replicate (n := 32))) (bcells_flat _) fun w H => ?_
 replace H := H.nf 11 rfl
 refine nl (sr (bk [0,999,0] F H rfl ⟨rfl, (aggn agg25 ((bcells_length _).trans hl11)), trivial⟩ fun a F => ?_))
 refine s_mmSet wkP F rfl rfl Tryz.underlying23 (keyH key25) rfl H 8 rfl rfl (k := x10) rfl (cs := [.slice p8 (x7.1).length c8]) rfl hl11 (v := x7.1) (fun gg => ⟨_, _, rfl, (gg 2 _ rfl).choose_spec⟩) fun w H => ?_
 replace H := H.nf 11 rfl
 refine nl (sr (bk [0,999] F H rfl ⟨rfl, (aggn agg25 ((bcells_length _).trans hl11)), trivial⟩ fun a F => ?_))
 refine sv F rfl (y_build F rfl rfl (cs := [Value.slice p3 (first).length c3] ++ (bcells x10)) (build_80_0_1 p3 first c3 x10 hl11)) fun a F => ?_
 refine s_storeA wkP F rfl rfl agg80 rfl rfl rfl H 3 rfl (by simp only [List.length_append, List.length_cons, List.length_nil, icells_length, bcells_length, hl11]) (by simp only [List.length_append, List.length_cons, List.length_nil, icells_length, bcells_length, (List.length_replicate (n := 32))]) (by intro v hv; simp only [List.mem_append, List.mem_cons, List.not_mem_nil, or_false] at hv; first | (rcases hv with h | h <;> first | (subst h; rfl) | exact bcells_flat _ _ h | exact icells_flat _ _ _ h | (rcases h with h | h <;> first | (subst h; rfl) | exact bcells_flat _ _ h | exact icells_flat _ _ _ h | (rcases h with h | h <;> first | (subst h; rfl) | exact bcells_flat _ _ h | (rcases h with h | h <;> first | (subst h; rfl) | (rcases h with h | h <;> (subst h; rfl)))))) | (subst hv; rfl)) fun w H => ?_
 refine bb [0] F H rfl fun a F => ?_
 replace H := H.nf 11 rfl
 refine nl (wr ?_)
 replace H := H.mkRc (R := R_api_Kid) (cs := [Value.slice p3 (first).length c3] ++ (bcells x10)) (x := (first, x10)) (fun gg => ⟨_, _, rfl, ⟨_, _, rfl, (gg 10 _ rfl).choose_spec⟩, ⟨rfl, hl11⟩⟩)
 cases hm
 refine x_resC2 F rfl (⟨_, rfl, agg80.run_load (H.blk 4 rfl).row (by simp only [List.length_append, List.length_cons, List.length_nil, icells_length, bcells_length, hl11])⟩) rfl ?_
 exact ⟨_, rfl, [Value.slice p3 (first).length c3] ++ (bcells x10), rfl, (H.pm 12 [0,9] rfl:)⟩
theorem ent35 : En Tryz.prog 35 := enters Tryz.func35 (by kernel_rfl) rfl
theorem ent37 : En Tryz.prog 37 := enters Tryz.func37 (by kernel_rfl) rfl
theorem ent36 : En Tryz.prog 36 := enters Tryz.func36 (by kernel_rfl) rfl
theorem ent38 : En Tryz.prog 38 := enters Tryz.func38 (by kernel_rfl) rfl
theorem ent40 : En Tryz.prog 40 := enters Tryz.func40 (by kernel_rfl) rfl
theorem ent39 : En Tryz.prog 39 := enters Tryz.func39 (by kernel_rfl) rfl
theorem w_trBuild {pairs : List T_api_Pair} {p1 : Option Addr} {c1 : Nat} {w0 w : World} {l : List HP}  {r : (List UInt8) × ((List UInt8) → Option (List UInt8)) × Int} (hm : trBuild pairs = some r) (H : St w0 w (HP.row 1 (0) (icells .u32 shaStart) :: HP.row 2 (0) (icells .u32 shaRounds) :: HP.sl R_api_Pair p1 c1 pairs :: l)) :
  Calls Tryz.prog 19 [.slice p1 (pairs).length c1].toArray w (fun e w' => ∃ v, e = .returned v ∧ ∃ (q3 : Option Nat), v = .tuple [.agg (bcells r.1).toArray, .map q3, .int .i64 (r.2.2)].toArray ∧ ((r.1).length = 32) ∧ St w0 w' (HP.mm q3 hv false (rSlN w0.heap.size rByte) (fun l => l.length = 32) r.2.1 :: l)) := by
 unfold trBuild at hm
 refine x_enter Tryz.func19 rfl rfl rfl ?_
 intro a F
 refine sr (s_allocA wkP F rfl rfl rfl agz25 rfl H fun b4 w a H F => ?_)
 refine bb [0,0] F H rfl fun a F => ?_
 replace H := H.nf 4 rfl
 refine nl (sq (sb [0] F H rfl fun a F => ?_))
 obtain ⟨x5, ex5, hm⟩ := ob hm
 refine sd F rfl ent35 (w_m_tree_rises ex5 (H.pm 4 [3,0,1,2,3] rfl:):) ?_; rintro _ w a ⟨rfl, H⟩ F
 refine bb [0] F H rfl fun a F => ?_
 replace H := H.nf 4 rfl
 refine nl (cB F rfl (fun hg6 => ?_) (fun hg6 => ?_))
 replace hm := ifT hg6 hm
 refine sr (sv F rfl (y_build F rfl rfl (cs := bcells ((List.replicate 32 0) : List UInt8)) (by kernel_rfl)) fun a F => ?_)
 refine s_storeA wkP F rfl rfl agg25 rfl rfl rfl H 0 rfl ((bcells_length _).trans rfl) ((bcells_length _).trans (List.length_replicate (n := 32))) (bcells_flat _) fun w H => ?_
 refine bb [0,0] F H rfl fun a F => ?_
 replace H := H.nf 4 rfl
 refine nl (wr (tr ?_))
 replace H := H.mmNil hv false (rSlN w0.heap.size rByte) (fun l => l.length = 32)
 cases hm
 refine x_resC3 F rfl (⟨_, rfl, agg25.run_load (H.blk 1 rfl).row ((bcells_length _).trans rfl)⟩) rfl rfl ?_
 exact ⟨_, rfl, none, rfl, rfl, (H.pm 5 [0] rfl:)⟩
 replace hm := ifF (nT hg6) hm
 refine sk (ct (sr (s_mmNew hv false (rSlN w0.heap.size rByte) (fun l => l.length = 32) wkP F rfl rfl rfl rfl H fun m7 w a H F => ?_)))
 refine bb [0,0] F H rfl fun a F => ?_
 replace H := H.nf 5 rfl
 refine nl (sq (sb [0,0] F H rfl fun a F => ?_))
 obtain ⟨x8, ex8, hm⟩ := ob hm
 refine sd F rfl ent37 (w_m_shape_Leaves ex8 (H.pm 5 [4,0,1,2,3,4] rfl:):) ?_; rintro _ w a ⟨p9, c9, rfl, H⟩ F
 obtain ⟨x10, ex10, hm⟩ := ob hm
 refine sd F rfl ent36 (w_m_tree_cut_api_Pair_ ex10 (H.pm 6 [5,0,0,1,2,3,4,5] rfl:):) ?_; rintro _ w a ⟨p11, c11, rfl, H⟩ F
 refine bk [0,0] F H rfl ⟨⟨_, Tryz.underlying87⟩, trivial⟩ fun a F => ?_
 replace H := H.nf 7 rfl
 refine nl (xr2 7 [2,5] [3,4,5] F H hm rfl rfl (fun r199 (p200 : Option Addr) (c200 : Nat) z => (6, .slice p200 (r199.2).length c200) :: z) (fun r199 p200 c200 z => HP.mm (some m7) hv false (rSlN w0.heap.size rByte) (fun l => l.length = 32) r199.1 :: HP.ow R_api_Kid 80 p200 c200 r199.2 :: z) (fun o199 hm hm199 => ?_) (fun r199 a w hm p200 c200 F H => ?_))
 refine bl ?_
 replace H := H.owNil R_api_Kid 80
 refine xl2 8 [2,5,29,30] [1,4,5,6] F H hm rfl rfl (fun (s325 : ((List UInt8) → Option (List UInt8)) × (List T_api_Kid) × Int) (p326 : Option Addr) (c326 : Nat) z => (6, .slice p326 (s325.2.1).length c326) :: (31, .int .i64 (s325.2.2)) :: z) (fun s325 p326 c326 z => HP.mm (some m7) hv false (rSlN w0.heap.size rByte) (fun l => l.length = 32) s325.1 :: HP.ow R_api_Kid 80 p326 c326 s325.2.1 :: z) ⟨none,0, F.sl rfl, (H.pm 8 [3,0,1,4,5,6] rfl:)⟩ (fun s325 a w o p326 c326 F H hm => ?_)
 refine sb [0] F H rfl fun a F => ?_
 refine nl (sq (cPm F rfl hm (fun hg327 hm => ?_) (fun hg327 hm => ?_)))
 refine sk (ct (sq (xr2 6 [2,5,29,30,31] [2,3,4,5] F H hm rfl rfl (fun r357 (p358 : Option Addr) (c358 : Nat) z => (6, .slice p358 (r357.2).length c358) :: z) (fun r357 p358 c358 z => HP.mm (some m7) hv false (rSlN w0.heap.size rByte) (fun l => l.length = 32) r357.1 :: HP.ow R_api_Kid 80 p358 c358 r357.2 :: z) (fun o357 hm hm357 => ?_) (fun r357 a w hm p358 c358 F H => ?_))))
 refine bl (sr ?_)
 obtain ⟨x359, ex359, hm⟩ := ob hm
 obtain ⟨b360, o360, hp360, cs361, H⟩ := H.slE 2 rfl ex359
 have G := F; obtain ⟨p362, c362, rfl, H⟩ := H.rcSl 1 rfl; have F := G; clear G
 replace H := H.dp 2 rfl
 refine sv F rfl (y_idxS F elem87 rfl rfl rfl hp360 ex359) fun a F => ?_
 refine bk [1000,0] F H rfl ⟨rfl, plain32, trivial⟩ fun a F => ?_
 refine nb [0] F H rfl fun a F => ?_
 refine nl (sq (sr (bk [0,0,0] F H rfl ⟨⟨_, Tryz.underlying32⟩, trivial⟩ fun a F => ?_)))
 refine nl (xm2 8 [2,5,6,8,29,30,31] [0,1,2,3,4,5,6,7] F H hm rfl rfl (fun r371 (p372 : Option Addr) (c372 : Nat) z => (9, .slice p372 (r371).length c372) :: z) (fun r371 p372 c372 z => HP.sl rByte p372 c372 r371 :: z) (fun r371 hm => ?_) (fun r371 a w hm p372 c372 F H => ?_))
 refine cPm F rfl hm (fun hg373 hm => ?_) (fun hg373 hm => ?_)
 refine rl (bb [0] F H rfl fun a F => ?_)
 obtain ⟨x374, ex374, hm⟩ := ob hm
 obtain ⟨b375, o375, hp375, cs376, H⟩ := H.slE 0 rfl ex374
 refine sv F rfl (y_idxS F elem32 rfl rfl rfl hp375 ex374) fun a F => ?_
 refine bk [0] F H rfl ⟨fld48_0, trivial⟩ fun a F => ?_
 have G := F; replace H := rc_api_Pair (H.pk 1 rfl); obtain ⟨p377, c378, p379, c380, rfl, J⟩ := H; have H := J; have F := G; clear G J
 refine bk [2000,0] F H rfl ⟨rfl, plain26, trivial⟩ fun a F => ?_
 refine lz ?_
 cases hm
 refine ct ?_
 exact ⟨p377, c378, F.sl rfl, (H.pm 11 [0,3,4,5,6,7,8,9,10] rfl:)⟩
 refine sk ?_
 cases hm
 refine ct ?_
 replace H := H.slNil rByte
 exact ⟨none, 0, F.sl rfl, H⟩
 refine ct (sb [0,0] F H rfl fun a F => ?_)
 replace H := H.owNil R_api_Kid 80
 refine sv F rfl (y_build F rfl rfl (cs := [.int .i64 (0), .slice p362 (x359).length c362, .slice none (([] : List T_api_Kid)).length 0]) (by kernel_rfl)) fun a F => ?_
 refine bb [0] F H rfl fun a F => ?_
 replace H := H.frz 0 rfl
 replace H := mk_api_Node H 0 2 rfl 0 rfl
 obtain ⟨x381, ex381, hm⟩ := ob hm
 refine sd F rfl ent38 (w_trPut ex381 (H.pm 11 [9,10,5,0,2,0,1,2,3,4,6,7,8,9,10] rfl:):) ?_; rintro _ w a ⟨cs382, rfl, H⟩ F
 refine bb [0,0,0] F H rfl fun a F => ?_
 replace H := H.owNil rByte 5
 refine s_allocA wkP F rfl rfl rfl agz80 rfl H fun b383 w a H F => ?_
 refine s_storeA wkP F rfl rfl agg80 rfl rfl rfl H 0 rfl (H.rcLen 2 rfl) (by simp only [List.length_append, List.length_cons, List.length_nil, icells_length, bcells_length, (List.length_replicate (n := 32))]) (H.rcFlat 2 rfl) fun w H => ?_
 refine bb [0] F H rfl fun a F => ?_
 replace H := H.nf 14 rfl
 refine nl (sq (sb [0,0] F H rfl fun a F => ?_))
 refine nl (cNm F rfl hm (fun hg384 hm => ?_) (fun hg384 hm => ?_))
 refine sr (sv F rfl (y_build F rfl rfl (cs := bcells ((List.replicate 32 0) : List UInt8)) (by kernel_rfl)) fun a F => ?_)
 refine bb [0] F H rfl fun a F => ?_
 refine s_storeA wkP F rfl rfl agg25 rfl rfl rfl H 11 rfl ((bcells_length _).trans rfl) ((bcells_length _).trans (List.length_replicate (n := 32))) (bcells_flat _) fun w H => ?_
 refine bb [0,0] F H rfl fun a F => ?_
 replace H := H.nf 14 rfl
 refine nl (wr (tr (br (tr ?_))))
 cases hm
 replace hm := elimR hm357
 refine tr (tr ?_); cases hm; refine ⟨_, rfl, ?_⟩; rintro rfl
 refine br (tr ?_)
 replace hm := elimR hm199
 refine tr ?_
 replace H := H.mmNil hv false (rSlN w0.heap.size rByte) (fun l => l.length = 32)
 cases hm
 refine x_resC3 F rfl (⟨_, rfl, agg25.run_load (H.blk 12 rfl).row ((bcells_length _).trans rfl)⟩) rfl rfl ?_
 exact ⟨_, rfl, none, rfl, rfl, (H.pm 15 [0] rfl:)⟩
 refine sk (ct (rl (bk [0,999] F H rfl ⟨rfl, (aggn agg80 (H.rcLen 2 rfl)), trivial⟩ fun a F => ?_)))
 refine s_build1 wkP F rfl rfl rfl agg80 elem76 rfl rfl (H.rcLen 2 rfl) (by decide) H fun b385 w a H F => ?_
 replace H := H.blkOw1 (R := R_api_Kid) (x := x381.1) (fun gg => (gg 3 _ rfl).choose_spec)
 replace H := H.frz 0 rfl
 obtain ⟨x387, ex387, hm⟩ := ob hm
 refine s_app wkP F rfl rfl rfl rfl rfl rfl elem76 rfl ex387 H 10 0 rfl rfl fun p386 c386 w a H F => ?_
 refine bb [0] F H rfl fun a F => ?_
 replace H := H.nf 15 rfl
 refine lz (bn ?_)
 cases hm
 refine ct ?_
 exact ⟨_, rfl, p386, c386, F.sl rfl, (H.pm 15 [4,10,11,12,13,14] rfl:)⟩
 refine ct (rl (bb [0,0] F H rfl fun a F => ?_))
 refine lz (ct ?_); cases hm
 exact ⟨_, rfl, ⟨p358, c358, F.sl rfl, H⟩⟩
 refine ex (cx (cx ?_)); cases hm; refine ⟨_, rfl, ?_⟩; rintro rfl
 refine ch (ct ?_)
 exact ⟨_, rfl, p326, c326, F.sl rfl, (H.pm 6 [0,1,3,4,5] rfl:)⟩
 refine ct (sq (sb [0] F H rfl fun a F => ?_))
 refine nl (xr2 5 [2,5] [2,3,4] F H hm rfl rfl (fun r992 (p993 : Option Addr) (c993 : Nat) z => (6, .slice p993 (r992.2).length c993) :: z) (fun r992 p993 c993 z => HP.mm (some m7) hv false (rSlN w0.heap.size rByte) (fun l => l.length = 32) r992.1 :: HP.ow R_api_Kid 80 p993 c993 r992.2 :: z) (fun o992 hm hm992 => ?_) (fun r992 a w hm p993 c993 F H => ?_))
 refine bl ?_
 refine xl2 5 [2,5] [2,3,4] F H hm rfl rfl (fun (s1396 : ((List UInt8) → Option (List UInt8)) × (List T_api_Kid) × Int) (p1397 : Option Addr) (c1397 : Nat) z => (6, .slice p1397 (s1396.2.1).length c1397) :: (12, .int .i64 (s1396.2.2)) :: z) (fun s1396 p1397 c1397 z => HP.mm (some m7) hv false (rSlN w0.heap.size rByte) (fun l => l.length = 32) s1396.1 :: HP.ow R_api_Kid 80 p1397 c1397 s1396.2.1 :: z) ⟨p200, c200, F.sl rfl, H⟩ (fun s1396 a w o p1397 c1397 F H hm => ?_)
 refine sq (sr (bk [0,0,0] F H rfl ⟨⟨_, Tryz.underlying76⟩, trivial⟩ fun a F => ?_))
 refine nl (cPm F rfl hm (fun hg1398 hm => ?_) (fun hg1398 hm => ?_))
 refine sk (ct (sq (bl (sq (sb [0,0] F H rfl fun a F => ?_)))))
 refine nl (cPm F rfl hm (fun hg1399 hm => ?_) (fun hg1399 hm => ?_))
 refine sr (sv F rfl (y_build F rfl rfl (cs := bcells ((List.replicate 32 0) : List UInt8)) (by kernel_rfl)) fun a F => ?_)
 refine s_storeA wkP F rfl rfl agg25 rfl rfl rfl H 2 rfl ((bcells_length _).trans rfl) ((bcells_length _).trans (List.length_replicate (n := 32))) (bcells_flat _) fun w H => ?_
 refine bb [0,0] F H rfl fun a F => ?_
 replace H := H.nf 5 rfl
 refine nl (wr (tr (br (tr (tr ?_))))); cases hm; refine ⟨_, rfl, ?_⟩; rintro rfl
 refine br (tr ?_)
 replace hm := elimR hm992
 refine tr ?_
 replace H := H.mmNil hv false (rSlN w0.heap.size rByte) (fun l => l.length = 32)
 cases hm
 refine x_resC3 F rfl (⟨_, rfl, agg25.run_load (H.blk 3 rfl).row ((bcells_length _).trans rfl)⟩) rfl rfl ?_
 exact ⟨_, rfl, none, rfl, rfl, (H.pm 6 [0] rfl:)⟩
 refine sk (ct (sb [0] F H rfl fun a F => ?_))
 refine nl (sq (sr (bk [0,0,0] F H rfl ⟨⟨_, Tryz.underlying76⟩, trivial⟩ fun a F => ?_)))
 refine nl (xm2 5 [2,5,6,12] [0,1,2,3,4] F H hm rfl rfl (fun r1437 (p1438 : Option Addr) (c1438 : Nat) z => (13, .slice p1438 (r1437).length c1438) :: z) (fun r1437 p1438 c1438 z => HP.ow (rSl rByte) 26 p1438 c1438 r1437 :: z) (fun r1437 hm => ?_) (fun r1437 a w hm p1438 c1438 F H => ?_))
 refine bl ?_
 replace H := H.owNil (rSl rByte) 26
 refine xl2 6 [2,5,6,12,67,68] [1,2,3,4,5] F H hm rfl rfl (fun (s1463 : (List (List UInt8)) × Int) (p1464 : Option Addr) (c1464 : Nat) z => (13, .slice p1464 (s1463.1).length c1464) :: (69, .int .i64 (s1463.2)) :: z) (fun s1463 p1464 c1464 z => HP.ow (rSl rByte) 26 p1464 c1464 s1463.1 :: z) ⟨none, 0, F.sl rfl, H⟩ (fun s1463 a w o p1464 c1464 F H hm => ?_)
 refine sb [0] F H rfl fun a F => ?_
 refine nl (sq (cPm F rfl hm (fun hg1465 hm => ?_) (fun hg1465 hm => ?_)))
 refine sk (ct (sq (bl (sr ?_))))
 obtain ⟨x1466, ex1466, hm⟩ := ob hm
 obtain ⟨b1467, hp1467⟩ := H.owP 2 rfl (idxO_some ex1466).2
 obtain ⟨css1468, H⟩ := H.oxOpen 2 rfl
 obtain ⟨cs1468, hcs1468, hcl1468, H⟩ := H.oxEl 2 rfl (idxO_some ex1466).2
 refine sv F rfl (y_idxS F elem76 rfl rfl rfl hp1467 ex1466) fun a F => ?_
 refine sv F rfl (y_loadA F agg80 rfl rfl (H.oxRow 3 rfl hp1467 hcs1468 hcl1468) (H.rcLen 0 rfl)) fun a F => ?_
 replace H := H.owNil rByte 5
 refine s_allocA wkP F rfl rfl rfl agz80 rfl H fun b1469 w a H F => ?_
 refine s_storeA wkP F rfl rfl agg80 rfl rfl rfl H 0 rfl (H.rcLen 2 rfl) (by simp only [List.length_append, List.length_cons, List.length_nil, icells_length, bcells_length, (List.length_replicate (n := 32))]) (H.rcFlat 2 rfl) fun w H => ?_
 replace H := H.nf 9 rfl
 refine nl ?_
 replace H := H.oxShut 5 rfl
 refine rl (bk [0,0] F H rfl ⟨fld80_0, trivial⟩ fun a F => ?_)
 have G := F; replace H := rc_api_Kid (H.pk 2 rfl); obtain ⟨p1470, c1471, hl1472, rfl, J⟩ := H; have H := J; have F := G; clear G J
 refine bk [1000] F H rfl ⟨rfl, plain26, trivial⟩ fun a F => ?_
 refine s_buildC wkP F rfl rfl rfl elem49 zero26 rfl rfl rfl rfl (by simp [Value.cells]) (by decide) H fun b1473 w a H F => ?_
 replace H := H.blkOw1 (R := (rSl rByte)) (x := x1466.1) (fun gg => ⟨_, _, rfl, (gg 1 _ rfl).choose_spec⟩)
 replace H := H.frz 0 rfl
 obtain ⟨x1475, ex1475, hm⟩ := ob hm
 refine s_app wkP F rfl rfl rfl rfl rfl rfl elem49 rfl ex1475 H 4 0 rfl rfl fun p1474 c1474 w a H F => ?_
 refine bb [0] F H rfl fun a F => ?_
 replace H := H.nf 10 rfl
 refine lz (bn (ct (rl (bb [0,0] F H rfl fun a F => ?_))))
 refine lz (ct ?_); cases hm
 exact ⟨_, rfl, ⟨p1474, c1474, F.sl rfl, (H.pm 10 [4,5,6,7,8,9] rfl:)⟩⟩
 refine ex (cx (cx ?_)); cases hm; refine ⟨_, rfl, ?_⟩; rintro rfl
 refine ch (ct ?_)
 exact ⟨p1464, c1464, F.sl rfl, H⟩
 refine ct (sb [0] F H rfl fun a F => ?_)
 refine nl (sq (sb [0,0,0] F H rfl fun a F => ?_))
 replace H := H.frz 0 rfl
 obtain ⟨x1476, ex1476, hm⟩ := ob hm
 refine sd F rfl ent40 (w_m_shape_Inner ex1476 (H.pm 6 [0,0,1,2,3,4,5] rfl:):) ?_; rintro _ w a ⟨p1477, c1477, rfl, H⟩ F
 replace H := H.frz 3 rfl
 obtain ⟨x1478, ex1478, hm⟩ := ob hm
 refine sd F rfl ent39 (w_m_tree_cut_api_Kid_ ex1478 (H.pm 7 [0,1,0,1,2,3,4,5,6] rfl:):) ?_; rintro _ w a ⟨p1479, c1479, rfl, H⟩ F
 refine bk [0,0] F H rfl ⟨⟨_, Tryz.underlying91⟩, trivial⟩ fun a F => ?_
 replace H := H.nf 8 rfl
 refine nl (xr2 8 [2,5,12] [5,6,7] F H hm rfl rfl (fun r1538 (p1539 : Option Addr) (c1539 : Nat) z => (16, .slice p1539 (r1538.2).length c1539) :: z) (fun r1538 p1539 c1539 z => HP.mm (some m7) hv false (rSlN w0.heap.size rByte) (fun l => l.length = 32) r1538.1 :: HP.ow R_api_Kid 80 p1539 c1539 r1538.2 :: z) (fun o1538 hm hm1538 => ?_) (fun r1538 a w hm p1539 c1539 F H => ?_))
 refine bl ?_
 replace H := H.owNil R_api_Kid 80
 refine xl2 9 [2,5,12,83,84] [1,6,7,8] F H hm rfl rfl (fun (s1578 : ((List UInt8) → Option (List UInt8)) × (List T_api_Kid) × Int) (p1579 : Option Addr) (c1579 : Nat) z => (16, .slice p1579 (s1578.2.1).length c1579) :: (85, .int .i64 (s1578.2.2)) :: z) (fun s1578 p1579 c1579 z => HP.mm (some m7) hv false (rSlN w0.heap.size rByte) (fun l => l.length = 32) s1578.1 :: HP.ow R_api_Kid 80 p1579 c1579 s1578.2.1 :: z) ⟨none,0, F.sl rfl, (H.pm 9 [5,0,1,6,7,8] rfl:)⟩ (fun s1578 a w o p1579 c1579 F H hm => ?_)
 refine sb [0] F H rfl fun a F => ?_
 refine nl (sq (cPm F rfl hm (fun hg1580 hm => ?_) (fun hg1580 hm => ?_)))
 refine sk (ct (sq (bl (sr ?_))))
 obtain ⟨x1581, ex1581, hm⟩ := ob hm
 obtain ⟨b1582, o1582, hp1582, cs1583, H⟩ := H.slE 2 rfl ex1581
 have G := F; obtain ⟨p1584, c1584, rfl, H⟩ := H.rcSl 1 rfl; have F := G; clear G
 replace H := H.dp 2 rfl
 refine sv F rfl (y_idxS F elem91 rfl rfl rfl hp1582 ex1581) fun a F => ?_
 refine bk [1000,0] F H rfl ⟨rfl, plain76, trivial⟩ fun a F => ?_
 refine nb [0,0,0] F H rfl fun a F => ?_
 replace H := H.owNil R_api_Pair 48
 refine sv F rfl (y_build F rfl rfl (cs := [.int .i64 (s1396.2.2), .slice none (([] : List T_api_Pair)).length 0, .slice p1584 (x1581).length c1584]) (by kernel_rfl)) fun a F => ?_
 refine bb [0] F H rfl fun a F => ?_
 obtain ⟨x1585, ex1585, hm⟩ := ob hm
 obtain ⟨b1586, o1586, hp1586, cs1587, H⟩ := H.slE 1 rfl ex1585
 refine sv F rfl (y_idxS F elem76 rfl rfl rfl hp1586 ex1585) fun a F => ?_
 refine bk [0] F H rfl ⟨fld80_0, trivial⟩ fun a F => ?_
 have G := F; replace H := rc_api_Kid (H.pk 1 rfl); obtain ⟨p1588, c1589, hl1590, rfl, J⟩ := H; have H := J; have F := G; clear G J
 refine bk [1000] F H rfl ⟨rfl, plain26, trivial⟩ fun a F => ?_
 replace H := H.frz 2 rfl
 replace H := mk_api_Node H s1396.2.2 0 rfl 3 rfl
 obtain ⟨x1591, ex1591, hm⟩ := ob hm
 refine sd F rfl ent38 (w_trPut ex1591 (H.pm 12 [10,11,6,0,2,0,1,2,3,4,5,7,8,9,10,11] rfl:):) ?_; rintro _ w a ⟨cs1592, rfl, H⟩ F
 refine bb [0,0,0] F H rfl fun a F => ?_
 replace H := H.owNil rByte 5
 refine s_allocA wkP F rfl rfl rfl agz80 rfl H fun b1593 w a H F => ?_
 refine s_storeA wkP F rfl rfl agg80 rfl rfl rfl H 0 rfl (H.rcLen 2 rfl) (by simp only [List.length_append, List.length_cons, List.length_nil, icells_length, bcells_length, (List.length_replicate (n := 32))]) (H.rcFlat 2 rfl) fun w H => ?_
 refine bb [0] F H rfl fun a F => ?_
 replace H := H.nf 15 rfl
 refine nl (sq (sb [0,0] F H rfl fun a F => ?_))
 refine nl (cNm F rfl hm (fun hg1594 hm => ?_) (fun hg1594 hm => ?_))
 refine sr (sv F rfl (y_build F rfl rfl (cs := bcells ((List.replicate 32 0) : List UInt8)) (by kernel_rfl)) fun a F => ?_)
 refine bb [0] F H rfl fun a F => ?_
 refine s_storeA wkP F rfl rfl agg25 rfl rfl rfl H 12 rfl ((bcells_length _).trans rfl) ((bcells_length _).trans (List.length_replicate (n := 32))) (bcells_flat _) fun w H => ?_
 refine bb [0,0] F H rfl fun a F => ?_
 replace H := H.nf 15 rfl
 refine nl (wr (tr (br (tr (tr ?_))))); cases hm; refine ⟨_, rfl, ?_⟩; rintro rfl
 refine br (tr ?_)
 replace hm := elimR hm1538
 refine tr (br (tr (tr ?_))); cases hm; refine ⟨_, rfl, ?_⟩; rintro rfl
 refine br (tr ?_)
 replace hm := elimR hm992
 refine tr ?_
 replace H := H.mmNil hv false (rSlN w0.heap.size rByte) (fun l => l.length = 32)
 cases hm
 refine x_resC3 F rfl (⟨_, rfl, agg25.run_load (H.blk 13 rfl).row ((bcells_length _).trans rfl)⟩) rfl rfl ?_
 exact ⟨_, rfl, none, rfl, rfl, (H.pm 16 [0] rfl:)⟩
 refine sk (ct (rl (bk [0,999] F H rfl ⟨rfl, (aggn agg80 (H.rcLen 2 rfl)), trivial⟩ fun a F => ?_)))
 refine s_build1 wkP F rfl rfl rfl agg80 elem76 rfl rfl (H.rcLen 2 rfl) (by decide) H fun b1595 w a H F => ?_
 replace H := H.blkOw1 (R := R_api_Kid) (x := x1591.1) (fun gg => (gg 3 _ rfl).choose_spec)
 replace H := H.frz 0 rfl
 obtain ⟨x1597, ex1597, hm⟩ := ob hm
 refine s_app wkP F rfl rfl rfl rfl rfl rfl elem76 rfl ex1597 H 11 0 rfl rfl fun p1596 c1596 w a H F => ?_
 refine bb [0] F H rfl fun a F => ?_
 replace H := H.nf 16 rfl
 refine lz (bn (ct (rl (bb [0,0] F H rfl fun a F => ?_))))
 refine lz (ct ?_); cases hm
 exact ⟨_, rfl, ⟨p1596, c1596, F.sl rfl, (H.pm 16 [4,11,12,13,14,15] rfl:)⟩⟩
 refine ex (cx (cx ?_)); cases hm; refine ⟨_, rfl, ?_⟩; rintro rfl
 refine ch (ct ?_)
 exact ⟨_, rfl, p1579, c1579, F.sl rfl, (H.pm 6 [0,1,3,4,5] rfl:)⟩
 refine ct (rl (bb [0,0] F H rfl fun a F => ?_))
 refine lz (bn (ct (rl (bb [0,0,0] F H rfl fun a F => ?_))))
 refine lz (ct ?_); cases hm
 exact ⟨_, rfl, ⟨p1539, c1539, F.sl rfl, H⟩⟩
 refine ex (cx (cx ?_)); cases hm; refine ⟨_, rfl, ?_⟩; rintro rfl
 refine ch (ct ?_)
 exact ⟨_, rfl, p1397, c1397, F.sl rfl, H⟩
 refine ct (sb [0] F H rfl fun a F => ?_)
 obtain ⟨x1598, ex1598, hm⟩ := ob hm
 obtain ⟨b1599, hp1599⟩ := H.owP 1 rfl (idxO_some ex1598).2
 obtain ⟨css1600, H⟩ := H.oxOpen 1 rfl
 obtain ⟨cs1600, hcs1600, hcl1600, H⟩ := H.oxEl 1 rfl (idxO_some ex1598).2
 refine sv F rfl (y_idxS F elem76 rfl rfl rfl hp1599 ex1598) fun a F => ?_
 refine bk [1] F H rfl ⟨fld80_1, trivial⟩ fun a F => ?_
 have G := F; replace H := rc_api_Kid (H.pk 0 rfl); obtain ⟨p1601, c1602, hl1603, rfl, J⟩ := H; have H := J; have F := G; clear G J
 refine sv F rfl (y_loadA F agg25 rfl rfl (row_midE (A := [.slice p1601 (x1598.1).length c1602]) (X := bcells x1598.2) (H.oxRow 2 rfl hp1599 hcs1600 hcl1600) (by simp only [List.length_append, List.length_cons, List.length_nil, icells_length, bcells_length])) ((bcells_length _).trans hl1603)) fun a F => ?_
 refine bb [0] F H rfl fun a F => ?_
 refine s_storeA wkP F rfl rfl agg25 rfl rfl rfl H 3 rfl ((bcells_length _).trans hl1603) ((bcells_length _).trans (List.length_replicate (n := 32))) (bcells_flat _) fun w H => ?_
 refine bb [0,0] F H rfl fun a F => ?_
 replace H := H.nf 6 rfl
 refine nl ?_
 replace H := H.oxShut 2 rfl
 refine wr ?_
 cases hm
 refine x_resC3 F rfl (⟨_, rfl, agg25.run_load (H.blk 3 rfl).row ((bcells_length _).trans hl1603)⟩) rfl rfl ?_
 exact ⟨_, rfl, (some m7), rfl, hl1603, (H.pm 6 [1] rfl:)⟩
theorem fld102_1 : FieldT Tryz.prog 102 1 1 := by unfold FieldT; rw [Tryz.underlying102]; kernel_rfl
theorem w_trFollows {w_ : T_tree_walker_o} {list : List T_api_Pair} {root : Bool} {bo0 : Nat} {bo0_0 : Option Nat} {p1 : Option Addr} {c1 : Nat} {w0 w : World} {l : List HP}  {r : Bool} (hm : trFollows w_ list root = some r) (H : St w0 w (O_tree_walker w0.heap.size bo0 bo0_0 w_ :: HP.sl (rP2N w0.heap.size) p1 c1 list :: l)) :
  Calls Tryz.prog 58 [.pointer (some ⟨bo0, 0, none⟩), .slice p1 (list).length c1, .bool (root)].toArray w (fun e w' => ∃ v, e = .returned v ∧ v = .bool (r) ∧ St w0 w' (O_tree_walker w0.heap.size bo0 bo0_0 w_ :: l)) := by
 unfold trFollows at hm
 refine x_enter Tryz.func58 rfl rfl rfl ?_
 intro a F
 refine sb [0] F H rfl fun a F => ?_
 refine nl (sq (sr (bk [0,0,0] F H rfl ⟨⟨_, Tryz.underlying32⟩, trivial⟩ fun a F => ?_)))
 refine nl (cPm F rfl hm (fun hg2 hm => ?_) (fun hg2 hm => ?_))
 refine sb [0,0] F H rfl fun a F => ?_
 refine nl (wr (tr ?_))
 cases hm
 refine x_ret1 F rfl rfl ?_
 exact ⟨_, rfl, rfl, (H.pm 2 [0] rfl:)⟩
 refine sk (ct (sq ?_))
 obtain ⟨p3, c4, H⟩ := O_tree_walker_o (H.pk 0 rfl)
 by_cases hg5 : ((w_).length : Int) = 0
 replace hm := ifT hg5 hm
 refine qr H (by kernel_rfl) (by kernel_rfl) ?_
 refine qbk [0,0,1,1,0,0,0] F rfl ⟨fld102_1, rfl, plain32, ⟨_, Tryz.underlying32⟩, trivial⟩ fun a F => ?_
 replace F := F.bT 17 hg5 rfl
 refine qb (List.replicate 19 0) F rfl fun a F => ?_
 refine q_nil fun w H => ?_
 refine ct (wr ?_)
 replace H := O_tree_walker_s H
 cases hm
 refine x_ret1 F rfl rfl ?_
 exact ⟨_, rfl, rfl, (H.pm 2 [0] rfl:)⟩
 replace hm := ifF hg5 hm
 obtain ⟨x6, ex6, hm⟩ := ob hm
 obtain ⟨b7, hp7⟩ := H.owP 1 rfl (idxO_some ex6).2
 obtain ⟨css8, H⟩ := H.oxOpen 1 rfl
 obtain ⟨cs8, hcs8, hcl8, H⟩ := H.oxEl 1 rfl (idxO_some ex6).2
 obtain ⟨x9, ex9, hm⟩ := ob hm
 obtain ⟨b10, o10, hp10, cs11, H⟩ := H.slE 3 rfl ex9
 replace H := H.rcP2W 2 rfl
 replace H := H.rcP2W 2 rfl
 obtain ⟨x12, ex12, hm⟩ := ob hm
 refine qr H (by kernel_rfl) (by kernel_rfl) ?_
 refine qbk [0,0,1,5001,0,0,0] F rfl ⟨fld102_1, rfl, plain32, ⟨_, Tryz.underlying32⟩, trivial⟩ fun a F => ?_
 replace F := F.bF 17 hg5 rfl
 refine qbk [0,0,1,5001,0,0,1,5001,0,0] F rfl ⟨fld102_1, rfl, plain32, fld102_1, rfl, plain32, ⟨_, Tryz.underlying32⟩, trivial⟩ fun a F => ?_
 refine qg_on F rfl rfl rfl rfl ?_
 refine qv F rfl (fun u hu => y_idxS F elem32 rfl rfl rfl hp7 ex6) fun a F => ?_
 refine qg_on F rfl rfl rfl rfl ?_
 refine qv F rfl (fun u hu => y_loadA F agg48 rfl rfl (hu.oxRow 6 rfl hp7 hcs8 hcl8) (H.rcLen 4 rfl)) fun a F => ?_
 refine qb [0] F rfl fun a F => ?_
 refine qg_on F rfl rfl rfl rfl ?_
 refine qv F rfl (fun u hu => y_idxS F elem32 rfl rfl rfl hp10 ex9) fun a F => ?_
 refine qbk [2999] F rfl ⟨rfl, (aggn agg48 (H.rcLen 3 rfl)), trivial⟩ fun a F => ?_
 refine qg_on F rfl rfl rfl rfl ?_
 refine q_call F rfl rfl rfl (fun u hu => y_call F rfl rfl ent24) (fun u hu => (w_m_tree_compare ex12 (hu.pm 8 [1,0,0,1,2,3,4,5,6,7] rfl:)).mono fun e u2 he => by obtain ⟨v, rfl, rfl, H⟩ := he; exact ⟨rfl, H⟩) fun a F => ?_
 refine qb [0,0,0] F rfl fun a F => ?_
 refine q_nil fun w H => ?_
 replace H := H.oxShut 6 rfl
 refine ct (wr ?_)
 replace H := O_tree_walker_s (H.pm 8 [5,6,0,1,2,3,4,7] rfl:)
 cases hm
 refine x_ret1 F rfl rfl ?_
 exact ⟨_, rfl, rfl, (H.pm 7 [0] rfl:)⟩
theorem fld102_0 : FieldT Tryz.prog 102 0 0 := by unfold FieldT; rw [Tryz.underlying102]; kernel_rfl
theorem ent57 : En Tryz.prog 57 := enters Tryz.func57 (by kernel_rfl) rfl
theorem ent58 : En Tryz.prog 58 := enters Tryz.func58 (by kernel_rfl) rfl
theorem ent44 : En Tryz.prog 44 := enters Tryz.func44 (by kernel_rfl) rfl
theorem w_trWalkS {rec_ : (((List UInt8) → Option (List UInt8)) × (List T_api_Pair)) → (List UInt8) → Int → Option (Int × T_tree_walker_o)} (ih : ∀ {w_ : ((List UInt8) → Option (List UInt8)) × (List T_api_Pair)} {h : List UInt8} {level : Int} {bo0 : Nat} {bo0_0 : Option Nat} {w0 w : World} {l : List HP} (hl1 : (h).length = 32) {r : Int × T_tree_walker_o} (hm : rec_ w_ h level = some r) (H : St w0 w (HP.row 1 (0) (icells .u32 shaStart) :: HP.row 2 (0) (icells .u32 shaRounds) :: O_tree_walker w0.heap.size bo0 bo0_0 w_.2 :: HP.fm bo0_0 hv false (rSl rByte) (fun l => l.length = 32) w_.1 :: l)), Calls Tryz.prog 44 [.pointer (some ⟨bo0, 0, none⟩), .agg (bcells h).toArray, .int .i64 (level)].toArray w (fun e w' => ∃ v, e = .returned v ∧ v = .int .i64 (r.1) ∧ St w0 w' (O_tree_walker w0.heap.size bo0 bo0_0 r.2 :: l))) {w_ : ((List UInt8) → Option (List UInt8)) × (List T_api_Pair)} {h : List UInt8} {level : Int} {bo0 : Nat} {bo0_0 : Option Nat} {w0 w : World} {l : List HP} (hl1 : (h).length = 32) {r : Int × T_tree_walker_o} (hm : trWalkS rec_ w_ h level = some r) (H : St w0 w (HP.row 1 (0) (icells .u32 shaStart) :: HP.row 2 (0) (icells .u32 shaRounds) :: O_tree_walker w0.heap.size bo0 bo0_0 w_.2 :: HP.fm bo0_0 hv false (rSl rByte) (fun l => l.length = 32) w_.1 :: l)) :
  Calls Tryz.prog 44 [.pointer (some ⟨bo0, 0, none⟩), .agg (bcells h).toArray, .int .i64 (level)].toArray w (fun e w' => ∃ v, e = .returned v ∧ v = .int .i64 (r.1) ∧ St w0 w' (O_tree_walker w0.heap.size bo0 bo0_0 r.2 :: l)) := by
 unfold trWalkS at hm
 refine x_enter Tryz.func44 rfl rfl rfl ?_
 intro a F
 refine sr (s_boxA wkP F rfl rfl rfl rfl rfl H fun b2 w a H F => ?_)
 refine bb [0] F H rfl fun a F => ?_
 replace H := H.nf 5 rfl
 refine nl (sq ?_)
 obtain ⟨p3, c4, H⟩ := O_tree_walker_o (H.pk 3 rfl)
 obtain ⟨es5, H⟩ := H.fmOpen 5 rfl
 obtain ⟨cs5, hcs5, H⟩ := H.fmGet 0 rfl h (zc := [Value.slice none 0 0]) (z0 := []) (fun _ => rSl_nil _ _)
 have G := F; obtain ⟨p6, c6, rfl, H⟩ := H.rcSl 0 rfl; have F := G; clear G
 replace H := H.dp 1 rfl
 refine qr H (by kernel_rfl) (by kernel_rfl) ?_
 refine qbk [0,0,0,2000,4999] F rfl ⟨fld102_0, rfl, plain23, rfl, (aggn agg25 ((bcells_length _).trans hl1)), trivial⟩ fun a F => ?_
 refine qv F rfl (fun u hu => y_fmGet2 (agg := false) (zc := [Value.slice none 0 0]) F Tryz.underlying23 (keyH key25) (fun w => zero26.run w) rfl hu 1 rfl rfl (k := h) rfl hl1 hcs5) fun a F => ?_
 refine qb (List.replicate 5 0) F rfl fun a F => ?_
 refine q_nil fun w H => ?_
 refine ct (sq (sq ?_))
 by_cases hg7 : (!((w_.1 h).isSome)) = true
 replace hm := ifT hg7 hm
 refine qr H (by kernel_rfl) (by kernel_rfl) ?_
 refine qb [0,0,0] F rfl fun a F => ?_
 replace F := F.vT 25 hg7 rfl
 refine qb (List.replicate 5 0) F rfl fun a F => ?_
 refine q_nil fun w H => ?_
 refine ct (cT F rfl ?_)
 refine sb [0] F H rfl fun a F => ?_
 refine nl (wr (tr ?_))
 replace H := O_tree_walker_s (H.pm 8 [2,3,0,1,4,5,6,7] rfl:)
 cases hm
 refine x_ret1 F rfl rfl ?_
 exact ⟨_, rfl, rfl, (H.pm 7 [0] rfl:)⟩
 replace hm := ifF hg7 hm
 obtain ⟨x8, ex8, hm⟩ := ob hm
 have hl9 : (x8).length = 32 := by obtain ⟨_, _, _, _, _, hx, _⟩ := calls_ex (w_shaSum ex8 (H.pm 8 [5,6,0,0,1,2,3,4,5,6,7] rfl:)); exact hx
 refine qr H (by kernel_rfl) (by kernel_rfl) ?_
 refine qb [0,0,0] F rfl fun a F => ?_
 replace F := F.vF 25 hg7 rfl
 refine qb [0] F rfl fun a F => ?_
 refine qg_on F rfl rfl rfl rfl ?_
 refine q_call F rfl rfl rfl (fun u hu => y_call F rfl rfl ent56) (fun u hu => (w_shaSum ex8 (hu.pm 8 [5,6,0,0,1,2,3,4,5,6,7] rfl:)).mono fun e u2 he => by obtain ⟨v, rfl, rfl, _, H⟩ := he; exact ⟨rfl, H⟩) fun a F => ?_
 refine qbk [4999] F rfl ⟨rfl, (aggn agg25 ((bcells_length _).trans hl1)), trivial⟩ fun a F => ?_
 refine qg_on F rfl rfl rfl rfl ?_
 refine qv F rfl (fun u hu => y_neqA F key25 rfl rfl rfl hl9 hl1) fun a F => ?_
 refine qb [0] F rfl fun a F => ?_
 refine q_nil fun w H => ?_
 refine ct (cNm F rfl hm (fun hg10 hm => ?_) (fun hg10 hm => ?_))
 refine sb [0] F H rfl fun a F => ?_
 refine nl (wr (tr ?_))
 replace H := O_tree_walker_s (H.pm 8 [2,3,0,1,4,5,6,7] rfl:)
 cases hm
 refine x_ret1 F rfl rfl ?_
 exact ⟨_, rfl, rfl, (H.pm 7 [0] rfl:)⟩
 refine sk (ct (sb [0] F H rfl fun a F => ?_))
 obtain ⟨x11, ex11, hm⟩ := ob hm
 refine sd F rfl ent57 (w_ndRead ex11 (H.pm 8 [0,0,1,2,3,4,5,6,7] rfl:):) ?_; rintro _ w a ⟨p12, c12, p13, c13, rfl, H⟩ F
 refine bb [0,0,0] F H rfl fun a F => ?_
 replace H := H.owNil (rP2N w0.heap.size) 48
 replace H := H.owNil R_api_Kid 80
 refine s_allocA wkP F rfl rfl rfl agz84 rfl H fun b14 w a H F => ?_
 refine s_storeA wkP F rfl rfl agg84 rfl rfl rfl H 0 rfl rfl rfl (fl rfl) fun w H => ?_
 refine bb [0] F H rfl fun a F => ?_
 replace H := H.nf 13 rfl
 refine nl (sq (sq ?_))
 replace H := O_tree_walker_s (H.pm 13 [7,8,0,1,2,3,4,5,6,9,10,11,12] rfl:)
 refine xm2 12 [0,9] [0,2,3,5,8,9,10,11] F H hm rfl rfl (fun r22 (p23 : Option Addr) (c23 : Nat) z => (61, .bool (r22.2)) :: z) (fun r22 p23 c23 z => HP.blk b14 ([.int .i64 (x11.1.1), .slice p23 (r22.1).length c23, .slice p13 (x11.1.2.2).length c13]) 84 :: HP.sl (rP2N w0.heap.size) p23 c23 r22.1 :: z) (fun r22 hm => ?_) (fun r22 a w hm p23 c23 F H => ?_)
 refine rl (bb [0,0,0] F H rfl fun a F => ?_)
 rcases spN 38 F rfl hm with ⟨hg24, hm, F⟩ | ⟨hg24, hm, F⟩
 refine bb [0,0,0] F H rfl fun a F => ?_
 rcases spP 41 F rfl hm with ⟨hg25, hm, F⟩ | ⟨hg25, hm, F⟩
 refine bk [0,1000,0,0,0,0,0] F H rfl ⟨fld84_0, rfl, plain3, trivial⟩ fun a F => ?_
 rcases spN 48 F rfl hm with ⟨hg26, hm, F⟩ | ⟨hg26, hm, F⟩
 refine bk [0,1000,0,0] F H rfl ⟨fld84_0, rfl, plain3, trivial⟩ fun a F => ?_
 rcases spP 52 F rfl hm with ⟨hg27, hm, F⟩ | ⟨hg27, hm, F⟩
 refine bk [0,1,1001,0,0] F H rfl ⟨fld84_1, rfl, plain32, trivial⟩ fun a F => ?_
 refine g_onP F rfl rfl rfl rfl ?_
 replace H := H.nslSl 4 rfl
 obtain ⟨x28, ex28, hm⟩ := ob hm
 refine sd F rfl ent58 (w_trFollows ex28 (H.pm 13 [1,0,0,2,3,4,5,6,7,8,9,10,11,12] rfl:):) ?_; rintro _ w a ⟨rfl, H⟩ F
 refine bb [0,0,0] F H rfl fun a F => ?_
 replace H := H.nf 13 rfl
 refine lz ?_
 cases hm
 refine ct ?_
 exact ⟨p12, c12, F.sl rfl, (H.pm 13 [2,1,0,3,4,6,9,10,11,12] rfl:)⟩
 refine bb (List.replicate 9 0) F H rfl fun a F => ?_
 refine lz ?_
 cases hm
 refine ct ?_
 replace H := H.nslSl 4 rfl
 exact ⟨p12, c12, F.sl rfl, (H.pm 13 [2,0,1,3,4,6,9,10,11,12] rfl:)⟩
 refine bb (List.replicate 13 0) F H rfl fun a F => ?_
 refine lz ?_
 cases hm
 refine ct ?_
 replace H := H.nslSl 4 rfl
 exact ⟨p12, c12, F.sl rfl, (H.pm 13 [2,0,1,3,4,6,9,10,11,12] rfl:)⟩
 refine bk [0,0,0,0,0,0,0,0,1000,0,0] F H rfl ⟨fld84_0, rfl, plain3, trivial⟩ fun a F => ?_
 rcases spP 52 F rfl hm with ⟨hg29, hm, F⟩ | ⟨hg29, hm, F⟩
 refine bk [0,1,1001,0,0] F H rfl ⟨fld84_1, rfl, plain32, trivial⟩ fun a F => ?_
 refine g_onP F rfl rfl rfl rfl ?_
 replace H := H.nslSl 4 rfl
 obtain ⟨x30, ex30, hm⟩ := ob hm
 refine sd F rfl ent58 (w_trFollows ex30 (H.pm 13 [1,0,0,2,3,4,5,6,7,8,9,10,11,12] rfl:):) ?_; rintro _ w a ⟨rfl, H⟩ F
 refine bb [0,0,0] F H rfl fun a F => ?_
 replace H := H.nf 13 rfl
 refine lz ?_
 cases hm
 refine ct ?_
 exact ⟨p12, c12, F.sl rfl, (H.pm 13 [2,1,0,3,4,6,9,10,11,12] rfl:)⟩
 refine bb (List.replicate 9 0) F H rfl fun a F => ?_
 refine lz ?_
 cases hm
 refine ct ?_
 replace H := H.nslSl 4 rfl
 exact ⟨p12, c12, F.sl rfl, (H.pm 13 [2,0,1,3,4,6,9,10,11,12] rfl:)⟩
 refine bb (List.replicate 23 0) F H rfl fun a F => ?_
 refine lz ?_
 cases hm
 refine ct ?_
 replace H := H.nslSl 4 rfl
 exact ⟨p12, c12, F.sl rfl, (H.pm 13 [2,0,1,3,4,6,9,10,11,12] rfl:)⟩
 refine ct (cB F rfl (fun hg31 => ?_) (fun hg31 => ?_))
 replace hm := ifT hg31 hm
 refine sb [0] F H rfl fun a F => ?_
 refine nl (wr (tr ?_))
 cases hm
 refine x_ret1 F rfl rfl ?_
 exact ⟨_, rfl, rfl, (H.pm 10 [2] rfl:)⟩
 replace hm := ifF (nT hg31) hm
 refine sk (ct (sq ?_))
 obtain ⟨p32, c33, H⟩ := O_tree_walker_o (H.pk 2 rfl)
 refine mix_regionK [7,10] [10] (scL [0,1,2,3,1004,5,1006,2007,8,9,3010]) [] H rfl rfl (by kernel_rfl) (by kernel_rfl) fun w H => ?_
 refine mbk [0,0,0,1,1,1,2001] F H rfl ⟨fld102_1, rfl, plain32, fld84_1, rfl, plain32, trivial⟩ fun a F => ?_
 refine m_heavy rfl rfl ?_
 obtain ⟨x35, ex35, hm⟩ := ob hm
 refine s_app wkP F rfl rfl rfl rfl rfl rfl elem32 rfl ex35 H 1 3 rfl rfl fun p34 c34 w a H F => ?_
 refine lz ?_; refine ct ⟨⟨_, H⟩, ?_⟩
 refine mbk [0,1] F H rfl ⟨fld102_1, trivial⟩ fun a F => ?_
 refine m_last rfl rfl ?_
 refine s_st1 wkP F rfl rfl zero32 rfl rfl rfl rfl rfl H 0 rfl rfl fun w H => ?_
 refine lz ?_; refine ct ?_
 refine m_nil ?_
 refine ct (sq (sr (bk [2,2002,0,0] F H rfl ⟨fld84_2, rfl, plain76, ⟨_, Tryz.underlying76⟩, trivial⟩ fun a F => ?_)))
 replace H := H.nf 11 rfl
 refine nl ?_
 replace H := O_tree_walker_s H
 refine xr0 10 [] [1,2,3,4,5,6,7,8,9] F H hm rfl rfl (fun r67 z => z) (fun r67 z => O_tree_walker w0.heap.size bo0 bo0_0 r67 :: z) (fun o67 hm hm67 => ?_) (fun r67 a w hm F H => ?_)
 refine bl (xl0 10 [0,9,73,74] [1,2,3,4,5,6,7,8,9] F H hm rfl rfl (fun (s88 : T_tree_walker_o × Int) z => (75, .int .i64 (s88.2)) :: z) (fun s88 z => O_tree_walker w0.heap.size bo0 bo0_0 s88.1 :: z) ⟨F.sl rfl, H⟩ (fun s88 a w o F H hm => ?_))
 refine sb [0] F H rfl fun a F => ?_
 replace H := H.nf 10 rfl
 refine nl (sq (cPm F rfl hm (fun hg89 hm => ?_) (fun hg89 hm => ?_)))
 refine sk (ct (sq (bl (sr ?_))))
 obtain ⟨x90, ex90, hm⟩ := ob hm
 obtain ⟨b91, o91, hp91, cs92, H⟩ := H.slE 5 rfl ex90
 refine sv F rfl (y_idxS F elem76 rfl rfl rfl hp91 ex90) fun a F => ?_
 refine bk [999] F H rfl ⟨rfl, (aggn agg80 (H.rcLen 1 rfl)), trivial⟩ fun a F => ?_
 replace H := H.owNil rByte 5
 refine s_allocA wkP F rfl rfl rfl agz80 rfl H fun b93 w a H F => ?_
 refine s_storeA wkP F rfl rfl agg80 rfl rfl rfl H 0 rfl (H.rcLen 3 rfl) (by simp only [List.length_append, List.length_cons, List.length_nil, icells_length, bcells_length, (List.length_replicate (n := 32))]) (H.rcFlat 3 rfl) fun w H => ?_
 replace H := H.nf 14 rfl
 refine nl (sr (bk [0,1] F H rfl ⟨fld80_1, trivial⟩ fun a F => ?_))
 have G := F; replace H := rc_api_Kid (H.pk 3 rfl); obtain ⟨p94, c95, hl96, rfl, J⟩ := H; have H := J; have F := G; clear G J
 refine sv F rfl (y_loadA F agg25 rfl rfl (row_midE (A := [.slice p94 (x90.1).length c95]) (X := bcells x90.2) (w := _) ((H.blk 1 rfl).row) (by simp only [List.length_append, List.length_cons, List.length_nil, icells_length, bcells_length])) ((bcells_length _).trans hl96)) fun a F => ?_
 refine bk [0,5000,0] F H rfl ⟨fld84_0, rfl, plain3, trivial⟩ fun a F => ?_
 obtain ⟨x97, ex97, hm⟩ := ob hm
 refine sd F rfl ent44 (ih hl96 ex97 (H.pm 14 [11,12,4,13,0,1,2,3,5,6,7,8,9,10,11,12,13] rfl:):) ?_; rintro _ w a ⟨rfl, H⟩ F
 refine bb [0] F H rfl fun a F => ?_
 replace H := H.nf 14 rfl
 refine nb [0,0] F H rfl fun a F => ?_
 refine nl (cNm F rfl hm (fun hg98 hm => ?_) (fun hg98 hm => ?_))
 refine sb [0,0] F H rfl fun a F => ?_
 refine nl (wr (br (tr (tr ?_)))); cases hm; refine ⟨_, rfl, ?_⟩; rintro rfl
 refine br (tr ?_)
 replace hm := elimR hm67
 refine tr ?_
 cases hm
 refine x_ret1 F rfl rfl ?_
 exact ⟨_, rfl, rfl, (H.pm 14 [0] rfl:)⟩
 refine sk (bn (ct (rl (bb [0,0] F H rfl fun a F => ?_))))
 refine lz (ct ?_); cases hm
 exact ⟨_, rfl, ⟨F.sl rfl, (H.pm 14 [0,5,6,7,8,9,10,11,12,13] rfl:)⟩⟩
 refine ex (cx (cx ?_)); cases hm; refine ⟨_, rfl, ?_⟩; rintro rfl
 refine ch (ct ?_)
 exact ⟨_, rfl, F.cut _ trivial, H⟩
 refine ct (sb [0] F H rfl fun a F => ?_)
 replace H := H.nf 10 rfl
 refine nl (wr ?_)
 cases hm
 refine x_ret1 F rfl rfl ?_
 exact ⟨_, rfl, rfl, (H.pm 10 [0] rfl:)⟩
theorem w_trWalkF (n_ : Nat) : ∀ {w_ : ((List UInt8) → Option (List UInt8)) × (List T_api_Pair)} {h : List UInt8} {level : Int} {bo0 : Nat} {bo0_0 : Option Nat} {w0 w : World} {l : List HP} (hl1 : (h).length = 32) {r : Int × T_tree_walker_o} (hm : trWalkF n_ w_ h level = some r) (H : St w0 w (HP.row 1 (0) (icells .u32 shaStart) :: HP.row 2 (0) (icells .u32 shaRounds) :: O_tree_walker w0.heap.size bo0 bo0_0 w_.2 :: HP.fm bo0_0 hv false (rSl rByte) (fun l => l.length = 32) w_.1 :: l)), Calls Tryz.prog 44 [.pointer (some ⟨bo0, 0, none⟩), .agg (bcells h).toArray, .int .i64 (level)].toArray w (fun e w' => ∃ v, e = .returned v ∧ v = .int .i64 (r.1) ∧ St w0 w' (O_tree_walker w0.heap.size bo0 bo0_0 r.2 :: l)) := by
  induction n_ with
  | zero => intro w_ h level bo0 bo0_0 w0 w l hl1 r hm H; exact absurd hm (by simp [trWalkF])
  | succ n_ ih => intro w_ h level bo0 bo0_0 w0 w l hl1 r hm H; exact w_trWalkS (rec_ := trWalkF n_) ih hl1 hm H
theorem w_trWalk {w_ : ((List UInt8) → Option (List UInt8)) × (List T_api_Pair)} {h : List UInt8} {level : Int} {bo0 : Nat} {bo0_0 : Option Nat} {w0 w : World} {l : List HP} (hl1 : (h).length = 32) {r : Int × T_tree_walker_o} (hm : trWalk w_ h level = some r) (H : St w0 w (HP.row 1 (0) (icells .u32 shaStart) :: HP.row 2 (0) (icells .u32 shaRounds) :: O_tree_walker w0.heap.size bo0 bo0_0 w_.2 :: HP.fm bo0_0 hv false (rSl rByte) (fun l => l.length = 32) w_.1 :: l)) :
  Calls Tryz.prog 44 [.pointer (some ⟨bo0, 0, none⟩), .agg (bcells h).toArray, .int .i64 (level)].toArray w (fun e w' => ∃ v, e = .returned v ∧ v = .int .i64 (r.1) ∧ St w0 w' (O_tree_walker w0.heap.size bo0 bo0_0 r.2 :: l)) := w_trWalkF 20 hl1 hm H
theorem ent19 : En Tryz.prog 19 := enters Tryz.func19 (by kernel_rfl) rfl
theorem w_trWhole {bag : (List UInt8) → Option (List UInt8)} {root : List UInt8} {q1 : Option Nat} {w0 w : World} {l : List HP} (hl2 : (root).length = 32) {r : (List T_api_Pair) × ((List UInt8) → Option (List UInt8)) × Int} (hm : trWhole bag root = some r) (H : St w0 w (HP.row 1 (0) (icells .u32 shaStart) :: HP.row 2 (0) (icells .u32 shaRounds) :: HP.fm q1 hv false (rSl rByte) (fun l => l.length = 32) bag :: l)) :
  Calls Tryz.prog 21 [.map q1, .agg (bcells root).toArray].toArray w (fun e w' => ∃ v, e = .returned v ∧ ∃ (p3 : Option Addr) (c3 : Nat) (q4 : Option Nat), v = .tuple [.slice p3 (r.1).length c3, .map q4, .int .i64 (r.2.2)].toArray ∧ St w0 w' (HP.nsl w0.heap.size (rP2N w0.heap.size) p3 c3 r.1 :: HP.mm q4 hv false (rSl rByte) (fun l => l.length = 32) r.2.1 :: l)) := by
 unfold trWhole at hm
 refine x_enter Tryz.func21 rfl rfl rfl ?_
 intro a F
 refine sr (s_boxA wkP F rfl rfl rfl rfl rfl H fun b5 w a H F => ?_)
 refine bb [0,0,0] F H rfl fun a F => ?_
 replace H := H.nf 4 rfl
 refine nb [0] F H rfl fun a F => ?_
 replace H := H.owNil (rP2N w0.heap.size) 48
 refine sv F rfl (y_build F rfl rfl (cs := [.map q1, .slice none (([] : List T_api_Pair)).length 0]) (by kernel_rfl)) fun a F => ?_
 refine s_boxA wkP F rfl rfl rfl rfl rfl H fun b6 w a H F => ?_
 refine bb [0] F H rfl fun a F => ?_
 replace H := H.nf 6 rfl
 refine nl (sq (sr (bk [0,2999] F H rfl ⟨rfl, (aggn agg25 ((bcells_length _).trans hl2)), trivial⟩ fun a F => ?_)))
 replace H := O_tree_walker_s (x1 := ([] : List T_api_Pair)) H
 obtain ⟨x7, ex7, hm⟩ := ob hm
 refine sd F rfl ent44 (w_trWalk hl2 ex7 (H.pm 5 [2,3,0,4,1,2,3,4] rfl:):) ?_; rintro _ w a ⟨rfl, H⟩ F
 refine bb [0] F H rfl fun a F => ?_
 replace H := H.nf 5 rfl
 refine nb [0,0] F H rfl fun a F => ?_
 refine nl (cNm F rfl hm (fun hg8 hm => ?_) (fun hg8 hm => ?_))
 refine sb [0,0,0,0] F H rfl fun a F => ?_
 refine nl (wr (tr ?_))
 replace H := H.owNil (rP2N w0.heap.size) 48
 replace H := H.frzP2 0 rfl
 replace H := H.mmNil hv false (rSl rByte) (fun l => l.length = 32)
 cases hm
 refine x_ret3 F rfl rfl rfl rfl ?_
 exact ⟨_, rfl, none,0, none, rfl, (H.pm 7 [1,0] rfl:)⟩
 refine sk (ct (sr (bk [0,0,1] F H rfl ⟨fld102_1, trivial⟩ fun a F => ?_)))
 obtain ⟨p9, c10, H⟩ := O_tree_walker_o (H.pk 0 rfl)
 refine bk [1] F H rfl ⟨rfl, plain32, trivial⟩ fun a F => ?_
 replace H := H.frzP2 1 rfl
 replace H := H.nslSl 0 rfl
 replace H := H.slP2W 0 rfl
 obtain ⟨x11, ex11, hm⟩ := ob hm
 refine sd F rfl ent19 (w_trBuild ex11 (H.pm 8 [5,6,0,0,1,2,3,4,5,6,7] rfl:):) ?_; rintro _ w a ⟨q13, rfl, hl12, H⟩ F
 replace H := H.mmN 0 rfl
 refine bb [0,0,0,0] F H rfl fun a F => ?_
 refine s_allocA wkP F rfl rfl rfl agz25 rfl H fun b14 w a H F => ?_
 refine s_storeA wkP F rfl rfl agg25 rfl rfl rfl H 0 rfl ((bcells_length _).trans hl12) ((bcells_length _).trans (List.length_replicate (n := 32))) (bcells_flat _) fun w H => ?_
 refine bb [0,0] F H rfl fun a F => ?_
 replace H := H.nf 10 rfl
 refine nl (sq (sb [0,0,0] F H rfl fun a F => ?_))
 rcases spN 32 F rfl hm with ⟨hg15, hm, F⟩ | ⟨hg15, hm, F⟩
 refine bk [999,6999] F H rfl ⟨rfl, (aggn agg25 ((bcells_length _).trans hl12)), rfl, (aggn agg25 ((bcells_length _).trans hl2)), trivial⟩ fun a F => ?_
 refine g_onP F rfl rfl rfl rfl ?_
 refine sv F rfl (y_neqA F key25 rfl rfl rfl hl12 hl2) fun a F => ?_
 refine bb [0] F H rfl fun a F => ?_
 refine nl (cNm F rfl hm (fun hg16 hm => ?_) (fun hg16 hm => ?_))
 refine sb [0,0,0] F H rfl fun a F => ?_
 refine nl (wr (tr ?_))
 replace H := H.owNil (rP2N w0.heap.size) 48
 replace H := H.frzP2 0 rfl
 replace H := H.mmNil hv false (rSl rByte) (fun l => l.length = 32)
 cases hm
 refine x_ret3 F rfl rfl rfl rfl ?_
 exact ⟨_, rfl, none,0, none, rfl, (H.pm 12 [1,0] rfl:)⟩
 refine sk (ct (sr (bk [0,0,1,5001,0,0,0,0] F H rfl ⟨fld102_1, rfl, plain32, trivial⟩ fun a F => ?_)))
 refine nl (wr ?_)
 cases hm
 refine x_ret3 F rfl rfl rfl rfl ?_
 exact ⟨_, rfl, p9, c10, q13, rfl, (H.pm 10 [4,1] rfl:)⟩
 refine bb [0,0,0,0] F H rfl fun a F => ?_
 refine nl (cT F rfl ?_)
 refine sb [0,0,0] F H rfl fun a F => ?_
 refine nl (wr (tr ?_))
 replace H := H.owNil (rP2N w0.heap.size) 48
 replace H := H.frzP2 0 rfl
 replace H := H.mmNil hv false (rSl rByte) (fun l => l.length = 32)
 cases hm
 refine x_ret3 F rfl rfl rfl rfl ?_
 exact ⟨_, rfl, none,0, none, rfl, (H.pm 12 [1,0] rfl:)⟩
theorem ent21 : En Tryz.prog 21 := enters Tryz.func21 (by kernel_rfl) rfl
theorem w_trAll {bag : (List UInt8) → Option (List UInt8)} {root : List UInt8} {q1 : Option Nat} {w0 w : World} {l : List HP} (hl2 : (root).length = 32) {r : (List T_api_Pair) × Int} (hm : trAll bag root = some r) (H : St w0 w (HP.row 1 (0) (icells .u32 shaStart) :: HP.row 2 (0) (icells .u32 shaRounds) :: HP.fm q1 hv false (rSl rByte) (fun l => l.length = 32) bag :: l)) :
  Calls Tryz.prog 7 [.map q1, .agg (bcells root).toArray].toArray w (fun e w' => ∃ v, e = .returned v ∧ ∃ (p3 : Option Addr) (c3 : Nat), v = .tuple [.slice p3 (r.1).length c3, .int .i64 (r.2)].toArray ∧ St w0 w' (HP.nsl w0.heap.size (rP2N w0.heap.size) p3 c3 r.1 :: l)) := by
 unfold trAll at hm
 refine x_enter Tryz.func7 rfl rfl rfl ?_
 intro a F
 refine sr (s_boxA wkP F rfl rfl rfl rfl rfl H fun b4 w a H F => ?_)
 refine bb [0,0] F H rfl fun a F => ?_
 replace H := H.nf 4 rfl
 refine nl (sr (bk [0,999] F H rfl ⟨rfl, (aggn agg25 ((bcells_length _).trans hl2)), trivial⟩ fun a F => ?_))
 obtain ⟨x5, ex5, hm⟩ := ob hm
 refine sd F rfl ent21 (w_trWhole hl2 ex5 (H.pm 4 [1,2,3,0,1,2,3] rfl:):) ?_; rintro _ w a ⟨p6, c6, q7, rfl, H⟩ F
 refine bb (List.replicate 7 0) F H rfl fun a F => ?_
 replace H := H.nf 6 rfl
 refine nb [0,0,0,0] F H rfl fun a F => ?_
 refine nl (wr ?_)
 cases hm
 refine x_ret2 F rfl rfl rfl ?_
 exact ⟨_, rfl, p6, c6, rfl, (H.pm 6 [0] rfl:)⟩
theorem w_bsPair {xs : List T_api_Pair} {t_ : T_api_Pair} {p1 : Option Addr} {c1 : Nat} {cs2 : List Value} {w0 w : World} {l : List HP}  {r : Int × Bool} (hm : bsPair xs t_ = some r) (H : St w0 w (HP.sl R_api_Pair p1 c1 xs :: HP.rc R_api_Pair cs2 t_ :: l)) :
  Calls Tryz.prog 23 [.slice p1 (xs).length c1, .agg cs2.toArray, .func (.func 24) #[] #[]].toArray w (fun e w' => ∃ v, e = .returned v ∧ v = .tuple [.int .i64 (r.1), .bool (r.2)].toArray ∧ St w0 w' (l)) := by
 unfold bsPair at hm
 refine x_enter Tryz.func23 rfl rfl rfl ?_
 intro a F
 refine sr (s_boxA wkP F rfl rfl rfl rfl rfl H fun b3 w a H F => ?_)
 refine bb [0,0] F H rfl fun a F => ?_
 replace H := H.nf 3 rfl
 refine nl (sr (bk [0,0,0] F H rfl ⟨⟨_, Tryz.underlying32⟩, trivial⟩ fun a F => ?_))
 refine nb [0,0,0] F H rfl fun a F => ?_
 refine nl (sq (xm0 3 [0,2,4,8] [0,1,2] F H hm rfl rfl (fun r53 z => (9, .int .i64 (r53)) :: z) (fun r53 z => z) (fun r53 hm => ?_) (fun r53 a w hm F H => ?_)))
 refine bl (xl0 3 [0,2,4,8] [0,1,2] F H hm rfl rfl (fun (s86 : Int × Int) z => (9, .int .i64 (s86.1)) :: (10, .int .i64 (s86.2)) :: z) (fun s86 z => z) ⟨F.sl rfl, H⟩ (fun s86 a w o F H hm => ?_))
 refine sq (sb [0,0,0] F H rfl fun a F => ?_)
 refine nl (cPm F rfl hm (fun hg87 hm => ?_) (fun hg87 hm => ?_))
 refine sk (ct (xm0 3 [0,2,4,8] [0,1,2] F H hm rfl rfl (fun r95 z => (9, .int .i64 (r95.1)) :: (10, .int .i64 (r95.2)) :: z) (fun r95 z => z) (fun r95 hm => ?_) (fun r95 a w hm F H => ?_)))
 refine bl (sr (bk [0,0,0,2] F H rfl ⟨Tryz.underlying3, Tryz.underlying98, trivial⟩ fun a F => ?_))
 refine sv F rfl (i_shr F rfl rfl rfl (by decide)) fun a F => ?_
 refine bk [0,0] F H rfl ⟨Tryz.underlying98, Tryz.underlying3, trivial⟩ fun a F => ?_
 refine nl (sq ?_)
 obtain ⟨x96, ex96, hm⟩ := ob hm
 obtain ⟨b97, o97, hp97, cs98, H⟩ := H.slE 1 rfl ex96
 refine mix_regionK [6] [] (scL [0,1,2,3,1004,1005,2006,7]) [] H rfl rfl (by kernel_rfl) (by kernel_rfl) fun w H => ?_
 refine mb [0,0,0] F H rfl fun a F => ?_
 refine m_pure F rfl rfl rfl rfl (fun u hu => y_idxS F elem32 rfl rfl rfl hp97 ex96) fun a F => ?_
 refine mbk [999,2999] F H rfl ⟨rfl, (aggn agg48 (H.rcLen 1 rfl)), rfl, (aggn agg48 (H.rcLen 4 rfl)), trivial⟩ fun a F => ?_
 refine m_heavy rfl rfl ?_
 obtain ⟨x99, ex99, hm⟩ := ob hm
 refine s_call wkP F rfl rfl rfl rfl (y_callV0 F rfl rfl rfl ent24) (w_m_tree_compare ex99 (H.pm 5 [1,4,0,1,2,3,4] rfl:):) ?_; rintro _ w a ⟨rfl, H⟩ F
 refine lz ?_; refine ct ⟨⟨_, H⟩, ?_⟩
 refine mb [0] F H rfl fun a F => ?_
 refine m_nil ?_
 refine ct (xm0 5 [0,2,4,8] [0,2,3,4] F H hm rfl rfl (fun r101 z => (9, .int .i64 (r101.1)) :: (10, .int .i64 (r101.2)) :: z) (fun r101 z => z) (fun r101 hm => ?_) (fun r101 a w hm F H => ?_))
 refine cPm F rfl hm (fun hg102 hm => ?_) (fun hg102 hm => ?_)
 refine rl (bb [0,0,0] F H rfl fun a F => ?_)
 replace H := H.nf 5 rfl
 refine lz ?_
 cases hm
 refine ct ?_
 exact ⟨F.sl rfl, (H.pm 5 [0,2,3,4] rfl:)⟩
 refine rl (bb [0,0] F H rfl fun a F => ?_)
 replace H := H.nf 5 rfl
 refine lz ?_
 cases hm
 refine ct ?_
 exact ⟨F.sl rfl, (H.pm 5 [0,2,3,4] rfl:)⟩
 refine bn ?_
 cases hm
 refine ct ?_
 exact ⟨F.sl rfl, (H.pm 4 [1,2,3] rfl:)⟩
 refine ct ?_; cases hm
 exact ⟨_, rfl, ⟨F.sl rfl, H⟩⟩
 refine ex (cx (cx ?_)); cases hm; refine ⟨_, rfl, ?_⟩; rintro rfl
 refine ch (ct ?_)
 exact ⟨F.sl rfl, H⟩
 refine ct (sq ?_)
 by_cases hg103 : r53 < ((xs).length : Int)
 replace hm := ifT hg103 hm
 obtain ⟨x104, ex104, hm⟩ := ob hm
 obtain ⟨b105, o105, hp105, cs106, H⟩ := H.slE 1 rfl ex104
 refine mix_regionK [11] [] (scL [0,1,2,3,4,5,6,7,8,1009,1010,2011,12,13,14,15]) [] H rfl rfl (by kernel_rfl) (by kernel_rfl) fun w H => ?_
 refine mb (List.replicate 5 0) F H rfl fun a F => ?_
 replace F := F.bT 39 hg103 rfl
 refine mb [0,0,0] F H rfl fun a F => ?_
 refine m_on (k := 0) F rfl rfl rfl rfl rfl rfl rfl (fun u hu => y_idxS F elem32 rfl rfl rfl hp105 ex104) fun a F => ?_
 refine mbk [999,2999] F H rfl ⟨rfl, (aggn agg48 (H.rcLen 1 rfl)), rfl, (aggn agg48 (H.rcLen 4 rfl)), trivial⟩ fun a F => ?_
 refine m_heavyOn F rfl rfl rfl rfl rfl ?_; refine g_onP F rfl rfl rfl rfl ?_
 obtain ⟨x107, ex107, hm⟩ := ob hm
 refine s_call wkP F rfl rfl rfl rfl (y_callV0 F rfl rfl rfl ent24) (w_m_tree_compare ex107 (H.pm 5 [1,4,0,1,2,3,4] rfl:):) ?_; rintro _ w a ⟨rfl, H⟩ F
 refine lz ?_; refine ct ⟨⟨_, H⟩, ?_⟩
 refine mb [0,0,0,0] F H rfl fun a F => ?_
 refine m_nil ?_
 refine ct (wr ?_)
 cases hm
 refine x_ret2 F rfl rfl rfl ?_
 exact ⟨_, rfl, rfl, (H.pm 5 [] rfl:)⟩
 replace hm := ifF hg103 hm
 refine mix_regionK [11] [] (scL [0,1,2,3,4,5,6,7,8,1009,1010,2011,12,13,14,15]) [] H rfl rfl (by kernel_rfl) (by kernel_rfl) fun w H => ?_
 refine mb (List.replicate 5 0) F H rfl fun a F => ?_
 replace F := F.bF 39 hg103 rfl
 refine mb (List.replicate 11 0) F H rfl fun a F => ?_
 refine m_nil ?_
 refine ct (wr ?_)
 cases hm
 refine x_ret2 F rfl rfl rfl ?_
 exact ⟨_, rfl, rfl, (H.pm 3 [] rfl:)⟩
theorem ent7 : En Tryz.prog 7 := enters Tryz.func7 (by kernel_rfl) rfl
theorem ent23 : En Tryz.prog 23 := enters Tryz.func23 (by kernel_rfl) rfl
theorem w_trGet {bag : (List UInt8) → Option (List UInt8)} {root : List UInt8} {key : List UInt8} {q1 : Option Nat} {p3 : Option Addr} {c3 : Nat} {w0 w : World} {l : List HP} (hl2 : (root).length = 32) {r : (List UInt8) × Bool × Int} (hm : trGet bag root key = some r) (H : St w0 w (HP.row 1 (0) (icells .u32 shaStart) :: HP.row 2 (0) (icells .u32 shaRounds) :: HP.fm q1 hv false (rSl rByte) (fun l => l.length = 32) bag :: HP.sl rByte p3 c3 key :: l)) :
  Calls Tryz.prog 9 [.map q1, .agg (bcells root).toArray, .slice p3 (key).length c3].toArray w (fun e w' => ∃ v, e = .returned v ∧ ∃ (p4 : Option Addr) (c4 : Nat), v = .tuple [.slice p4 (r.1).length c4, .bool (r.2.1), .int .i64 (r.2.2)].toArray ∧ St w0 w' (HP.nsl w0.heap.size rByte p4 c4 r.1 :: l)) := by
 unfold trGet at hm
 refine x_enter Tryz.func9 rfl rfl rfl ?_
 intro a F
 refine sr (s_boxA wkP F rfl rfl rfl rfl rfl H fun b5 w a H F => ?_)
 refine bb [0,0,0] F H rfl fun a F => ?_
 replace H := H.nf 5 rfl
 refine nl (sr (bk [0,999] F H rfl ⟨rfl, (aggn agg25 ((bcells_length _).trans hl2)), trivial⟩ fun a F => ?_))
 obtain ⟨x6, ex6, hm⟩ := ob hm
 refine sd F rfl ent7 (w_trAll hl2 ex6 (H.pm 5 [1,2,3,0,1,2,3,4] rfl:):) ?_; rintro _ w a ⟨p7, c7, rfl, H⟩ F
 refine bb (List.replicate 5 0) F H rfl fun a F => ?_
 replace H := H.nf 6 rfl
 refine nb [0,0] F H rfl fun a F => ?_
 replace H := H.owNil rByte 5
 refine sv F rfl (y_build F rfl rfl (cs := [.slice p3 (key).length c3, .slice none (([] : List UInt8)).length 0]) (by kernel_rfl)) fun a F => ?_
 replace H := H.nslSl 1 rfl
 replace H := H.slP2W 0 rfl
 replace H := H.frz 2 rfl
 replace H := mk_api_Pair H 8 rfl 0 rfl
 obtain ⟨x8, ex8, hm⟩ := ob hm
 refine sd F rfl ent23 (w_bsPair ex8 (H.pm 10 [2,0,0,1,2,3,4,5,6,7,8,9] rfl:):) ?_; rintro _ w a ⟨rfl, H⟩ F
 refine bb (List.replicate 5 0) F H rfl fun a F => ?_
 replace H := H.nf 10 rfl
 refine nl (sq (sb [0,0] F H rfl fun a F => ?_))
 refine nl (cB F rfl (fun hg9 => ?_) (fun hg9 => ?_))
 replace hm := ifT hg9 hm
 refine sb [0,0,0,0] F H rfl fun a F => ?_
 refine nl (wr (tr ?_))
 replace H := H.owNil rByte 5
 replace H := H.frzNB 0 rfl
 cases hm
 refine x_ret3 F rfl rfl rfl rfl ?_
 exact ⟨_, rfl, none, 0, rfl, (H.pm 11 [0] rfl:)⟩
 replace hm := ifF (nT hg9) hm
 refine sk (ct (sb [0,0] F H rfl fun a F => ?_))
 obtain ⟨x10, ex10, hm⟩ := ob hm
 obtain ⟨b11, o11, hp11, cs12, H⟩ := H.slE 3 rfl ex10
 refine sv F rfl (y_idxS F elem32 rfl rfl rfl hp11 ex10) fun a F => ?_
 refine bk [1] F H rfl ⟨fld48_1, trivial⟩ fun a F => ?_
 obtain ⟨p13, c13, q13, d13, rfl, H⟩ := (H.pk 1 rfl).rcP2N
 refine bk [2001,0,0,0,0] F H rfl ⟨rfl, plain26, trivial⟩ fun a F => ?_
 refine nl (wr ?_)
 cases hm
 refine x_ret3 F rfl rfl rfl rfl ?_
 exact ⟨_, rfl, q13, d13, rfl, (H.pm 13 [1] rfl:)⟩
theorem w_cloneP {s : List T_api_Pair} {p1 : Option Addr} {c1 : Nat} {w0 w : World} {l : List HP}  {r : (List T_api_Pair)} (hm : cloneP s = some r) (H : St w0 w (HP.sl (rP2N w0.heap.size) p1 c1 s :: l)) :
  Calls Tryz.prog 25 [.slice p1 (s).length c1].toArray w (fun e w' => ∃ v, e = .returned v ∧ ∃ (p2 : Option Addr) (c2 : Nat), v = .slice p2 (r).length c2 ∧ St w0 w' (HP.ow (rP2N w0.heap.size) 48 p2 c2 r :: l)) := by
 unfold cloneP at hm
 refine x_enter Tryz.func25 rfl rfl rfl ?_
 intro a F
 refine sb [0] F H rfl fun a F => ?_
 refine nl (sq (sb [0] F H rfl fun a F => ?_))
 obtain _ | ad := p1
 obtain ⟨hx0, hc0⟩ := H.slNone 0 rfl; subst hc0; try subst hx0
 replace H := H.dp 0 rfl
 refine sv F rfl (y_eqNil F rfl Tryz.underlying32 rfl rfl (by simp)) fun a F => ?_
 refine nl (cT F rfl ?_)
 refine sb [0] F H rfl fun a F => ?_
 refine nl (wr (tr ?_))
 replace H := H.owNil (rP2N w0.heap.size) 48
 cases hm
 refine x_ret1 F rfl rfl ?_
 exact ⟨_, rfl, none, 0, rfl, H⟩
 refine sv F rfl (y_eqSome F rfl Tryz.underlying32 rfl rfl (by simp)) fun a F => ?_
 refine nl (cF F rfl ?_)
 refine sk (ct (sr (s_build0O (R := (rP2N w0.heap.size)) wkP F rfl rfl rfl elem32 rfl H fun b3 w a H F => ?_)))
 refine bb [0] F H rfl fun a F => ?_
 obtain ⟨x5, ex5, hm⟩ := ob hm
 refine s_app wkP F rfl rfl rfl rfl rfl rfl elem32 rfl ex5 H 0 1 rfl rfl fun p4 c4 w a H F => ?_
 refine bb [0] F H rfl fun a F => ?_
 replace H := H.nf 2 rfl
 refine nl (wr ?_)
 cases hm
 refine x_ret1 F rfl rfl ?_
 exact ⟨_, rfl, p4, c4, rfl, (H.pm 2 [0] rfl:)⟩
theorem ent25 : En Tryz.prog 25 := enters Tryz.func25 (by kernel_rfl) rfl
theorem w_trRange {bag : (List UInt8) → Option (List UInt8)} {root : List UInt8} {frm : List UInt8} {most : Int} {q1 : Option Nat} {p3 : Option Addr} {c3 : Nat} {w0 w : World} {l : List HP} (hl2 : (root).length = 32) {r : (List T_api_Pair) × Int} (hm : trRange bag root frm most = some r) (H : St w0 w (HP.row 1 (0) (icells .u32 shaStart) :: HP.row 2 (0) (icells .u32 shaRounds) :: HP.fm q1 hv false (rSl rByte) (fun l => l.length = 32) bag :: HP.sl rByte p3 c3 frm :: l)) :
  Calls Tryz.prog 10 [.map q1, .agg (bcells root).toArray, .slice p3 (frm).length c3, .int .i64 (most)].toArray w (fun e w' => ∃ v, e = .returned v ∧ ∃ (p4 : Option Addr) (c4 : Nat), v = .tuple [.slice p4 (r.1).length c4, .int .i64 (r.2)].toArray ∧ St w0 w' (HP.nsl w0.heap.size (rP2N w0.heap.size) p4 c4 r.1 :: l)) := by
 unfold trRange at hm
 refine x_enter Tryz.func10 rfl rfl rfl ?_
 intro a F
 refine sr (s_boxA wkP F rfl rfl rfl rfl rfl H fun b5 w a H F => ?_)
 refine bb [0,0] F H rfl fun a F => ?_
 replace H := H.nf 5 rfl
 refine nl (sr (bk [0,999] F H rfl ⟨rfl, (aggn agg25 ((bcells_length _).trans hl2)), trivial⟩ fun a F => ?_))
 obtain ⟨x6, ex6, hm⟩ := ob hm
 refine sd F rfl ent7 (w_trAll hl2 ex6 (H.pm 5 [1,2,3,0,1,2,3,4] rfl:):) ?_; rintro _ w a ⟨p7, c7, rfl, H⟩ F
 refine bb (List.replicate 5 0) F H rfl fun a F => ?_
 replace H := H.nf 6 rfl
 refine nb [0,0] F H rfl fun a F => ?_
 replace H := H.owNil rByte 5
 refine sv F rfl (y_build F rfl rfl (cs := [.slice p3 (frm).length c3, .slice none (([] : List UInt8)).length 0]) (by kernel_rfl)) fun a F => ?_
 replace H := H.nslSl 1 rfl
 replace H := H.slP2W 0 rfl
 replace H := H.frz 2 rfl
 replace H := mk_api_Pair H 8 rfl 0 rfl
 obtain ⟨x8, ex8, hm⟩ := ob hm
 refine sd F rfl ent23 (w_bsPair ex8 (H.pm 10 [2,0,0,1,2,3,4,5,6,7,8,9] rfl:):) ?_; rintro _ w a ⟨rfl, H⟩ F
 refine bb (List.replicate 5 0) F H rfl fun a F => ?_
 replace H := H.nf 10 rfl
 refine nb [0,0] F H rfl fun a F => ?_
 obtain ⟨x10, ex10, hm⟩ := ob hm
 have hc9 := H.slCap 3 rfl
 replace H := H.slSubN 2 rfl 3 rfl ex10
 refine sv F rfl (y_slL F elem32 rfl rfl rfl ex10 hc9) fun a F => ?_
 refine bb [0] F H rfl fun a F => ?_
 replace H := H.nf 11 rfl
 refine nl (sr (bk [0,0,0,0] F H rfl ⟨⟨_, Tryz.underlying32⟩, trivial⟩ fun a F => ?_))
 refine sv F rfl (y_min F rfl rfl rfl rfl) fun a F => ?_
 refine sv F rfl (y_max F rfl rfl rfl rfl) fun a F => ?_
 obtain ⟨x12, ex12, hm⟩ := ob hm
 have hc11 := H.slCap 0 rfl
 replace H := H.slSubN 2 rfl 0 rfl ex12
 refine sv F rfl (y_slH F elem32 rfl rfl rfl ex12 hc11) fun a F => ?_
 obtain ⟨x13, ex13, hm⟩ := ob hm
 refine sd F rfl ent25 (w_cloneP ex13 (H.pm 12 [0,0,1,2,3,4,5,6,7,8,9,10,11] rfl:):) ?_; rintro _ w a ⟨p14, c14, rfl, H⟩ F
 refine bb [0,0,0] F H rfl fun a F => ?_
 replace H := H.nf 13 rfl
 refine nl (wr ?_)
 replace H := H.frzP2 0 rfl
 cases hm
 refine x_ret2 F rfl rfl rfl ?_
 exact ⟨_, rfl, p14, c14, rfl, (H.pm 13 [0] rfl:)⟩
theorem ent27 : En Tryz.prog 27 := enters Tryz.func27 (by kernel_rfl) rfl
theorem ent26 : En Tryz.prog 26 := enters Tryz.func26 (by kernel_rfl) rfl
theorem ent48 : En Tryz.prog 48 := enters Tryz.func48 (by kernel_rfl) rfl
theorem w_trHashes {bag : (List UInt8) → Option (List UInt8)} {root : List UInt8} {q1 : Option Nat} {w0 w : World} {l : List HP} (hl2 : (root).length = 32) {r : (List (List UInt8)) × Int} (hm : trHashes bag root = some r) (H : St w0 w (HP.row 1 (0) (icells .u32 shaStart) :: HP.row 2 (0) (icells .u32 shaRounds) :: HP.fm q1 hv false (rSl rByte) (fun l => l.length = 32) bag :: l)) :
  Calls Tryz.prog 11 [.map q1, .agg (bcells root).toArray].toArray w (fun e w' => ∃ v, e = .returned v ∧ ∃ (p3 : Option Addr) (c3 : Nat), v = .tuple [.slice p3 (r.1).length c3, .int .i64 (r.2)].toArray ∧ St w0 w' (HP.ow (rBytesN 32) 25 p3 c3 r.1 :: l)) := by
 unfold trHashes at hm
 refine x_enter Tryz.func11 rfl rfl rfl ?_
 intro a F
 refine sr (s_boxA wkP F rfl rfl rfl rfl rfl H fun b4 w a H F => ?_)
 refine bb [0,0] F H rfl fun a F => ?_
 replace H := H.nf 4 rfl
 refine nl (sr (bk [0,999] F H rfl ⟨rfl, (aggn agg25 ((bcells_length _).trans hl2)), trivial⟩ fun a F => ?_))
 obtain ⟨x5, ex5, hm⟩ := ob hm
 refine sd F rfl ent21 (w_trWhole hl2 ex5 (H.pm 4 [1,2,3,0,1,2,3] rfl:):) ?_; rintro _ w a ⟨p6, c6, q7, rfl, H⟩ F
 refine bb (List.replicate 7 0) F H rfl fun a F => ?_
 replace H := H.nf 6 rfl
 refine nb [0] F H rfl fun a F => ?_
 refine s_call wkP F rfl rfl rfl rfl (y_call F rfl rfl ent27) (w_mk27 q7 w0 _ _ H) ?_; rintro _ w a ⟨b8, rfl, H⟩ F
 obtain ⟨x10, ex10, hm⟩ := ob hm
 refine s_call wkP F rfl rfl rfl rfl (y_call F rfl rfl ent26) (w_sortedFunc26 ex10 (seq48 b8 q7 _) ent48 w_cmpc28 ent28 (H.pm 7 [0,2,1,3,4,5,6] rfl:)) ?_; rintro _ w a ⟨p9, c9, rfl, H⟩ F
 refine bb [0,0,0] F H rfl fun a F => ?_
 replace H := H.nf 8 rfl
 refine nl (wr ?_)
 cases hm
 refine x_ret2 F rfl rfl rfl ?_
 exact ⟨_, rfl, p9, c9, rfl, (H.pm 8 [0] rfl:)⟩
end Go.Proofs.YtnjemlkcamdbfaaGreatDoor
