/- laws -/
import Derived.Test.YtohmcgmmphpgoaaGreatDoorRefA
set_option linter.unusedSimpArgs false
set_option linter.unusedVariables false
namespace Go.Proofs.YtohmcgmmphpgoaaGreatDoor
open Go.RowKit Go.Tri
theorem ent10 : ∀ args w, (callFunc 10 args).run Tryz.prog w = .ok (.enter 10 args) w := enters Tryz.func10 (by kernel_rfl) rfl
theorem elem47 : ElemT Tryz.prog 47 25 6 80 (.agg [.int .i64 0, .string ByteArray.empty, .string ByteArray.empty, .int .i64 0, .int .i64 0, .slice none 0 0].toArray) := ⟨Tryz.underlying47, by kernel_rfl, by kernel_rfl, by decide⟩
theorem agz25 : AggT Tryz.prog 25 6 ([.int .i64 (0), .string (txb ([])), .string (txb ([])), .int .i64 (0), .int .i64 (0), .slice none (([] : List UInt8)).length 0]) := ⟨by rw [Tryz.underlying25]; rfl, by kernel_rfl, by kernel_rfl⟩
theorem ent17 : ∀ args w, (callFunc 17 args).run Tryz.prog w = .ok (.enter 17 args) w := enters Tryz.func17 (by kernel_rfl) rfl
theorem ent18 : ∀ args w, (callFunc 18 args).run Tryz.prog w = .ok (.enter 18 args) w := enters Tryz.func18 (by kernel_rfl) rfl
theorem ent20 : ∀ args w, (callFunc 20 args).run Tryz.prog w = .ok (.enter 20 args) w := enters Tryz.func20 (by kernel_rfl) rfl
theorem ent19 : ∀ args w, (callFunc 19 args).run Tryz.prog w = .ok (.enter 19 args) w := enters Tryz.func19 (by kernel_rfl) rfl
theorem ent15 : ∀ args w, (callFunc 15 args).run Tryz.prog w = .ok (.enter 15 args) w := enters Tryz.func15 (by kernel_rfl) rfl
set_option maxRecDepth 100000 in
set_option maxHeartbeats 4000000 in
theorem w_lPlays {script : List T_api_Op} {p1 : Option Addr} {c1 : Nat} {w0 w : World} {l : List HP}  {r : Bool} (hm : lPlays script = some r) (H : St w0 w (HP.sl R_api_Op p1 c1 script :: l)) :
  Calls Tryz.prog 4 [.slice p1 (script).length c1].toArray w (fun e w' => ∃ v, e = .returned v ∧ v = .bool (r) ∧ St w0 w' (l)) := by
 unfold lPlays at hm
 refine x_enter Tryz.func4 rfl rfl rfl ?_
 intro a F
 refine sr (bk [0] F H rfl trivial ?_); clear F; intro a F
 refine nl (sq (sr ?_))
 obtain ⟨x2, ex2, hm⟩ := ob hm
 refine sc wkP F rfl ent10 (w_lSpeaks ex2 H:) ?_; clear F H; rintro _ w a ⟨rfl, H⟩ F
 refine bk [0] F H rfl trivial ?_; clear F; intro a F
 replace H := H.nf 1 rfl
 refine nl (cB F rfl (fun hg3 => ?_) (fun hg3 => ?_))
 replace hm := ifT hg3 hm
 refine sr (bk [0] F H rfl trivial ?_); clear F; intro a F
 refine nl (wr (tr ?_))
 cases hm
 refine x_ret1 F rfl rfl ?_
 exact ⟨_, rfl, rfl, (H.pm 1 [] rfl:)⟩
 replace hm := ifF (nT hg3) hm
 refine sk (ct (sq (sr (bk [0, 0, 0] F H rfl ⟨⟨_, Tryz.underlying47⟩, trivial⟩ ?_)))); clear F; intro a F
 refine nl (cP F rfl (fun hg4 => ?_) (fun hg4 => ?_))
 replace hm := ifT hg4 hm
 refine sr (bk [0] F H rfl trivial ?_); clear F; intro a F
 refine nl (wr (tr ?_))
 cases hm
 refine x_ret1 F rfl rfl ?_
 exact ⟨_, rfl, rfl, (H.pm 1 [] rfl:)⟩
 replace hm := ifF hg4 hm
 refine sk (ct (sr ?_))
 obtain ⟨x5, ex5, hm⟩ := ob hm
 refine sc wkP F rfl ent23 (w_fNew ex5 H:) ?_; clear F H; rintro _ w a ⟨p6, c6, rfl, H⟩ F
 replace H := H.owNil rByte 5
 refine s_val wkP F rfl rfl rfl rfl (y_build F rfl rfl (cs := [.string (txb ([47])), .bool true, .slice none (([] : List UInt8)).length 0]) (by kernel_rfl)) ?_; clear F; intro a F
 replace H := H.frz 0 rfl
 refine s_build1 wkP F rfl rfl rfl agg50 elem30 rfl rfl (by simp only [List.length_append, List.length_cons, List.length_nil, icells_length, bcells_length]) (by decide) H ?_; clear F H; intro b7 w a H F
 replace H := H.blkOw1 (R := R_triremeref11_Node) (x := ([47], true, ([] : List UInt8))) (fun gg => ⟨_, _, rfl, rfl, ⟨_, _, rfl, rfl, ⟨_, _, rfl, (gg 1 _ rfl).choose_spec⟩⟩⟩)
 refine bk [0, 0] F H rfl trivial ?_; clear F; intro a F
 replace H := H.nf 4 rfl
 refine nl (sq (sr (bk [0, 0, 0] F H rfl ⟨⟨_, Tryz.underlying47⟩, trivial⟩ ?_))); clear F; intro a F
 refine nl ?_
 obtain ⟨o84, eo84, hm84⟩ := ob hm; clear hm; revert eo84; intro hm
 refine x_mid (fun aa ww => ∃ r84, o84 = Sum.inl r84 ∧ Fr ⟨58, []⟩ aa [] ∧ St w0 ww (l)) ?_ ?_
 refine bl ?_
 replace H := H.frz 0 rfl
 refine x_loopO _ (fun (s135 : (List T_api_Pair) × (List T_triremeref11_Node) × Int) aa ww => ∃ (p136 : Option Addr) (c136 : Nat) (p137 : Option Addr) (c137 : Nat), Fr ⟨58, []⟩ aa [(3, .slice p136 (s135.1).length c136), (4, .slice p137 (s135.2.1).length c137), (19, .slice p1 (script).length c1), (20, .int .i64 (((script).length : Int))), (21, .int .i64 (s135.2.2))] ∧ St w0 ww (HP.sl R_api_Op p1 c1 script :: HP.sl R_api_Pair p136 c136 s135.1 :: HP.sl R_triremeref11_Node p137 c137 s135.2.1 :: l)) hm ⟨p6, c6, (some ⟨b7, 0, none⟩), ([([47], true, ([] : List UInt8))]).length, F.sl rfl, (H.pm 4 [3, 2, 0] rfl:)⟩ ?_
 clear F H hm
 rintro s135 a w o ⟨p136, c136, p137, c137, F, H⟩ hm
 refine sr (bk [0] F H rfl trivial ?_); clear F; intro a F
 refine nl (sq (cP F rfl (fun hg138 => ?_) (fun hg138 => ?_)))
 replace hm := ifT hg138 hm
 refine sk (ct (sq (bl (sr ?_))))
 obtain ⟨x139, ex139, hm⟩ := ob hm
 obtain ⟨b140, o140, hp140⟩ := H.slP 0 rfl (idxO_some ex139).2
 obtain ⟨cs141, hcl141, H⟩ := H.slEl 0 rfl hp140 (idxO_some ex139).2
 clear hcl141
 refine s_val wkP F rfl rfl rfl rfl (y_idxS F elem47 rfl rfl rfl hp140 ex139) ?_; clear F; intro a F
 refine bk [999] F H rfl ⟨rfl, (aggn agg25 (H.rcLen 1 rfl)), trivial⟩ ?_; clear F; intro a F
 replace H := H.owNil rByte 5
 refine s_allocA wkP F rfl rfl rfl agz25 rfl H ?_; clear F H; intro b142 w a H F
 refine s_storeA wkP F rfl rfl agg25 rfl rfl rfl H 0 rfl (H.rcLen 3 rfl) (by simp only [List.length_append, List.length_cons, List.length_nil, icells_length, bcells_length]) (H.rcFlat 3 rfl) ?_; clear H; intro w H
 replace H := H.nf 7 rfl
 refine nl (sq (sr (bk [999] F H rfl ⟨rfl, (aggn agg25 (H.rcLen 3 rfl)), trivial⟩ ?_))); clear F; intro a F
 obtain ⟨x143, ex143, hm⟩ := ob hm
 refine sc wkP F rfl ent24 (w_rGreatOp ex143 (H.pm 7 [3, 0, 1, 2, 3, 4, 5, 6] rfl:):) ?_; clear F H; rintro _ w a ⟨rfl, H⟩ F
 replace H := H.nf 7 rfl
 refine nl (cB F rfl (fun hg144 => ?_) (fun hg144 => ?_))
 replace hm := ifT hg144 hm
 refine sr (bk [0] F H rfl trivial ?_); clear F; intro a F
 refine nl (wr (tr (br (tr (tr ?_))))); cases hm; refine ⟨_, rfl, ?_⟩; rintro rfl
 refine br (tr ?_)
 replace hm := elimR hm84
 refine tr ?_
 cases hm
 refine x_ret1 F rfl rfl ?_
 exact ⟨_, rfl, rfl, (H.pm 7 [] rfl:)⟩
 replace hm := ifF (nT hg144) hm
 refine sk (ct (sr (bk [0, 999] F H rfl ⟨rfl, (aggn agg25 (H.rcLen 3 rfl)), trivial⟩ ?_))); clear F; intro a F
 obtain ⟨x145, ex145, hm⟩ := ob hm
 refine sc wkP F rfl ent16 (w_fDo ex145 (H.pm 7 [5, 3, 0, 1, 2, 3, 4, 5, 6] rfl:):) ?_; clear F H; rintro _ w a ⟨p146, c146, cs147, rfl, H⟩ F
 refine bk [0, 0, 0] F H rfl trivial ?_; clear F; intro a F
 replace H := H.owNil rByte 5
 replace H := H.owNil rStr 9
 refine s_allocA wkP F rfl rfl rfl agz37 rfl H ?_; clear F H; intro b148 w a H F
 refine bk [0] F H rfl trivial ?_; clear F; intro a F
 refine s_storeA wkP F rfl rfl agg37 rfl rfl rfl H 0 rfl (H.rcLen 4 rfl) (by simp only [List.length_append, List.length_cons, List.length_nil, icells_length, bcells_length]) (H.rcFlat 4 rfl) ?_; clear H; intro w H
 replace H := H.nf 12 rfl
 refine nl (sr (bk [0, 5999] F H rfl ⟨rfl, (aggn agg25 (H.rcLen 8 rfl)), trivial⟩ ?_)); clear F; intro a F
 obtain ⟨x149, ex149, hm⟩ := ob hm
 refine sc wkP F rfl ent17 (w_m_triremeref11_Do ex149 (H.pm 12 [11, 8, 0, 1, 2, 3, 4, 5, 6, 7, 8, 9, 10, 11] rfl:):) ?_; clear F H; rintro _ w a ⟨p150, c150, cs151, rfl, H⟩ F
 refine bk [0, 0, 0] F H rfl trivial ?_; clear F; intro a F
 replace H := H.owNil rByte 5
 replace H := H.owNil rStr 9
 refine s_allocA wkP F rfl rfl rfl agz37 rfl H ?_; clear F H; intro b152 w a H F
 refine bk [0] F H rfl trivial ?_; clear F; intro a F
 refine s_storeA wkP F rfl rfl agg37 rfl rfl rfl H 0 rfl (H.rcLen 4 rfl) (by simp only [List.length_append, List.length_cons, List.length_nil, icells_length, bcells_length]) (H.rcFlat 4 rfl) ?_; clear H; intro w H
 replace H := H.nf 17 rfl
 refine nl (sq (sr (bk [5999, 999] F H rfl ⟨rfl, (aggn agg37 (H.rcLen 9 rfl)), rfl, (aggn agg37 (H.rcLen 4 rfl)), trivial⟩ ?_))); clear F; intro a F
 obtain ⟨x153, ex153, hm⟩ := ob hm
 refine sc wkP F rfl ent18 (w_rSameAns ex153 (H.pm 17 [9, 4, 0, 1, 2, 3, 4, 5, 6, 7, 8, 9, 10, 11, 12, 13, 14, 15, 16] rfl:):) ?_; clear F H; rintro _ w a ⟨rfl, H⟩ F
 refine bk [0, 0] F H rfl trivial ?_; clear F; intro a F
 by_cases hg154 : (!x153) = true
 replace hm := ifT hg154 hm
 replace F := F.vT 43 hg154 rfl
 refine bk (List.replicate 11 0) F H rfl trivial ?_; clear F; intro a F
 replace H := H.nf 17 rfl
 refine nl (cT F rfl ?_)
 refine sr (bk [0] F H rfl trivial ?_); clear F; intro a F
 refine nl (wr (tr (br (tr (tr ?_))))); cases hm; refine ⟨_, rfl, ?_⟩; rintro rfl
 refine br (tr ?_)
 replace hm := elimR hm84
 refine tr ?_
 cases hm
 refine x_ret1 F rfl rfl ?_
 exact ⟨_, rfl, rfl, (H.pm 17 [] rfl:)⟩
 replace hm := ifF hg154 hm
 replace F := F.vF 43 hg154 rfl
 refine bk [0, 0] F H rfl trivial ?_; clear F; intro a F
 refine g_onP F rfl rfl rfl rfl ?_
 obtain ⟨x155, ex155, hm⟩ := ob hm
 refine sc wkP F rfl ent20 (w_m_triremeref11_Pairs ex155 (H.pm 17 [3, 0, 1, 2, 3, 4, 5, 6, 7, 8, 9, 10, 11, 12, 13, 14, 15, 16] rfl:):) ?_; clear F H; rintro _ w a ⟨p156, c156, rfl, H⟩ F
 refine g_onP F rfl rfl rfl rfl ?_
 obtain ⟨x157, ex157, hm⟩ := ob hm
 refine sc wkP F rfl ent19 (w_rSamePairs ex157 (H.pm 18 [9, 0, 0, 1, 2, 3, 4, 5, 6, 7, 8, 9, 10, 11, 12, 13, 14, 15, 16, 17] rfl:):) ?_; clear F H; rintro _ w a ⟨rfl, H⟩ F
 refine bk [0, 0, 0] F H rfl trivial ?_; clear F; intro a F
 by_cases hg158 : (!x157) = true
 replace hm := ifT hg158 hm
 replace F := F.vT 50 hg158 rfl
 refine bk [0, 0, 0, 0] F H rfl trivial ?_; clear F; intro a F
 replace H := H.nf 18 rfl
 refine nl (cT F rfl ?_)
 refine sr (bk [0] F H rfl trivial ?_); clear F; intro a F
 refine nl (wr (tr (br (tr (tr ?_))))); cases hm; refine ⟨_, rfl, ?_⟩; rintro rfl
 refine br (tr ?_)
 replace hm := elimR hm84
 refine tr ?_
 cases hm
 refine x_ret1 F rfl rfl ?_
 exact ⟨_, rfl, rfl, (H.pm 18 [] rfl:)⟩
 replace hm := ifF hg158 hm
 replace F := F.vF 50 hg158 rfl
 refine bk [0] F H rfl trivial ?_; clear F; intro a F
 refine g_onP F rfl rfl rfl rfl ?_
 obtain ⟨x159, ex159, hm⟩ := ob hm
 refine sc wkP F rfl ent15 (w_fCheck ex159 (H.pm 18 [9, 0, 1, 2, 3, 4, 5, 6, 7, 8, 9, 10, 11, 12, 13, 14, 15, 16, 17] rfl:):) ?_; clear F H; rintro _ w a ⟨rfl, H⟩ F
 refine bk [0, 0] F H rfl trivial ?_; clear F; intro a F
 replace H := H.nf 18 rfl
 refine nl (cN F rfl (fun hg160 => ?_) (fun hg160 => ?_))
 replace hm := ifF hg160 hm
 refine sr (bk [0] F H rfl trivial ?_); clear F; intro a F
 refine nl (wr (tr (br (tr (tr ?_))))); cases hm; refine ⟨_, rfl, ?_⟩; rintro rfl
 refine br (tr ?_)
 replace hm := elimR hm84
 refine tr ?_
 cases hm
 refine x_ret1 F rfl rfl ?_
 exact ⟨_, rfl, rfl, (H.pm 18 [] rfl:)⟩
 replace hm := ifT hg160 hm
 refine sk (ct (rl (bk [0, 0, 0, 0] F H rfl trivial ?_))); clear F; intro a F
 refine lz (bn (ct (rl (bk [0, 0] F H rfl trivial ?_)))); clear F; intro a F
 refine lz (ct ?_); cases hm
 exact ⟨_, rfl, ⟨p146, c146, p150, c150, F.sl rfl, (H.pm 18 [15, 9, 4] rfl:)⟩⟩
 replace hm := ifF hg138 hm
 refine ex (cx (cx ?_)); cases hm; refine ⟨_, rfl, ?_⟩; rintro rfl
 refine ch (ct ?_)
 exact ⟨_, rfl, F.cut _ trivial, (H.pm 3 [] rfl:)⟩
 clear F H hm
 rintro a w ⟨r84, rfl, F, H⟩; have hm := elimL hm84; clear hm84
 refine ct (sr (bk [0] F H rfl trivial ?_)); clear F; intro a F
 refine nl (wr ?_)
 cases hm
 refine x_ret1 F rfl rfl ?_
 exact ⟨_, rfl, rfl, H⟩
end Go.Proofs.YtohmcgmmphpgoaaGreatDoor
