/- laws -/
import Derived.Test.YtohmcgmmphpgoaaGreatDoorLawA
set_option linter.unusedSimpArgs false
set_option linter.unusedVariables false
namespace Go.Proofs.YtohmcgmmphpgoaaGreatDoor
open Go.RowKit Go.Tri
theorem ent10 : ∀ args w, (callFunc 10 args).run Tryz.prog w = .ok (.enter 10 args) w := enters Tryz.func10 (by kernel_rfl) rfl
theorem ent11 : ∀ args w, (callFunc 11 args).run Tryz.prog w = .ok (.enter 11 args) w := enters Tryz.func11 (by kernel_rfl) rfl
theorem ent15 : ∀ args w, (callFunc 15 args).run Tryz.prog w = .ok (.enter 15 args) w := enters Tryz.func15 (by kernel_rfl) rfl
theorem ent18 : ∀ args w, (callFunc 18 args).run Tryz.prog w = .ok (.enter 18 args) w := enters Tryz.func18 (by kernel_rfl) rfl
theorem ent19 : ∀ args w, (callFunc 19 args).run Tryz.prog w = .ok (.enter 19 args) w := enters Tryz.func19 (by kernel_rfl) rfl
set_option maxRecDepth 100000 in
set_option maxHeartbeats 4000000 in
theorem w_lErrors {ps : List T_api_Pair} {o : T_api_Op} {p1 : Option Addr} {c1 : Nat} {cs2 : List Value} {w0 w : World} {l : List HP}  {r : Bool} (hm : lErrors ps o = some r) (H : St w0 w (HP.sl R_api_Pair p1 c1 ps :: HP.rc R_api_Op cs2 o :: l)) :
  Calls Tryz.prog 7 [.slice p1 (ps).length c1, .agg cs2.toArray].toArray w (fun e w' => ∃ v, e = .returned v ∧ v = .bool (r) ∧ St w0 w' (l)) := by
 unfold lErrors at hm
 refine x_enter Tryz.func7 rfl rfl rfl ?_
 intro a F
 refine sr (s_boxA wkP F rfl rfl rfl rfl rfl H ?_); clear F H; intro b3 w a H F
 refine bk [0] F H rfl trivial ?_; clear F; intro a F
 replace H := H.nf 3 rfl
 refine nl (sq (sr ?_))
 obtain ⟨x4, ex4, hm⟩ := ob hm
 refine sc wkP F rfl ent10 (w_lSpeaks ex4 H:) ?_; clear F H; rintro _ w a ⟨rfl, H⟩ F
 refine bk [0] F H rfl trivial ?_; clear F; intro a F
 replace H := H.nf 3 rfl
 refine nl (cB F rfl (fun hg5 => ?_) (fun hg5 => ?_))
 replace hm := ifT hg5 hm
 refine sr (bk [0] F H rfl trivial ?_); clear F; intro a F
 refine nl (wr (tr ?_))
 cases hm
 refine x_ret1 F rfl rfl ?_
 exact ⟨_, rfl, rfl, (H.pm 3 [] rfl:)⟩
 replace hm := ifF (nT hg5) hm
 refine sk (ct (sq (sr (bk [0, 999] F H rfl ⟨rfl, (aggn agg25 (H.rcLen 2 rfl)), trivial⟩ ?_)))); clear F; intro a F
 obtain ⟨x6, ex6, hm⟩ := ob hm
 refine sc wkP F rfl ent11 (w_lGreat ex6 (H.pm 3 [1, 2, 0, 1, 2] rfl:):) ?_; clear F H; rintro _ w a ⟨rfl, H⟩ F
 refine bk [0] F H rfl trivial ?_; clear F; intro a F
 by_cases hg7 : x6 = true
 replace hm := ifT hg7 hm
 replace F := F.vT 14 hg7 rfl
 refine bk [0, 0, 0, 0] F H rfl trivial ?_; clear F; intro a F
 replace H := H.nf 3 rfl
 refine nl (cT F rfl ?_)
 refine sr (bk [0] F H rfl trivial ?_); clear F; intro a F
 refine nl (wr (tr ?_))
 cases hm
 refine x_ret1 F rfl rfl ?_
 exact ⟨_, rfl, rfl, (H.pm 3 [] rfl:)⟩
 replace hm := ifF hg7 hm
 replace F := F.vF 14 hg7 rfl
 refine bk [0] F H rfl trivial ?_; clear F; intro a F
 refine g_onP F rfl rfl rfl rfl ?_
 obtain ⟨x8, ex8, hm⟩ := ob hm
 refine sc wkP F rfl ent15 (w_fCheck ex8 (H.pm 3 [1, 0, 1, 2] rfl:):) ?_; clear F H; rintro _ w a ⟨rfl, H⟩ F
 refine bk [0, 0] F H rfl trivial ?_; clear F; intro a F
 replace H := H.nf 3 rfl
 refine nl (cN F rfl (fun hg9 => ?_) (fun hg9 => ?_))
 replace hm := ifF hg9 hm
 refine sr (bk [0] F H rfl trivial ?_); clear F; intro a F
 refine nl (wr (tr ?_))
 cases hm
 refine x_ret1 F rfl rfl ?_
 exact ⟨_, rfl, rfl, (H.pm 3 [] rfl:)⟩
 replace hm := ifT hg9 hm
 refine sk (ct (sr (bk [0, 999] F H rfl ⟨rfl, (aggn agg25 (H.rcLen 2 rfl)), trivial⟩ ?_))); clear F; intro a F
 obtain ⟨x10, ex10, hm⟩ := ob hm
 refine sc wkP F rfl ent16 (w_fDo ex10 (H.pm 3 [1, 2, 0, 1, 2] rfl:):) ?_; clear F H; rintro _ w a ⟨p11, c11, cs12, rfl, H⟩ F
 refine bk [0, 0, 0] F H rfl trivial ?_; clear F; intro a F
 replace H := H.owNil rByte 5
 replace H := H.owNil rStr 9
 refine s_allocA wkP F rfl rfl rfl agz37 rfl H ?_; clear F H; intro b13 w a H F
 refine bk [0] F H rfl trivial ?_; clear F; intro a F
 refine s_storeA wkP F rfl rfl agg37 rfl rfl rfl H 0 rfl (H.rcLen 4 rfl) (by simp only [List.length_append, List.length_cons, List.length_nil, icells_length, bcells_length]) (H.rcFlat 4 rfl) ?_; clear H; intro w H
 replace H := H.nf 8 rfl
 refine nl (sr (bk [0] F H rfl ⟨fld25_0, trivial⟩ ?_)); clear F; intro a F
 replace H := rc_api_Op (H.pk 7 rfl); obtain ⟨p14, c15, rfl, H⟩ := H
 refine bk [6000, 0, 0] F H rfl ⟨rfl, plain3, trivial⟩ ?_; clear F; intro a F
 by_cases hg16 : o.1 = 5
 replace hm := ifT hg16 hm
 replace F := F.bT 28 hg16 rfl
 refine bk (List.replicate 10 0) F H rfl trivial ?_; clear F; intro a F
 refine nl (sq (sr (bk (List.replicate 7 0) F H rfl trivial ?_))); clear F; intro a F
 refine nl (cF F rfl ?_)
 refine sk (ct (sr (bk [1999, 0] F H rfl ⟨rfl, (aggn agg37 (H.rcLen 5 rfl)), fld37_0, trivial⟩ ?_))); clear F; intro a F
 replace H := rc_api_Answer (H.pk 5 rfl); obtain ⟨p17, c18, p19, c20, rfl, H⟩ := H
 refine bk [3000] F H rfl ⟨rfl, plain33, trivial⟩ ?_; clear F; intro a F
 replace H := H.owNil rByte 5
 replace H := H.owNil rStr 9
 refine s_val wkP F rfl rfl rfl rfl (y_build F rfl rfl (cs := [.int .i64 (x10.2.1), .int .i64 (0), .slice none (([] : List UInt8)).length 0, .slice none (([] : List (List UInt8))).length 0]) (by kernel_rfl)) ?_; clear F; intro a F
 replace H := H.mkRc (R := R_api_Answer) (cs := [.int .i64 (x10.2.1), .int .i64 (x10.2.2.1), .slice p17 (x10.2.2.2.1).length c18, .slice p19 (x10.2.2.2.2).length c20]) (x := (x10.2.1, x10.2.2.1, x10.2.2.2.1, x10.2.2.2.2)) (fun gg => ⟨_, _, rfl, rfl, ⟨_, _, rfl, rfl, ⟨_, _, rfl, ⟨_, _, rfl, (gg 2 _ rfl).choose_spec⟩, ⟨_, _, rfl, (gg 3 _ rfl).choose_spec⟩⟩⟩⟩)
 replace H := H.frz 2 rfl
 replace H := H.frz 2 rfl
 replace H := H.mkRc (R := R_api_Answer) (cs := [.int .i64 (x10.2.1), .int .i64 (0), .slice none (([] : List UInt8)).length 0, .slice none (([] : List (List UInt8))).length 0]) (x := (x10.2.1, 0, ([] : List UInt8), ([] : List (List UInt8)))) (fun gg => ⟨_, _, rfl, rfl, ⟨_, _, rfl, rfl, ⟨_, _, rfl, ⟨_, _, rfl, (gg 1 _ rfl).choose_spec⟩, ⟨_, _, rfl, (gg 0 _ rfl).choose_spec⟩⟩⟩⟩)
 obtain ⟨x21, ex21, hm⟩ := ob hm
 refine sc wkP F rfl ent18 (w_rSameAns ex21 (H.pm 13 [3, 0, 0, 1, 2, 3, 4, 5, 6, 7, 8, 9, 10, 11, 12] rfl:):) ?_; clear F H; rintro _ w a ⟨rfl, H⟩ F
 refine bk [0] F H rfl trivial ?_; clear F; intro a F
 replace H := H.nf 13 rfl
 refine nl (sr (bk [0, 0] F H rfl trivial ?_)); clear F; intro a F
 obtain ⟨x22, ex22, hm⟩ := ob hm
 refine sc wkP F rfl ent19 (w_rSamePairs ex22 (H.pm 13 [10, 12, 0, 1, 2, 3, 4, 5, 6, 7, 8, 9, 10, 11, 12] rfl:):) ?_; clear F H; rintro _ w a ⟨rfl, H⟩ F
 refine bk [0] F H rfl trivial ?_; clear F; intro a F
 by_cases hg23 : x22 = true
 replace hm := ifT hg23 hm
 replace F := F.vT 56 hg23 rfl
 refine bk [0, 7000, 0, 0] F H rfl ⟨fld37_0, rfl, plain33, trivial⟩ ?_; clear F; intro a F
 by_cases hg24 : x10.2.1 = 0
 replace hm := ifT hg24 hm
 replace F := F.bT 60 hg24 rfl
 refine bk [0, 0, 0, 0] F H rfl trivial ?_; clear F; intro a F
 replace H := H.nf 13 rfl
 refine nl (wr ?_)
 cases hm
 refine x_ret1 F rfl rfl ?_
 exact ⟨_, rfl, rfl, (H.pm 13 [] rfl:)⟩
 replace hm := ifF hg24 hm
 replace F := F.bF 60 hg24 rfl
 refine bk [0, 0, 0, 0] F H rfl trivial ?_; clear F; intro a F
 replace H := H.nf 13 rfl
 refine nl (wr ?_)
 cases hm
 refine x_ret1 F rfl rfl ?_
 exact ⟨_, rfl, rfl, (H.pm 13 [] rfl:)⟩
 replace hm := ifF hg23 hm
 replace F := F.vF 56 hg23 rfl
 refine bk (List.replicate 8 0) F H rfl trivial ?_; clear F; intro a F
 replace H := H.nf 13 rfl
 refine nl (wr ?_)
 cases hm
 refine x_ret1 F rfl rfl ?_
 exact ⟨_, rfl, rfl, (H.pm 13 [] rfl:)⟩
 replace hm := ifF hg16 hm
 replace F := F.bF 28 hg16 rfl
 refine bk [0, 6000, 0, 0, 0] F H rfl ⟨fld25_0, rfl, plain3, trivial⟩ ?_; clear F; intro a F
 by_cases hg25 : o.1 = 8
 replace hm := ifT hg25 hm
 replace F := F.bT 33 hg25 rfl
 refine bk (List.replicate 5 0) F H rfl trivial ?_; clear F; intro a F
 refine nl (sq (sr (bk (List.replicate 7 0) F H rfl trivial ?_))); clear F; intro a F
 refine nl (cF F rfl ?_)
 refine sk (ct (sr (bk [1999, 0] F H rfl ⟨rfl, (aggn agg37 (H.rcLen 5 rfl)), fld37_0, trivial⟩ ?_))); clear F; intro a F
 replace H := rc_api_Answer (H.pk 5 rfl); obtain ⟨p26, c27, p28, c29, rfl, H⟩ := H
 refine bk [3000] F H rfl ⟨rfl, plain33, trivial⟩ ?_; clear F; intro a F
 replace H := H.owNil rByte 5
 replace H := H.owNil rStr 9
 refine s_val wkP F rfl rfl rfl rfl (y_build F rfl rfl (cs := [.int .i64 (x10.2.1), .int .i64 (0), .slice none (([] : List UInt8)).length 0, .slice none (([] : List (List UInt8))).length 0]) (by kernel_rfl)) ?_; clear F; intro a F
 replace H := H.mkRc (R := R_api_Answer) (cs := [.int .i64 (x10.2.1), .int .i64 (x10.2.2.1), .slice p26 (x10.2.2.2.1).length c27, .slice p28 (x10.2.2.2.2).length c29]) (x := (x10.2.1, x10.2.2.1, x10.2.2.2.1, x10.2.2.2.2)) (fun gg => ⟨_, _, rfl, rfl, ⟨_, _, rfl, rfl, ⟨_, _, rfl, ⟨_, _, rfl, (gg 2 _ rfl).choose_spec⟩, ⟨_, _, rfl, (gg 3 _ rfl).choose_spec⟩⟩⟩⟩)
 replace H := H.frz 2 rfl
 replace H := H.frz 2 rfl
 replace H := H.mkRc (R := R_api_Answer) (cs := [.int .i64 (x10.2.1), .int .i64 (0), .slice none (([] : List UInt8)).length 0, .slice none (([] : List (List UInt8))).length 0]) (x := (x10.2.1, 0, ([] : List UInt8), ([] : List (List UInt8)))) (fun gg => ⟨_, _, rfl, rfl, ⟨_, _, rfl, rfl, ⟨_, _, rfl, ⟨_, _, rfl, (gg 1 _ rfl).choose_spec⟩, ⟨_, _, rfl, (gg 0 _ rfl).choose_spec⟩⟩⟩⟩)
 obtain ⟨x30, ex30, hm⟩ := ob hm
 refine sc wkP F rfl ent18 (w_rSameAns ex30 (H.pm 13 [3, 0, 0, 1, 2, 3, 4, 5, 6, 7, 8, 9, 10, 11, 12] rfl:):) ?_; clear F H; rintro _ w a ⟨rfl, H⟩ F
 refine bk [0] F H rfl trivial ?_; clear F; intro a F
 replace H := H.nf 13 rfl
 refine nl (sr (bk [0, 0] F H rfl trivial ?_)); clear F; intro a F
 obtain ⟨x31, ex31, hm⟩ := ob hm
 refine sc wkP F rfl ent19 (w_rSamePairs ex31 (H.pm 13 [10, 12, 0, 1, 2, 3, 4, 5, 6, 7, 8, 9, 10, 11, 12] rfl:):) ?_; clear F H; rintro _ w a ⟨rfl, H⟩ F
 refine bk [0] F H rfl trivial ?_; clear F; intro a F
 by_cases hg32 : x31 = true
 replace hm := ifT hg32 hm
 replace F := F.vT 56 hg32 rfl
 refine bk [0, 7000, 0, 0] F H rfl ⟨fld37_0, rfl, plain33, trivial⟩ ?_; clear F; intro a F
 by_cases hg33 : x10.2.1 = 0
 replace hm := ifT hg33 hm
 replace F := F.bT 60 hg33 rfl
 refine bk [0, 0, 0, 0] F H rfl trivial ?_; clear F; intro a F
 replace H := H.nf 13 rfl
 refine nl (wr ?_)
 cases hm
 refine x_ret1 F rfl rfl ?_
 exact ⟨_, rfl, rfl, (H.pm 13 [] rfl:)⟩
 replace hm := ifF hg33 hm
 replace F := F.bF 60 hg33 rfl
 refine bk [0, 0, 0, 0] F H rfl trivial ?_; clear F; intro a F
 replace H := H.nf 13 rfl
 refine nl (wr ?_)
 cases hm
 refine x_ret1 F rfl rfl ?_
 exact ⟨_, rfl, rfl, (H.pm 13 [] rfl:)⟩
 replace hm := ifF hg32 hm
 replace F := F.vF 56 hg32 rfl
 refine bk (List.replicate 8 0) F H rfl trivial ?_; clear F; intro a F
 replace H := H.nf 13 rfl
 refine nl (wr ?_)
 cases hm
 refine x_ret1 F rfl rfl ?_
 exact ⟨_, rfl, rfl, (H.pm 13 [] rfl:)⟩
 replace hm := ifF hg25 hm
 replace F := F.bF 33 hg25 rfl
 refine bk [0, 6000, 0, 0, 0] F H rfl ⟨fld25_0, rfl, plain3, trivial⟩ ?_; clear F; intro a F
 refine nl (sq (sr (bk [0, 0, 0] F H rfl trivial ?_))); clear F; intro a F
 by_cases hg34 : o.1 = 9
 replace hm := ifT hg34 hm
 replace F := F.nT 40 hg34 rfl
 refine bk [0, 0, 0, 0] F H rfl trivial ?_; clear F; intro a F
 refine nl (cF F rfl ?_)
 refine sk (ct (sr (bk [1999, 0] F H rfl ⟨rfl, (aggn agg37 (H.rcLen 5 rfl)), fld37_0, trivial⟩ ?_))); clear F; intro a F
 replace H := rc_api_Answer (H.pk 5 rfl); obtain ⟨p35, c36, p37, c38, rfl, H⟩ := H
 refine bk [3000] F H rfl ⟨rfl, plain33, trivial⟩ ?_; clear F; intro a F
 replace H := H.owNil rByte 5
 replace H := H.owNil rStr 9
 refine s_val wkP F rfl rfl rfl rfl (y_build F rfl rfl (cs := [.int .i64 (x10.2.1), .int .i64 (0), .slice none (([] : List UInt8)).length 0, .slice none (([] : List (List UInt8))).length 0]) (by kernel_rfl)) ?_; clear F; intro a F
 replace H := H.mkRc (R := R_api_Answer) (cs := [.int .i64 (x10.2.1), .int .i64 (x10.2.2.1), .slice p35 (x10.2.2.2.1).length c36, .slice p37 (x10.2.2.2.2).length c38]) (x := (x10.2.1, x10.2.2.1, x10.2.2.2.1, x10.2.2.2.2)) (fun gg => ⟨_, _, rfl, rfl, ⟨_, _, rfl, rfl, ⟨_, _, rfl, ⟨_, _, rfl, (gg 2 _ rfl).choose_spec⟩, ⟨_, _, rfl, (gg 3 _ rfl).choose_spec⟩⟩⟩⟩)
 replace H := H.frz 2 rfl
 replace H := H.frz 2 rfl
 replace H := H.mkRc (R := R_api_Answer) (cs := [.int .i64 (x10.2.1), .int .i64 (0), .slice none (([] : List UInt8)).length 0, .slice none (([] : List (List UInt8))).length 0]) (x := (x10.2.1, 0, ([] : List UInt8), ([] : List (List UInt8)))) (fun gg => ⟨_, _, rfl, rfl, ⟨_, _, rfl, rfl, ⟨_, _, rfl, ⟨_, _, rfl, (gg 1 _ rfl).choose_spec⟩, ⟨_, _, rfl, (gg 0 _ rfl).choose_spec⟩⟩⟩⟩)
 obtain ⟨x39, ex39, hm⟩ := ob hm
 refine sc wkP F rfl ent18 (w_rSameAns ex39 (H.pm 13 [3, 0, 0, 1, 2, 3, 4, 5, 6, 7, 8, 9, 10, 11, 12] rfl:):) ?_; clear F H; rintro _ w a ⟨rfl, H⟩ F
 refine bk [0] F H rfl trivial ?_; clear F; intro a F
 replace H := H.nf 13 rfl
 refine nl (sr (bk [0, 0] F H rfl trivial ?_)); clear F; intro a F
 obtain ⟨x40, ex40, hm⟩ := ob hm
 refine sc wkP F rfl ent19 (w_rSamePairs ex40 (H.pm 13 [10, 12, 0, 1, 2, 3, 4, 5, 6, 7, 8, 9, 10, 11, 12] rfl:):) ?_; clear F H; rintro _ w a ⟨rfl, H⟩ F
 refine bk [0] F H rfl trivial ?_; clear F; intro a F
 by_cases hg41 : x40 = true
 replace hm := ifT hg41 hm
 replace F := F.vT 56 hg41 rfl
 refine bk [0, 7000, 0, 0] F H rfl ⟨fld37_0, rfl, plain33, trivial⟩ ?_; clear F; intro a F
 by_cases hg42 : x10.2.1 = 0
 replace hm := ifT hg42 hm
 replace F := F.bT 60 hg42 rfl
 refine bk [0, 0, 0, 0] F H rfl trivial ?_; clear F; intro a F
 replace H := H.nf 13 rfl
 refine nl (wr ?_)
 cases hm
 refine x_ret1 F rfl rfl ?_
 exact ⟨_, rfl, rfl, (H.pm 13 [] rfl:)⟩
 replace hm := ifF hg42 hm
 replace F := F.bF 60 hg42 rfl
 refine bk [0, 0, 0, 0] F H rfl trivial ?_; clear F; intro a F
 replace H := H.nf 13 rfl
 refine nl (wr ?_)
 cases hm
 refine x_ret1 F rfl rfl ?_
 exact ⟨_, rfl, rfl, (H.pm 13 [] rfl:)⟩
 replace hm := ifF hg41 hm
 replace F := F.vF 56 hg41 rfl
 refine bk (List.replicate 8 0) F H rfl trivial ?_; clear F; intro a F
 replace H := H.nf 13 rfl
 refine nl (wr ?_)
 cases hm
 refine x_ret1 F rfl rfl ?_
 exact ⟨_, rfl, rfl, (H.pm 13 [] rfl:)⟩
 replace hm := ifF hg34 hm
 replace F := F.nF 40 hg34 rfl
 refine bk [0] F H rfl ⟨fld37_0, trivial⟩ ?_; clear F; intro a F
 refine g_onP F rfl rfl rfl rfl ?_
 replace H := rc_api_Answer (H.pk 5 rfl); obtain ⟨p43, c44, p45, c46, rfl, H⟩ := H
 refine bk [3000, 0, 0] F H rfl ⟨rfl, plain33, trivial⟩ ?_; clear F; intro a F
 refine nl (cP F rfl (fun hg47 => ?_) (fun hg47 => ?_))
 replace hm := ifT hg47 hm
 refine sr (bk [0] F H rfl trivial ?_); clear F; intro a F
 obtain ⟨x48, ex48, hm⟩ := ob hm
 refine sc wkP F rfl ent15 (w_fCheck ex48 (H.pm 9 [6, 0, 1, 2, 3, 4, 5, 6, 7, 8] rfl:):) ?_; clear F H; rintro _ w a ⟨rfl, H⟩ F
 refine bk [0, 0] F H rfl trivial ?_; clear F; intro a F
 replace H := H.nf 9 rfl
 refine nl (wr (tr ?_))
 cases hm
 refine x_ret1 F rfl rfl ?_
 exact ⟨_, rfl, rfl, (H.pm 9 [] rfl:)⟩
 replace hm := ifF hg47 hm
 refine sk (ct (sr (bk [3999, 0, 3000] F H rfl ⟨rfl, (aggn agg37 (by simp only [List.length_append, List.length_cons, List.length_nil, icells_length, bcells_length])), fld37_0, rfl, plain33, trivial⟩ ?_))); clear F; intro a F
 replace H := H.owNil rByte 5
 replace H := H.owNil rStr 9
 refine s_val wkP F rfl rfl rfl rfl (y_build F rfl rfl (cs := [.int .i64 (x10.2.1), .int .i64 (0), .slice none (([] : List UInt8)).length 0, .slice none (([] : List (List UInt8))).length 0]) (by kernel_rfl)) ?_; clear F; intro a F
 replace H := H.mkRc (R := R_api_Answer) (cs := [.int .i64 (x10.2.1), .int .i64 (x10.2.2.1), .slice p43 (x10.2.2.2.1).length c44, .slice p45 (x10.2.2.2.2).length c46]) (x := (x10.2.1, x10.2.2.1, x10.2.2.2.1, x10.2.2.2.2)) (fun gg => ⟨_, _, rfl, rfl, ⟨_, _, rfl, rfl, ⟨_, _, rfl, ⟨_, _, rfl, (gg 2 _ rfl).choose_spec⟩, ⟨_, _, rfl, (gg 3 _ rfl).choose_spec⟩⟩⟩⟩)
 replace H := H.frz 2 rfl
 replace H := H.frz 2 rfl
 replace H := H.mkRc (R := R_api_Answer) (cs := [.int .i64 (x10.2.1), .int .i64 (0), .slice none (([] : List UInt8)).length 0, .slice none (([] : List (List UInt8))).length 0]) (x := (x10.2.1, 0, ([] : List UInt8), ([] : List (List UInt8)))) (fun gg => ⟨_, _, rfl, rfl, ⟨_, _, rfl, rfl, ⟨_, _, rfl, ⟨_, _, rfl, (gg 1 _ rfl).choose_spec⟩, ⟨_, _, rfl, (gg 0 _ rfl).choose_spec⟩⟩⟩⟩)
 obtain ⟨x49, ex49, hm⟩ := ob hm
 refine sc wkP F rfl ent18 (w_rSameAns ex49 (H.pm 13 [3, 0, 0, 1, 2, 3, 4, 5, 6, 7, 8, 9, 10, 11, 12] rfl:):) ?_; clear F H; rintro _ w a ⟨rfl, H⟩ F
 refine bk [0] F H rfl trivial ?_; clear F; intro a F
 replace H := H.nf 13 rfl
 refine nl (sr (bk [0, 0] F H rfl trivial ?_)); clear F; intro a F
 obtain ⟨x50, ex50, hm⟩ := ob hm
 refine sc wkP F rfl ent19 (w_rSamePairs ex50 (H.pm 13 [10, 12, 0, 1, 2, 3, 4, 5, 6, 7, 8, 9, 10, 11, 12] rfl:):) ?_; clear F H; rintro _ w a ⟨rfl, H⟩ F
 refine bk [0] F H rfl trivial ?_; clear F; intro a F
 by_cases hg51 : x50 = true
 replace hm := ifT hg51 hm
 replace F := F.vT 56 hg51 rfl
 refine bk [0, 7000, 0, 0] F H rfl ⟨fld37_0, rfl, plain33, trivial⟩ ?_; clear F; intro a F
 by_cases hg52 : x10.2.1 = 0
 replace hm := ifT hg52 hm
 replace F := F.bT 60 hg52 rfl
 refine bk [0, 0, 0, 0] F H rfl trivial ?_; clear F; intro a F
 replace H := H.nf 13 rfl
 refine nl (wr ?_)
 cases hm
 refine x_ret1 F rfl rfl ?_
 exact ⟨_, rfl, rfl, (H.pm 13 [] rfl:)⟩
 replace hm := ifF hg52 hm
 replace F := F.bF 60 hg52 rfl
 refine bk [0, 0, 0, 0] F H rfl trivial ?_; clear F; intro a F
 replace H := H.nf 13 rfl
 refine nl (wr ?_)
 cases hm
 refine x_ret1 F rfl rfl ?_
 exact ⟨_, rfl, rfl, (H.pm 13 [] rfl:)⟩
 replace hm := ifF hg51 hm
 replace F := F.vF 56 hg51 rfl
 refine bk (List.replicate 8 0) F H rfl trivial ?_; clear F; intro a F
 replace H := H.nf 13 rfl
 refine nl (wr ?_)
 cases hm
 refine x_ret1 F rfl rfl ?_
 exact ⟨_, rfl, rfl, (H.pm 13 [] rfl:)⟩
set_option maxRecDepth 100000 in
set_option maxHeartbeats 4000000 in
theorem w_lMoves {ps : List T_api_Pair} {fr : List UInt8} {tt : List UInt8} {p1 : Option Addr} {c1 : Nat} {w0 w : World} {l : List HP}  {r : Bool} (hm : lMoves ps fr tt = some r) (H : St w0 w (HP.sl R_api_Pair p1 c1 ps :: l)) :
  Calls Tryz.prog 6 [.slice p1 (ps).length c1, .string (txb (fr)), .string (txb (tt))].toArray w (fun e w' => ∃ v, e = .returned v ∧ v = .bool (r) ∧ St w0 w' (l)) := by
 unfold lMoves at hm
 refine x_enter Tryz.func6 rfl rfl rfl ?_
 intro a F
 refine sr (bk [0] F H rfl trivial ?_); clear F; intro a F
 refine nl (sq (sr ?_))
 obtain ⟨x2, ex2, hm⟩ := ob hm
 refine sc wkP F rfl ent10 (w_lSpeaks ex2 H:) ?_; clear F H; rintro _ w a ⟨rfl, H⟩ F
 refine bk [0] F H rfl trivial ?_; clear F; intro a F
 replace H := H.nf 1 rfl
 refine nl (cB F rfl (fun hg3 => ?_) (fun hg3 => ?_))
 replace hm := ifT hg3 hm
 refine sr (bk [0] F H rfl trivial ?_); clear F; intro a F
 refine nl (wr (tr ?_))
 cases hm
 refine x_ret1 F rfl rfl ?_
 exact ⟨_, rfl, rfl, (H.pm 1 [] rfl:)⟩
 replace hm := ifF (nT hg3) hm
 refine sk (ct (sq (sr (bk [0, 0, 0] F H rfl trivial ?_)))); clear F; intro a F
 replace H := H.owNil rByte 5
 refine s_val wkP F rfl rfl rfl rfl (y_build F rfl rfl (cs := [.int .i64 (0), .string (txb (fr)), .string (txb (tt)), .int .i64 (0), .int .i64 (0), .slice none (([] : List UInt8)).length 0]) (by kernel_rfl)) ?_; clear F; intro a F
 replace H := H.frz 0 rfl
 replace H := H.mkRc (R := R_api_Op) (cs := [.int .i64 (0), .string (txb (fr)), .string (txb (tt)), .int .i64 (0), .int .i64 (0), .slice none (([] : List UInt8)).length 0]) (x := (0, fr, tt, 0, 0, ([] : List UInt8))) (fun gg => ⟨_, _, rfl, rfl, ⟨_, _, rfl, rfl, ⟨_, _, rfl, rfl, ⟨_, _, rfl, rfl, ⟨_, _, rfl, rfl, ⟨_, _, rfl, (gg 0 _ rfl).choose_spec⟩⟩⟩⟩⟩⟩)
 obtain ⟨x4, ex4, hm⟩ := ob hm
 refine sc wkP F rfl ent11 (w_lGreat ex4 (H.pm 3 [2, 0, 0, 1, 2] rfl:):) ?_; clear F H; rintro _ w a ⟨rfl, H⟩ F
 refine bk [0] F H rfl trivial ?_; clear F; intro a F
 by_cases hg5 : x4 = true
 replace hm := ifT hg5 hm
 replace F := F.vT 20 hg5 rfl
 refine bk [0, 0, 0, 0] F H rfl trivial ?_; clear F; intro a F
 replace H := H.nf 3 rfl
 refine nl (cT F rfl ?_)
 refine sr (bk [0] F H rfl trivial ?_); clear F; intro a F
 refine nl (wr (tr ?_))
 cases hm
 refine x_ret1 F rfl rfl ?_
 exact ⟨_, rfl, rfl, (H.pm 3 [] rfl:)⟩
 replace hm := ifF hg5 hm
 replace F := F.vF 20 hg5 rfl
 refine bk [0] F H rfl trivial ?_; clear F; intro a F
 refine g_onP F rfl rfl rfl rfl ?_
 obtain ⟨x6, ex6, hm⟩ := ob hm
 refine sc wkP F rfl ent15 (w_fCheck ex6 (H.pm 3 [2, 0, 1, 2] rfl:):) ?_; clear F H; rintro _ w a ⟨rfl, H⟩ F
 refine bk [0, 0] F H rfl trivial ?_; clear F; intro a F
 replace H := H.nf 3 rfl
 refine nl (cN F rfl (fun hg7 => ?_) (fun hg7 => ?_))
 replace hm := ifF hg7 hm
 refine sr (bk [0] F H rfl trivial ?_); clear F; intro a F
 refine nl (wr (tr ?_))
 cases hm
 refine x_ret1 F rfl rfl ?_
 exact ⟨_, rfl, rfl, (H.pm 3 [] rfl:)⟩
 replace hm := ifT hg7 hm
 refine sk (ct (sr (bk [0, 0, 0] F H rfl trivial ?_))); clear F; intro a F
 replace H := H.owNil rByte 5
 refine s_val wkP F rfl rfl rfl rfl (y_build F rfl rfl (cs := [.int .i64 (6), .string (txb (fr)), .string (txb (tt)), .int .i64 (0), .int .i64 (0), .slice none (([] : List UInt8)).length 0]) (by kernel_rfl)) ?_; clear F; intro a F
 replace H := H.frz 0 rfl
 replace H := H.mkRc (R := R_api_Op) (cs := [.int .i64 (6), .string (txb (fr)), .string (txb (tt)), .int .i64 (0), .int .i64 (0), .slice none (([] : List UInt8)).length 0]) (x := (6, fr, tt, 0, 0, ([] : List UInt8))) (fun gg => ⟨_, _, rfl, rfl, ⟨_, _, rfl, rfl, ⟨_, _, rfl, rfl, ⟨_, _, rfl, rfl, ⟨_, _, rfl, rfl, ⟨_, _, rfl, (gg 0 _ rfl).choose_spec⟩⟩⟩⟩⟩⟩)
 obtain ⟨x8, ex8, hm⟩ := ob hm
 refine sc wkP F rfl ent16 (w_fDo ex8 (H.pm 5 [4, 0, 0, 1, 2, 3, 4] rfl:):) ?_; clear F H; rintro _ w a ⟨p9, c9, cs10, rfl, H⟩ F
 refine bk [0, 0, 0] F H rfl trivial ?_; clear F; intro a F
 replace H := H.owNil rByte 5
 replace H := H.owNil rStr 9
 refine s_allocA wkP F rfl rfl rfl agz37 rfl H ?_; clear F H; intro b11 w a H F
 refine bk [0] F H rfl trivial ?_; clear F; intro a F
 refine s_storeA wkP F rfl rfl agg37 rfl rfl rfl H 0 rfl (H.rcLen 4 rfl) (by simp only [List.length_append, List.length_cons, List.length_nil, icells_length, bcells_length]) (H.rcFlat 4 rfl) ?_; clear H; intro w H
 replace H := H.nf 10 rfl
 refine nl (sq (sr (bk [0] F H rfl ⟨fld37_0, trivial⟩ ?_))); clear F; intro a F
 replace H := rc_api_Answer (H.pk 4 rfl); obtain ⟨p12, c13, p14, c15, rfl, H⟩ := H
 refine bk [2000, 0] F H rfl ⟨rfl, plain33, trivial⟩ ?_; clear F; intro a F
 refine nl (cN F rfl (fun hg16 => ?_) (fun hg16 => ?_))
 replace hm := ifF hg16 hm
 refine sr (bk [0, 0] F H rfl trivial ?_); clear F; intro a F
 obtain ⟨x17, ex17, hm⟩ := ob hm
 refine sc wkP F rfl ent19 (w_rSamePairs ex17 (H.pm 11 [5, 10, 0, 1, 2, 3, 4, 5, 6, 7, 8, 9, 10] rfl:):) ?_; clear F H; rintro _ w a ⟨rfl, H⟩ F
 refine bk [0] F H rfl trivial ?_; clear F; intro a F
 replace H := H.nf 11 rfl
 refine nl (wr (tr ?_))
 cases hm
 refine x_ret1 F rfl rfl ?_
 exact ⟨_, rfl, rfl, (H.pm 11 [] rfl:)⟩
 replace hm := ifT hg16 hm
 refine sk (ct (sr (bk [0, 0, 0] F H rfl trivial ?_))); clear F; intro a F
 replace H := H.owNil rByte 5
 refine s_val wkP F rfl rfl rfl rfl (y_build F rfl rfl (cs := [.int .i64 (6), .string (txb (tt)), .string (txb (fr)), .int .i64 (0), .int .i64 (0), .slice none (([] : List UInt8)).length 0]) (by kernel_rfl)) ?_; clear F; intro a F
 replace H := H.frz 0 rfl
 replace H := H.mkRc (R := R_api_Op) (cs := [.int .i64 (6), .string (txb (tt)), .string (txb (fr)), .int .i64 (0), .int .i64 (0), .slice none (([] : List UInt8)).length 0]) (x := (6, tt, fr, 0, 0, ([] : List UInt8))) (fun gg => ⟨_, _, rfl, rfl, ⟨_, _, rfl, rfl, ⟨_, _, rfl, rfl, ⟨_, _, rfl, rfl, ⟨_, _, rfl, rfl, ⟨_, _, rfl, (gg 0 _ rfl).choose_spec⟩⟩⟩⟩⟩⟩)
 obtain ⟨x18, ex18, hm⟩ := ob hm
 refine sc wkP F rfl ent16 (w_fDo ex18 (H.pm 13 [7, 0, 0, 1, 2, 3, 4, 5, 6, 7, 8, 9, 10, 11, 12] rfl:):) ?_; clear F H; rintro _ w a ⟨p19, c19, cs20, rfl, H⟩ F
 refine bk [0, 0, 0] F H rfl trivial ?_; clear F; intro a F
 replace H := H.owNil rByte 5
 replace H := H.owNil rStr 9
 refine s_allocA wkP F rfl rfl rfl agz37 rfl H ?_; clear F H; intro b21 w a H F
 refine bk [0] F H rfl trivial ?_; clear F; intro a F
 refine s_storeA wkP F rfl rfl agg37 rfl rfl rfl H 0 rfl (H.rcLen 4 rfl) (by simp only [List.length_append, List.length_cons, List.length_nil, icells_length, bcells_length]) (H.rcFlat 4 rfl) ?_; clear H; intro w H
 replace H := H.nf 18 rfl
 refine nl (sr (bk [0, 0] F H rfl trivial ?_)); clear F; intro a F
 replace H := H.owNil rByte 5
 refine s_val wkP F rfl rfl rfl rfl (y_build F rfl rfl (cs := [.int .i64 (9), .string (txb (fr)), .string (txb ([])), .int .i64 (0), .int .i64 (0), .slice none (([] : List UInt8)).length 0]) (by kernel_rfl)) ?_; clear F; intro a F
 replace H := H.frz 0 rfl
 replace H := H.mkRc (R := R_api_Op) (cs := [.int .i64 (9), .string (txb (fr)), .string (txb ([])), .int .i64 (0), .int .i64 (0), .slice none (([] : List UInt8)).length 0]) (x := (9, fr, [], 0, 0, ([] : List UInt8))) (fun gg => ⟨_, _, rfl, rfl, ⟨_, _, rfl, rfl, ⟨_, _, rfl, rfl, ⟨_, _, rfl, rfl, ⟨_, _, rfl, rfl, ⟨_, _, rfl, (gg 0 _ rfl).choose_spec⟩⟩⟩⟩⟩⟩)
 obtain ⟨x22, ex22, hm⟩ := ob hm
 refine sc wkP F rfl ent16 (w_fDo ex22 (H.pm 20 [14, 0, 0, 1, 2, 3, 4, 5, 6, 7, 8, 9, 10, 11, 12, 13, 14, 15, 16, 17, 18, 19] rfl:):) ?_; clear F H; rintro _ w a ⟨p23, c23, cs24, rfl, H⟩ F
 refine bk [0, 0, 0] F H rfl trivial ?_; clear F; intro a F
 replace H := H.owNil rByte 5
 replace H := H.owNil rStr 9
 refine s_allocA wkP F rfl rfl rfl agz37 rfl H ?_; clear F H; intro b25 w a H F
 refine bk [0] F H rfl trivial ?_; clear F; intro a F
 refine s_storeA wkP F rfl rfl agg37 rfl rfl rfl H 0 rfl (H.rcLen 4 rfl) (by simp only [List.length_append, List.length_cons, List.length_nil, icells_length, bcells_length]) (H.rcFlat 4 rfl) ?_; clear H; intro w H
 replace H := H.nf 25 rfl
 refine nl (sr (bk [0] F H rfl ⟨fld37_0, trivial⟩ ?_)); clear F; intro a F
 replace H := rc_api_Answer (H.pk 11 rfl); obtain ⟨p26, c27, p28, c29, rfl, H⟩ := H
 refine bk [9000, 0, 0] F H rfl ⟨rfl, plain33, trivial⟩ ?_; clear F; intro a F
 by_cases hg30 : x18.2.1 = 0
 replace hm := ifT hg30 hm
 replace F := F.bT 57 hg30 rfl
 refine bk [0, 0] F H rfl trivial ?_; clear F; intro a F
 refine g_onP F rfl rfl rfl rfl ?_
 obtain ⟨x31, ex31, hm⟩ := ob hm
 refine sc wkP F rfl ent19 (w_rSamePairs ex31 (H.pm 26 [12, 25, 0, 1, 2, 3, 4, 5, 6, 7, 8, 9, 10, 11, 12, 13, 14, 15, 16, 17, 18, 19, 20, 21, 22, 23, 24, 25] rfl:):) ?_; clear F H; rintro _ w a ⟨rfl, H⟩ F
 refine bk [0, 0] F H rfl trivial ?_; clear F; intro a F
 by_cases hg32 : x31 = true
 replace hm := ifT hg32 hm
 replace F := F.vT 62 hg32 rfl
 refine bk [0] F H rfl ⟨fld37_0, trivial⟩ ?_; clear F; intro a F
 refine g_onP F rfl rfl rfl rfl ?_
 replace H := rc_api_Answer (H.pk 6 rfl); obtain ⟨p33, c34, p35, c36, rfl, H⟩ := H
 refine bk [4000, 0, 0, 0] F H rfl ⟨rfl, plain33, trivial⟩ ?_; clear F; intro a F
 by_cases hg37 : x22.2.1 = 91
 replace hm := ifT hg37 hm
 replace F := F.bT 67 hg37 rfl
 refine bk (List.replicate 7 0) F H rfl ⟨⟨_, Tryz.underlying22⟩, ⟨_, Tryz.underlying22⟩, trivial⟩ ?_; clear F; intro a F
 replace H := H.nf 27 rfl
 refine nl (wr ?_)
 cases hm
 refine x_ret1 F rfl rfl ?_
 exact ⟨_, rfl, rfl, (H.pm 27 [] rfl:)⟩
 replace hm := ifF hg37 hm
 replace F := F.bF 67 hg37 rfl
 refine bk (List.replicate 7 0) F H rfl trivial ?_; clear F; intro a F
 replace H := H.nf 27 rfl
 refine nl (wr ?_)
 cases hm
 refine x_ret1 F rfl rfl ?_
 exact ⟨_, rfl, rfl, (H.pm 27 [] rfl:)⟩
 replace hm := ifF hg32 hm
 replace F := F.vF 62 hg32 rfl
 refine bk (List.replicate 12 0) F H rfl trivial ?_; clear F; intro a F
 replace H := H.nf 26 rfl
 refine nl (wr ?_)
 cases hm
 refine x_ret1 F rfl rfl ?_
 exact ⟨_, rfl, rfl, (H.pm 26 [] rfl:)⟩
 replace hm := ifF hg30 hm
 replace F := F.bF 57 hg30 rfl
 refine bk (List.replicate 17 0) F H rfl trivial ?_; clear F; intro a F
 refine nl (wr ?_)
 cases hm
 refine x_ret1 F rfl rfl ?_
 exact ⟨_, rfl, rfl, (H.pm 26 [] rfl:)⟩
set_option maxRecDepth 100000 in
set_option maxHeartbeats 4000000 in
theorem w_lLists {ps : List T_api_Pair} {p : List UInt8} {p1 : Option Addr} {c1 : Nat} {w0 w : World} {l : List HP}  {r : Bool} (hm : lLists ps p = some r) (H : St w0 w (HP.sl R_api_Pair p1 c1 ps :: l)) :
  Calls Tryz.prog 8 [.slice p1 (ps).length c1, .string (txb (p))].toArray w (fun e w' => ∃ v, e = .returned v ∧ v = .bool (r) ∧ St w0 w' (l)) := by
 unfold lLists at hm
 refine x_enter Tryz.func8 rfl rfl rfl ?_
 intro a F
 refine sr (bk [0] F H rfl trivial ?_); clear F; intro a F
 refine nl (sq (sr ?_))
 obtain ⟨x2, ex2, hm⟩ := ob hm
 refine sc wkP F rfl ent10 (w_lSpeaks ex2 H:) ?_; clear F H; rintro _ w a ⟨rfl, H⟩ F
 refine bk [0] F H rfl trivial ?_; clear F; intro a F
 replace H := H.nf 1 rfl
 refine nl (cB F rfl (fun hg3 => ?_) (fun hg3 => ?_))
 replace hm := ifT hg3 hm
 refine sr (bk [0] F H rfl trivial ?_); clear F; intro a F
 refine nl (wr (tr ?_))
 cases hm
 refine x_ret1 F rfl rfl ?_
 exact ⟨_, rfl, rfl, (H.pm 1 [] rfl:)⟩
 replace hm := ifF (nT hg3) hm
 refine sk (ct (sq (sr (bk [0, 0] F H rfl trivial ?_)))); clear F; intro a F
 replace H := H.owNil rByte 5
 refine s_val wkP F rfl rfl rfl rfl (y_build F rfl rfl (cs := [.int .i64 (0), .string (txb (p)), .string (txb ([])), .int .i64 (0), .int .i64 (0), .slice none (([] : List UInt8)).length 0]) (by kernel_rfl)) ?_; clear F; intro a F
 replace H := H.frz 0 rfl
 replace H := H.mkRc (R := R_api_Op) (cs := [.int .i64 (0), .string (txb (p)), .string (txb ([])), .int .i64 (0), .int .i64 (0), .slice none (([] : List UInt8)).length 0]) (x := (0, p, [], 0, 0, ([] : List UInt8))) (fun gg => ⟨_, _, rfl, rfl, ⟨_, _, rfl, rfl, ⟨_, _, rfl, rfl, ⟨_, _, rfl, rfl, ⟨_, _, rfl, rfl, ⟨_, _, rfl, (gg 0 _ rfl).choose_spec⟩⟩⟩⟩⟩⟩)
 obtain ⟨x4, ex4, hm⟩ := ob hm
 refine sc wkP F rfl ent11 (w_lGreat ex4 (H.pm 3 [2, 0, 0, 1, 2] rfl:):) ?_; clear F H; rintro _ w a ⟨rfl, H⟩ F
 refine bk [0] F H rfl trivial ?_; clear F; intro a F
 by_cases hg5 : x4 = true
 replace hm := ifT hg5 hm
 replace F := F.vT 22 hg5 rfl
 refine bk [0, 0, 0, 0] F H rfl trivial ?_; clear F; intro a F
 replace H := H.nf 3 rfl
 refine nl (cT F rfl ?_)
 refine sr (bk [0] F H rfl trivial ?_); clear F; intro a F
 refine nl (wr (tr ?_))
 cases hm
 refine x_ret1 F rfl rfl ?_
 exact ⟨_, rfl, rfl, (H.pm 3 [] rfl:)⟩
 replace hm := ifF hg5 hm
 replace F := F.vF 22 hg5 rfl
 refine bk [0] F H rfl trivial ?_; clear F; intro a F
 refine g_onP F rfl rfl rfl rfl ?_
 obtain ⟨x6, ex6, hm⟩ := ob hm
 refine sc wkP F rfl ent15 (w_fCheck ex6 (H.pm 3 [2, 0, 1, 2] rfl:):) ?_; clear F H; rintro _ w a ⟨rfl, H⟩ F
 refine bk [0, 0] F H rfl trivial ?_; clear F; intro a F
 replace H := H.nf 3 rfl
 refine nl (cN F rfl (fun hg7 => ?_) (fun hg7 => ?_))
 replace hm := ifF hg7 hm
 refine sr (bk [0] F H rfl trivial ?_); clear F; intro a F
 refine nl (wr (tr ?_))
 cases hm
 refine x_ret1 F rfl rfl ?_
 exact ⟨_, rfl, rfl, (H.pm 3 [] rfl:)⟩
 replace hm := ifT hg7 hm
 refine sk (ct (sr (bk [0, 0, 0] F H rfl trivial ?_))); clear F; intro a F
 refine nl (sq (sr (bk [0] F H rfl trivial ?_))); clear F; intro a F
 refine nl ?_
 obtain ⟨o1587, eo1587, hm1587⟩ := ob hm; clear hm; revert eo1587; intro hm
 refine x_mid (fun aa ww => ∃ r1587, o1587 = Sum.inl r1587 ∧ Fr ⟨101, []⟩ aa [(6, .int .i64 (r1587.1)), (7, .int .i64 (r1587.2))] ∧ St w0 ww (l)) ?_ ?_
 refine bl (x_loopO _ (fun (s2640 : (List UInt8) × Int × Int × Int) aa ww => Fr ⟨101, []⟩ aa [(0, .slice p1 (ps).length c1), (1, .string (txb (p))), (5, .string (txb (s2640.1))), (6, .int .i64 (s2640.2.1)), (7, .int .i64 (s2640.2.2.1)), (8, .int .i64 (s2640.2.2.2))] ∧ St w0 ww (HP.sl R_api_Pair p1 c1 ps :: l)) hm ⟨F.sl rfl, (H.pm 3 [2] rfl:)⟩ ?_)
 clear F H hm
 rintro s2640 a w o ⟨F, H⟩ hm
 refine sq (sr (bk [0, 0] F H rfl trivial ?_)); clear F; intro a F
 refine nl (cP F rfl (fun hg2641 => ?_) (fun hg2641 => ?_))
 replace hm := ifT hg2641 hm
 refine sk (ct (sq (bl (sr (bk [0, 0, 0] F H rfl trivial ?_))))); clear F; intro a F
 replace H := H.owNil rByte 5
 refine s_val wkP F rfl rfl rfl rfl (y_build F rfl rfl (cs := [.int .i64 (8), .string (txb (p)), .string (txb (s2640.1)), .int .i64 (0), .int .i64 (0), .slice none (([] : List UInt8)).length 0]) (by kernel_rfl)) ?_; clear F; intro a F
 replace H := H.frz 0 rfl
 replace H := H.mkRc (R := R_api_Op) (cs := [.int .i64 (8), .string (txb (p)), .string (txb (s2640.1)), .int .i64 (0), .int .i64 (0), .slice none (([] : List UInt8)).length 0]) (x := (8, p, s2640.1, 0, 0, ([] : List UInt8))) (fun gg => ⟨_, _, rfl, rfl, ⟨_, _, rfl, rfl, ⟨_, _, rfl, rfl, ⟨_, _, rfl, rfl, ⟨_, _, rfl, rfl, ⟨_, _, rfl, (gg 0 _ rfl).choose_spec⟩⟩⟩⟩⟩⟩)
 obtain ⟨x2642, ex2642, hm⟩ := ob hm
 refine sc wkP F rfl ent16 (w_fDo ex2642 (H.pm 3 [2, 0, 0, 1, 2] rfl:):) ?_; clear F H; rintro _ w a ⟨p2643, c2643, cs2644, rfl, H⟩ F
 refine bk [0, 0, 0] F H rfl trivial ?_; clear F; intro a F
 replace H := H.owNil rByte 5
 replace H := H.owNil rStr 9
 refine s_allocA wkP F rfl rfl rfl agz37 rfl H ?_; clear F H; intro b2645 w a H F
 refine bk [0] F H rfl trivial ?_; clear F; intro a F
 refine s_storeA wkP F rfl rfl agg37 rfl rfl rfl H 0 rfl (H.rcLen 4 rfl) (by simp only [List.length_append, List.length_cons, List.length_nil, icells_length, bcells_length]) (H.rcFlat 4 rfl) ?_; clear H; intro w H
 replace H := H.nf 8 rfl
 refine nl (sq (sr (bk [0] F H rfl ⟨fld37_0, trivial⟩ ?_))); clear F; intro a F
 replace H := rc_api_Answer (H.pk 4 rfl); obtain ⟨p2646, c2647, p2648, c2649, rfl, H⟩ := H
 refine bk [2000, 0] F H rfl ⟨rfl, plain33, trivial⟩ ?_; clear F; intro a F
 refine nl (cN F rfl (fun hg2650 => ?_) (fun hg2650 => ?_))
 replace hm := ifF hg2650 hm
 refine sr (bk [0, 0, 0] F H rfl trivial ?_); clear F; intro a F
 refine nl (wr (tr (br (tr (tr ?_))))); cases hm; refine ⟨_, rfl, ?_⟩; rintro rfl
 refine br (tr ?_)
 replace hm := elimR hm1587
 refine tr ?_
 cases hm
 refine x_ret1 F rfl rfl ?_
 exact ⟨_, rfl, rfl, (H.pm 9 [] rfl:)⟩
 replace hm := ifT hg2650 hm
 refine sk (ct (sq (sr (bk [0, 0, 0] F H rfl trivial ?_)))); clear F; intro a F
 by_cases hg2651 : 0 ≤ s2640.2.2.1
 replace hm := ifT hg2651 hm
 replace F := F.bT 46 hg2651 rfl
 refine bk [1, 2001, 0, 0, 0, 0] F H rfl ⟨fld37_1, rfl, plain3, trivial⟩ ?_; clear F; intro a F
 by_cases hg2652 : x2642.2.2.1 = s2640.2.2.1
 replace hm := ifT hg2652 hm
 replace F := F.nT 52 hg2652 rfl
 refine bk [3, 2003, 0, 0, 0] F H rfl ⟨fld37_3, rfl, plain35, ⟨_, Tryz.underlying35⟩, trivial⟩ ?_; clear F; intro a F
 refine nl (cP F rfl (fun hg2653 => ?_) (fun hg2653 => ?_))
 replace hm := ifT hg2653 hm
 refine sr (bk [0] F H rfl trivial ?_); clear F; intro a F
 refine nl (wr (tr (br (tr (tr ?_))))); cases hm; refine ⟨_, rfl, ?_⟩; rintro rfl
 refine br (tr ?_)
 replace hm := elimR hm1587
 refine tr ?_
 cases hm
 refine x_ret1 F rfl rfl ?_
 exact ⟨_, rfl, rfl, (H.pm 9 [] rfl:)⟩
 replace hm := ifF hg2653 hm
 refine sk (ct (sr (bk [1, 2001, 0] F H rfl ⟨fld37_1, rfl, plain3, trivial⟩ ?_))); clear F; intro a F
 refine nl (sq (sr (bk [3, 2003, 0, 0] F H rfl ⟨fld37_3, rfl, plain35, ⟨_, Tryz.underlying35⟩, trivial⟩ ?_))); clear F; intro a F
 refine nl (cP F rfl (fun hg2654 => ?_) (fun hg2654 => ?_))
 replace hm := ifT hg2654 hm
 refine ex (cx (cm rfl (cx (cx ?_)))); cases hm; refine ⟨_, rfl, ?_⟩; rintro rfl
 refine ch (ct ?_)
 exact ⟨_, rfl, F.sl rfl, (H.pm 9 [] rfl:)⟩
 replace hm := ifF hg2654 hm
 refine sk (ct (sr (bk [3, 2003, 0, 0] F H rfl ⟨fld37_3, rfl, plain35, ⟨_, Tryz.underlying35⟩, trivial⟩ ?_))); clear F; intro a F
 refine nl ?_
 obtain ⟨o2782, eo2782, hm2782⟩ := ob hm; clear hm; revert eo2782; intro hm
 refine x_mid (fun aa ww => ∃ r2782, o2782 = Sum.inl r2782 ∧ Fr ⟨101, []⟩ aa [(0, .slice p1 (ps).length c1), (1, .string (txb (p))), (5, .string (txb (r2782.1))), (6, .int .i64 (r2782.2)), (7, .int .i64 (x2642.2.2.1)), (8, .int .i64 (s2640.2.2.2))] ∧ St w0 ww (HP.sl rByte p2646 c2647 x2642.2.2.2.1 :: HP.sl rStr p2648 c2649 x2642.2.2.2.2 :: HP.blk b2645 ([.int .i64 (x2642.2.1), .int .i64 (x2642.2.2.1), .slice p2646 (x2642.2.2.2.1).length c2647, .slice p2648 (x2642.2.2.2.2).length c2649]) 37 :: HP.ow rStr 9 none 0 ([] : List (List UInt8)) :: HP.ow rByte 5 none 0 ([] : List UInt8) :: HP.sl R_api_Pair p1 c1 ps :: l)) ?_ ?_
 refine bl ?_
 refine x_loopO _ (fun (s2867 : (List UInt8) × Int × Int) aa ww => Fr ⟨101, []⟩ aa [(0, .slice p1 (ps).length c1), (1, .string (txb (p))), (5, .string (txb (s2867.1))), (6, .int .i64 (s2867.2.1)), (7, .int .i64 (x2642.2.2.1)), (8, .int .i64 (s2640.2.2.2)), (65, .slice p2648 (x2642.2.2.2.2).length c2649), (66, .int .i64 (((x2642.2.2.2.2).length : Int))), (67, .int .i64 (s2867.2.2))] ∧ St w0 ww (HP.sl rByte p2646 c2647 x2642.2.2.2.1 :: HP.sl rStr p2648 c2649 x2642.2.2.2.2 :: HP.blk b2645 ([.int .i64 (x2642.2.1), .int .i64 (x2642.2.2.1), .slice p2646 (x2642.2.2.2.1).length c2647, .slice p2648 (x2642.2.2.2.2).length c2649]) 37 :: HP.ow rStr 9 none 0 ([] : List (List UInt8)) :: HP.ow rByte 5 none 0 ([] : List UInt8) :: HP.sl R_api_Pair p1 c1 ps :: l)) hm ⟨F.sl rfl, (H.pm 9 [0, 1, 2, 3, 4, 8] rfl:)⟩ ?_
 clear F H hm
 rintro s2867 a w o ⟨F, H⟩ hm
 refine sr (bk [0] F H rfl trivial ?_); clear F; intro a F
 refine nl (sq (cP F rfl (fun hg2868 => ?_) (fun hg2868 => ?_)))
 replace hm := ifT hg2868 hm
 refine sk (ct (sq ?_))
 obtain ⟨o2889, eo2889, hm2889⟩ := ob hm; clear hm; revert eo2889; intro hm
 refine x_mid (fun aa ww => ∃ r2889, o2889 = Sum.inl r2889 ∧ Fr ⟨101, []⟩ aa [(0, .slice p1 (ps).length c1), (1, .string (txb (p))), (5, .string (txb (r2889.1))), (6, .int .i64 (r2889.2)), (7, .int .i64 (x2642.2.2.1)), (8, .int .i64 (s2640.2.2.2)), (65, .slice p2648 (x2642.2.2.2.2).length c2649), (66, .int .i64 (((x2642.2.2.2.2).length : Int))), (67, .int .i64 (s2867.2.2))] ∧ St w0 ww (HP.sl rByte p2646 c2647 x2642.2.2.2.1 :: HP.sl rStr p2648 c2649 x2642.2.2.2.2 :: HP.blk b2645 ([.int .i64 (x2642.2.1), .int .i64 (x2642.2.2.1), .slice p2646 (x2642.2.2.2.1).length c2647, .slice p2648 (x2642.2.2.2.2).length c2649]) 37 :: HP.ow rStr 9 none 0 ([] : List (List UInt8)) :: HP.ow rByte 5 none 0 ([] : List UInt8) :: HP.sl R_api_Pair p1 c1 ps :: l)) ?_ ?_
 refine bl (sr ?_)
 obtain ⟨x2890, ex2890, hm⟩ := ob hm
 obtain ⟨b2891, o2891, hp2891⟩ := H.slP 1 rfl (idxO_some ex2890).2
 obtain ⟨cs2892, hcl2892, H⟩ := H.slEl 1 rfl hp2891 (idxO_some ex2890).2
 obtain rfl := H.rcStr 1 rfl
 replace H := H.dp 1 rfl
 clear hcl2892
 refine s_val wkP F rfl rfl rfl rfl (y_idxS F elem35 rfl rfl rfl hp2891 ex2890) ?_; clear F; intro a F
 refine bk [0, 0] F H rfl ⟨rfl, plain9, trivial⟩ ?_; clear F; intro a F
 refine nl (sr (bk [0] F H rfl trivial ?_)); clear F; intro a F
 obtain ⟨x2893, ex2893, hm⟩ := ob hm
 refine s_val wkP F rfl rfl rfl rfl (y_addO F rfl rfl rfl ex2893) ?_; clear F; intro a F
 refine bk [0] F H rfl trivial ?_; clear F; intro a F
 obtain ⟨x2894, ex2894, hm⟩ := ob hm
 refine s_val wkP F rfl rfl rfl rfl (y_addO F rfl rfl rfl ex2894) ?_; clear F; intro a F
 refine bk [0] F H rfl trivial ?_; clear F; intro a F
 refine nl (sq (sr (bk [0] F H rfl trivial ?_))); clear F; intro a F
 refine s_val wkP F rfl rfl rfl rfl (y_eqT (l := p) (m := [47]) F rfl rfl rfl) ?_; clear F; intro a F
 refine nl ?_
 obtain ⟨r2897, er2897, hm2897⟩ := ob hm; clear hm; revert er2897; intro hm
 refine x_mid (fun aa ww => Fr ⟨101, []⟩ aa [(0, .slice p1 (ps).length c1), (1, .string (txb (p))), (5, .string (txb (s2867.1))), (6, .int .i64 (s2867.2.1)), (7, .int .i64 (x2642.2.2.1)), (8, .int .i64 (s2640.2.2.2)), (12, .string (txb (x2890))), (13, .string (txb (r2897))), (65, .slice p2648 (x2642.2.2.2.2).length c2649), (66, .int .i64 (((x2642.2.2.2.2).length : Int))), (67, .int .i64 (s2867.2.2))] ∧ St w0 ww (HP.row b2891 (o2891 + (s2867.2.2 : Int).toNat * 1) ([.string (txb (x2890))]) :: HP.sl rByte p2646 c2647 x2642.2.2.2.1 :: HP.sl rStr p2648 c2649 x2642.2.2.2.2 :: HP.blk b2645 ([.int .i64 (x2642.2.1), .int .i64 (x2642.2.2.1), .slice p2646 (x2642.2.2.2.1).length c2647, .slice p2648 (x2642.2.2.2.2).length c2649]) 37 :: HP.ow rStr 9 none 0 ([] : List (List UInt8)) :: HP.ow rByte 5 none 0 ([] : List UInt8) :: HP.sl R_api_Pair p1 c1 ps :: l)) ?_ ?_
 refine cP F rfl (fun hg2898 => ?_) (fun hg2898 => ?_)
 replace hm := ifT hg2898 hm
 refine rl (bk [0] F H rfl trivial ?_); clear F; intro a F
 obtain ⟨x2899, ex2899, hm⟩ := ob hm
 refine s_val wkP F rfl rfl rfl rfl (y_addO F rfl rfl rfl ex2899) ?_; clear F; intro a F
 refine bk [0] F H rfl trivial ?_; clear F; intro a F
 refine lz ?_
 cases hm
 refine ct ?_
 exact ⟨F.sl rfl, H⟩
 replace hm := ifF hg2898 hm
 refine sk ?_
 cases hm
 refine ct ?_
 exact ⟨F.sl rfl, H⟩
 clear F H hm
 rintro a w ⟨F, H⟩; have hm := hm2897; clear hm2897
 refine ct (sr (bk [0, 0] F H rfl trivial ?_)); clear F; intro a F
 replace H := H.owNil rByte 5
 refine s_val wkP F rfl rfl rfl rfl (y_build F rfl rfl (cs := [.int .i64 (9), .string (txb (r2897)), .string (txb ([])), .int .i64 (0), .int .i64 (0), .slice none (([] : List UInt8)).length 0]) (by kernel_rfl)) ?_; clear F; intro a F
 replace H := H.frz 0 rfl
 replace H := H.mkRc (R := R_api_Op) (cs := [.int .i64 (9), .string (txb (r2897)), .string (txb ([])), .int .i64 (0), .int .i64 (0), .slice none (([] : List UInt8)).length 0]) (x := (9, r2897, [], 0, 0, ([] : List UInt8))) (fun gg => ⟨_, _, rfl, rfl, ⟨_, _, rfl, rfl, ⟨_, _, rfl, rfl, ⟨_, _, rfl, rfl, ⟨_, _, rfl, rfl, ⟨_, _, rfl, (gg 0 _ rfl).choose_spec⟩⟩⟩⟩⟩⟩)
 obtain ⟨x2900, ex2900, hm⟩ := ob hm
 refine sc wkP F rfl ent16 (w_fDo ex2900 (H.pm 9 [8, 0, 0, 1, 2, 3, 4, 5, 6, 7, 8] rfl:):) ?_; clear F H; rintro _ w a ⟨p2901, c2901, cs2902, rfl, H⟩ F
 refine bk [0, 0, 0] F H rfl trivial ?_; clear F; intro a F
 replace H := H.owNil rByte 5
 replace H := H.owNil rStr 9
 refine s_allocA wkP F rfl rfl rfl agz37 rfl H ?_; clear F H; intro b2903 w a H F
 refine bk [0] F H rfl trivial ?_; clear F; intro a F
 refine s_storeA wkP F rfl rfl agg37 rfl rfl rfl H 0 rfl (H.rcLen 4 rfl) (by simp only [List.length_append, List.length_cons, List.length_nil, icells_length, bcells_length]) (H.rcFlat 4 rfl) ?_; clear H; intro w H
 replace H := H.nf 14 rfl
 refine nl (sq (sr (bk [0, 0] F H rfl trivial ?_))); clear F; intro a F
 refine s_val wkP F rfl rfl rfl rfl (y_leqT (l := x2890) (m := s2867.1) F rfl rfl rfl) ?_; clear F; intro a F
 refine bk [0] F H rfl trivial ?_; clear F; intro a F
 by_cases hg2904 : (leqB x2890 s2867.1) = true
 replace hm := ifT hg2904 hm
 replace F := F.vT 89 hg2904 rfl
 refine bk [0, 0, 0, 0] F H rfl trivial ?_; clear F; intro a F
 refine nl (cT F rfl ?_)
 refine sr (bk [0] F H rfl trivial ?_); clear F; intro a F
 refine nl (wr (tr (br (tr ?_))))
 cases hm
 replace hm := elimR hm2889
 refine tr (tr ?_); cases hm; refine ⟨_, rfl, ?_⟩; rintro rfl
 refine br (tr ?_)
 replace hm := elimR hm2782
 refine br (tr (tr ?_)); cases hm; refine ⟨_, rfl, ?_⟩; rintro rfl
 refine br (tr ?_)
 replace hm := elimR hm1587
 refine tr ?_
 cases hm
 refine x_ret1 F rfl rfl ?_
 exact ⟨_, rfl, rfl, (H.pm 14 [] rfl:)⟩
 replace hm := ifF hg2904 hm
 replace F := F.vF 89 hg2904 rfl
 refine bk [0] F H rfl ⟨fld37_0, trivial⟩ ?_; clear F; intro a F
 refine g_onP F rfl rfl rfl rfl ?_
 replace H := rc_api_Answer (H.pk 4 rfl); obtain ⟨p2905, c2906, p2907, c2908, rfl, H⟩ := H
 refine bk [2000, 0, 0] F H rfl ⟨rfl, plain33, trivial⟩ ?_; clear F; intro a F
 refine nl (cN F rfl (fun hg2909 => ?_) (fun hg2909 => ?_))
 replace hm := ifF hg2909 hm
 refine sr (bk [0] F H rfl trivial ?_); clear F; intro a F
 refine nl (wr (tr (br (tr ?_))))
 cases hm
 replace hm := elimR hm2889
 refine tr (tr ?_); cases hm; refine ⟨_, rfl, ?_⟩; rintro rfl
 refine br (tr ?_)
 replace hm := elimR hm2782
 refine br (tr (tr ?_)); cases hm; refine ⟨_, rfl, ?_⟩; rintro rfl
 refine br (tr ?_)
 replace hm := elimR hm1587
 refine tr ?_
 cases hm
 refine x_ret1 F rfl rfl ?_
 exact ⟨_, rfl, rfl, (H.pm 15 [] rfl:)⟩
 replace hm := ifT hg2909 hm
 refine sk (ct (sr (bk [0, 0] F H rfl trivial ?_))); clear F; intro a F
 refine nl (rl (bk [0, 0, 0] F H rfl trivial ?_)); clear F; intro a F
 refine lz (bn ?_)
 cases hm
 refine ct ?_
 exact ⟨_, rfl, F.sl rfl, (H.pm 15 [9, 10, 11, 12, 13, 14] rfl:)⟩
 clear F H hm
 rintro a w ⟨r2889, rfl, F, H⟩; have hm := elimL hm2889; clear hm2889
 refine ct (rl (bk [0, 0] F H rfl trivial ?_)); clear F; intro a F
 refine lz (ct ?_); cases hm
 exact ⟨_, rfl, ⟨F.sl rfl, H⟩⟩
 replace hm := ifF hg2868 hm
 refine ex (cx (cx ?_)); cases hm; refine ⟨_, rfl, ?_⟩; rintro rfl
 refine ch (ct ?_)
 exact ⟨_, rfl, F.sl rfl, H⟩
 clear F H hm
 rintro a w ⟨r2782, rfl, F, H⟩; have hm := elimL hm2782; clear hm2782
 refine bn (ct (rl (bk [0, 0, 0] F H rfl trivial ?_))); clear F; intro a F
 refine lz (ct ?_); cases hm
 exact ⟨_, rfl, ⟨F.sl rfl, (H.pm 6 [5] rfl:)⟩⟩
 replace hm := ifF hg2652 hm
 replace F := F.nF 52 hg2652 rfl
 refine bk (List.replicate 5 0) F H rfl trivial ?_; clear F; intro a F
 refine nl (cT F rfl ?_)
 refine sr (bk [0] F H rfl trivial ?_); clear F; intro a F
 refine nl (wr (tr (br (tr (tr ?_))))); cases hm; refine ⟨_, rfl, ?_⟩; rintro rfl
 refine br (tr ?_)
 replace hm := elimR hm1587
 refine tr ?_
 cases hm
 refine x_ret1 F rfl rfl ?_
 exact ⟨_, rfl, rfl, (H.pm 9 [] rfl:)⟩
 replace hm := ifF hg2651 hm
 replace F := F.bF 46 hg2651 rfl
 refine bk [0, 0, 0, 0, 0, 0, 3, 2003, 0, 0, 0] F H rfl ⟨fld37_3, rfl, plain35, ⟨_, Tryz.underlying35⟩, trivial⟩ ?_; clear F; intro a F
 refine nl (cP F rfl (fun hg2910 => ?_) (fun hg2910 => ?_))
 replace hm := ifT hg2910 hm
 refine sr (bk [0] F H rfl trivial ?_); clear F; intro a F
 refine nl (wr (tr (br (tr (tr ?_))))); cases hm; refine ⟨_, rfl, ?_⟩; rintro rfl
 refine br (tr ?_)
 replace hm := elimR hm1587
 refine tr ?_
 cases hm
 refine x_ret1 F rfl rfl ?_
 exact ⟨_, rfl, rfl, (H.pm 9 [] rfl:)⟩
 replace hm := ifF hg2910 hm
 refine sk (ct (sr (bk [1, 2001, 0] F H rfl ⟨fld37_1, rfl, plain3, trivial⟩ ?_))); clear F; intro a F
 refine nl (sq (sr (bk [3, 2003, 0, 0] F H rfl ⟨fld37_3, rfl, plain35, ⟨_, Tryz.underlying35⟩, trivial⟩ ?_))); clear F; intro a F
 refine nl (cP F rfl (fun hg2911 => ?_) (fun hg2911 => ?_))
 replace hm := ifT hg2911 hm
 refine ex (cx (cm rfl (cx (cx ?_)))); cases hm; refine ⟨_, rfl, ?_⟩; rintro rfl
 refine ch (ct ?_)
 exact ⟨_, rfl, F.sl rfl, (H.pm 9 [] rfl:)⟩
 replace hm := ifF hg2911 hm
 refine sk (ct (sr (bk [3, 2003, 0, 0] F H rfl ⟨fld37_3, rfl, plain35, ⟨_, Tryz.underlying35⟩, trivial⟩ ?_))); clear F; intro a F
 refine nl ?_
 obtain ⟨o3039, eo3039, hm3039⟩ := ob hm; clear hm; revert eo3039; intro hm
 refine x_mid (fun aa ww => ∃ r3039, o3039 = Sum.inl r3039 ∧ Fr ⟨101, []⟩ aa [(0, .slice p1 (ps).length c1), (1, .string (txb (p))), (5, .string (txb (r3039.1))), (6, .int .i64 (r3039.2)), (7, .int .i64 (x2642.2.2.1)), (8, .int .i64 (s2640.2.2.2))] ∧ St w0 ww (HP.sl rByte p2646 c2647 x2642.2.2.2.1 :: HP.sl rStr p2648 c2649 x2642.2.2.2.2 :: HP.blk b2645 ([.int .i64 (x2642.2.1), .int .i64 (x2642.2.2.1), .slice p2646 (x2642.2.2.2.1).length c2647, .slice p2648 (x2642.2.2.2.2).length c2649]) 37 :: HP.ow rStr 9 none 0 ([] : List (List UInt8)) :: HP.ow rByte 5 none 0 ([] : List UInt8) :: HP.sl R_api_Pair p1 c1 ps :: l)) ?_ ?_
 refine bl ?_
 refine x_loopO _ (fun (s3124 : (List UInt8) × Int × Int) aa ww => Fr ⟨101, []⟩ aa [(0, .slice p1 (ps).length c1), (1, .string (txb (p))), (5, .string (txb (s3124.1))), (6, .int .i64 (s3124.2.1)), (7, .int .i64 (x2642.2.2.1)), (8, .int .i64 (s2640.2.2.2)), (65, .slice p2648 (x2642.2.2.2.2).length c2649), (66, .int .i64 (((x2642.2.2.2.2).length : Int))), (67, .int .i64 (s3124.2.2))] ∧ St w0 ww (HP.sl rByte p2646 c2647 x2642.2.2.2.1 :: HP.sl rStr p2648 c2649 x2642.2.2.2.2 :: HP.blk b2645 ([.int .i64 (x2642.2.1), .int .i64 (x2642.2.2.1), .slice p2646 (x2642.2.2.2.1).length c2647, .slice p2648 (x2642.2.2.2.2).length c2649]) 37 :: HP.ow rStr 9 none 0 ([] : List (List UInt8)) :: HP.ow rByte 5 none 0 ([] : List UInt8) :: HP.sl R_api_Pair p1 c1 ps :: l)) hm ⟨F.sl rfl, (H.pm 9 [0, 1, 2, 3, 4, 8] rfl:)⟩ ?_
 clear F H hm
 rintro s3124 a w o ⟨F, H⟩ hm
 refine sr (bk [0] F H rfl trivial ?_); clear F; intro a F
 refine nl (sq (cP F rfl (fun hg3125 => ?_) (fun hg3125 => ?_)))
 replace hm := ifT hg3125 hm
 refine sk (ct (sq ?_))
 obtain ⟨o3146, eo3146, hm3146⟩ := ob hm; clear hm; revert eo3146; intro hm
 refine x_mid (fun aa ww => ∃ r3146, o3146 = Sum.inl r3146 ∧ Fr ⟨101, []⟩ aa [(0, .slice p1 (ps).length c1), (1, .string (txb (p))), (5, .string (txb (r3146.1))), (6, .int .i64 (r3146.2)), (7, .int .i64 (x2642.2.2.1)), (8, .int .i64 (s2640.2.2.2)), (65, .slice p2648 (x2642.2.2.2.2).length c2649), (66, .int .i64 (((x2642.2.2.2.2).length : Int))), (67, .int .i64 (s3124.2.2))] ∧ St w0 ww (HP.sl rByte p2646 c2647 x2642.2.2.2.1 :: HP.sl rStr p2648 c2649 x2642.2.2.2.2 :: HP.blk b2645 ([.int .i64 (x2642.2.1), .int .i64 (x2642.2.2.1), .slice p2646 (x2642.2.2.2.1).length c2647, .slice p2648 (x2642.2.2.2.2).length c2649]) 37 :: HP.ow rStr 9 none 0 ([] : List (List UInt8)) :: HP.ow rByte 5 none 0 ([] : List UInt8) :: HP.sl R_api_Pair p1 c1 ps :: l)) ?_ ?_
 refine bl (sr ?_)
 obtain ⟨x3147, ex3147, hm⟩ := ob hm
 obtain ⟨b3148, o3148, hp3148⟩ := H.slP 1 rfl (idxO_some ex3147).2
 obtain ⟨cs3149, hcl3149, H⟩ := H.slEl 1 rfl hp3148 (idxO_some ex3147).2
 obtain rfl := H.rcStr 1 rfl
 replace H := H.dp 1 rfl
 clear hcl3149
 refine s_val wkP F rfl rfl rfl rfl (y_idxS F elem35 rfl rfl rfl hp3148 ex3147) ?_; clear F; intro a F
 refine bk [0, 0] F H rfl ⟨rfl, plain9, trivial⟩ ?_; clear F; intro a F
 refine nl (sr (bk [0] F H rfl trivial ?_)); clear F; intro a F
 obtain ⟨x3150, ex3150, hm⟩ := ob hm
 refine s_val wkP F rfl rfl rfl rfl (y_addO F rfl rfl rfl ex3150) ?_; clear F; intro a F
 refine bk [0] F H rfl trivial ?_; clear F; intro a F
 obtain ⟨x3151, ex3151, hm⟩ := ob hm
 refine s_val wkP F rfl rfl rfl rfl (y_addO F rfl rfl rfl ex3151) ?_; clear F; intro a F
 refine bk [0] F H rfl trivial ?_; clear F; intro a F
 refine nl (sq (sr (bk [0] F H rfl trivial ?_))); clear F; intro a F
 refine s_val wkP F rfl rfl rfl rfl (y_eqT (l := p) (m := [47]) F rfl rfl rfl) ?_; clear F; intro a F
 refine nl ?_
 obtain ⟨r3154, er3154, hm3154⟩ := ob hm; clear hm; revert er3154; intro hm
 refine x_mid (fun aa ww => Fr ⟨101, []⟩ aa [(0, .slice p1 (ps).length c1), (1, .string (txb (p))), (5, .string (txb (s3124.1))), (6, .int .i64 (s3124.2.1)), (7, .int .i64 (x2642.2.2.1)), (8, .int .i64 (s2640.2.2.2)), (12, .string (txb (x3147))), (13, .string (txb (r3154))), (65, .slice p2648 (x2642.2.2.2.2).length c2649), (66, .int .i64 (((x2642.2.2.2.2).length : Int))), (67, .int .i64 (s3124.2.2))] ∧ St w0 ww (HP.row b3148 (o3148 + (s3124.2.2 : Int).toNat * 1) ([.string (txb (x3147))]) :: HP.sl rByte p2646 c2647 x2642.2.2.2.1 :: HP.sl rStr p2648 c2649 x2642.2.2.2.2 :: HP.blk b2645 ([.int .i64 (x2642.2.1), .int .i64 (x2642.2.2.1), .slice p2646 (x2642.2.2.2.1).length c2647, .slice p2648 (x2642.2.2.2.2).length c2649]) 37 :: HP.ow rStr 9 none 0 ([] : List (List UInt8)) :: HP.ow rByte 5 none 0 ([] : List UInt8) :: HP.sl R_api_Pair p1 c1 ps :: l)) ?_ ?_
 refine cP F rfl (fun hg3155 => ?_) (fun hg3155 => ?_)
 replace hm := ifT hg3155 hm
 refine rl (bk [0] F H rfl trivial ?_); clear F; intro a F
 obtain ⟨x3156, ex3156, hm⟩ := ob hm
 refine s_val wkP F rfl rfl rfl rfl (y_addO F rfl rfl rfl ex3156) ?_; clear F; intro a F
 refine bk [0] F H rfl trivial ?_; clear F; intro a F
 refine lz ?_
 cases hm
 refine ct ?_
 exact ⟨F.sl rfl, H⟩
 replace hm := ifF hg3155 hm
 refine sk ?_
 cases hm
 refine ct ?_
 exact ⟨F.sl rfl, H⟩
 clear F H hm
 rintro a w ⟨F, H⟩; have hm := hm3154; clear hm3154
 refine ct (sr (bk [0, 0] F H rfl trivial ?_)); clear F; intro a F
 replace H := H.owNil rByte 5
 refine s_val wkP F rfl rfl rfl rfl (y_build F rfl rfl (cs := [.int .i64 (9), .string (txb (r3154)), .string (txb ([])), .int .i64 (0), .int .i64 (0), .slice none (([] : List UInt8)).length 0]) (by kernel_rfl)) ?_; clear F; intro a F
 replace H := H.frz 0 rfl
 replace H := H.mkRc (R := R_api_Op) (cs := [.int .i64 (9), .string (txb (r3154)), .string (txb ([])), .int .i64 (0), .int .i64 (0), .slice none (([] : List UInt8)).length 0]) (x := (9, r3154, [], 0, 0, ([] : List UInt8))) (fun gg => ⟨_, _, rfl, rfl, ⟨_, _, rfl, rfl, ⟨_, _, rfl, rfl, ⟨_, _, rfl, rfl, ⟨_, _, rfl, rfl, ⟨_, _, rfl, (gg 0 _ rfl).choose_spec⟩⟩⟩⟩⟩⟩)
 obtain ⟨x3157, ex3157, hm⟩ := ob hm
 refine sc wkP F rfl ent16 (w_fDo ex3157 (H.pm 9 [8, 0, 0, 1, 2, 3, 4, 5, 6, 7, 8] rfl:):) ?_; clear F H; rintro _ w a ⟨p3158, c3158, cs3159, rfl, H⟩ F
 refine bk [0, 0, 0] F H rfl trivial ?_; clear F; intro a F
 replace H := H.owNil rByte 5
 replace H := H.owNil rStr 9
 refine s_allocA wkP F rfl rfl rfl agz37 rfl H ?_; clear F H; intro b3160 w a H F
 refine bk [0] F H rfl trivial ?_; clear F; intro a F
 refine s_storeA wkP F rfl rfl agg37 rfl rfl rfl H 0 rfl (H.rcLen 4 rfl) (by simp only [List.length_append, List.length_cons, List.length_nil, icells_length, bcells_length]) (H.rcFlat 4 rfl) ?_; clear H; intro w H
 replace H := H.nf 14 rfl
 refine nl (sq (sr (bk [0, 0] F H rfl trivial ?_))); clear F; intro a F
 refine s_val wkP F rfl rfl rfl rfl (y_leqT (l := x3147) (m := s3124.1) F rfl rfl rfl) ?_; clear F; intro a F
 refine bk [0] F H rfl trivial ?_; clear F; intro a F
 by_cases hg3161 : (leqB x3147 s3124.1) = true
 replace hm := ifT hg3161 hm
 replace F := F.vT 89 hg3161 rfl
 refine bk [0, 0, 0, 0] F H rfl trivial ?_; clear F; intro a F
 refine nl (cT F rfl ?_)
 refine sr (bk [0] F H rfl trivial ?_); clear F; intro a F
 refine nl (wr (tr (br (tr ?_))))
 cases hm
 replace hm := elimR hm3146
 refine tr (tr ?_); cases hm; refine ⟨_, rfl, ?_⟩; rintro rfl
 refine br (tr ?_)
 replace hm := elimR hm3039
 refine br (tr (tr ?_)); cases hm; refine ⟨_, rfl, ?_⟩; rintro rfl
 refine br (tr ?_)
 replace hm := elimR hm1587
 refine tr ?_
 cases hm
 refine x_ret1 F rfl rfl ?_
 exact ⟨_, rfl, rfl, (H.pm 14 [] rfl:)⟩
 replace hm := ifF hg3161 hm
 replace F := F.vF 89 hg3161 rfl
 refine bk [0] F H rfl ⟨fld37_0, trivial⟩ ?_; clear F; intro a F
 refine g_onP F rfl rfl rfl rfl ?_
 replace H := rc_api_Answer (H.pk 4 rfl); obtain ⟨p3162, c3163, p3164, c3165, rfl, H⟩ := H
 refine bk [2000, 0, 0] F H rfl ⟨rfl, plain33, trivial⟩ ?_; clear F; intro a F
 refine nl (cN F rfl (fun hg3166 => ?_) (fun hg3166 => ?_))
 replace hm := ifF hg3166 hm
 refine sr (bk [0] F H rfl trivial ?_); clear F; intro a F
 refine nl (wr (tr (br (tr ?_))))
 cases hm
 replace hm := elimR hm3146
 refine tr (tr ?_); cases hm; refine ⟨_, rfl, ?_⟩; rintro rfl
 refine br (tr ?_)
 replace hm := elimR hm3039
 refine br (tr (tr ?_)); cases hm; refine ⟨_, rfl, ?_⟩; rintro rfl
 refine br (tr ?_)
 replace hm := elimR hm1587
 refine tr ?_
 cases hm
 refine x_ret1 F rfl rfl ?_
 exact ⟨_, rfl, rfl, (H.pm 15 [] rfl:)⟩
 replace hm := ifT hg3166 hm
 refine sk (ct (sr (bk [0, 0] F H rfl trivial ?_))); clear F; intro a F
 refine nl (rl (bk [0, 0, 0] F H rfl trivial ?_)); clear F; intro a F
 refine lz (bn ?_)
 cases hm
 refine ct ?_
 exact ⟨_, rfl, F.sl rfl, (H.pm 15 [9, 10, 11, 12, 13, 14] rfl:)⟩
 clear F H hm
 rintro a w ⟨r3146, rfl, F, H⟩; have hm := elimL hm3146; clear hm3146
 refine ct (rl (bk [0, 0] F H rfl trivial ?_)); clear F; intro a F
 refine lz (ct ?_); cases hm
 exact ⟨_, rfl, ⟨F.sl rfl, H⟩⟩
 replace hm := ifF hg3125 hm
 refine ex (cx (cx ?_)); cases hm; refine ⟨_, rfl, ?_⟩; rintro rfl
 refine ch (ct ?_)
 exact ⟨_, rfl, F.sl rfl, H⟩
 clear F H hm
 rintro a w ⟨r3039, rfl, F, H⟩; have hm := elimL hm3039; clear hm3039
 refine bn (ct (rl (bk [0, 0, 0] F H rfl trivial ?_))); clear F; intro a F
 refine lz (ct ?_); cases hm
 exact ⟨_, rfl, ⟨F.sl rfl, (H.pm 6 [5] rfl:)⟩⟩
 replace hm := ifF hg2641 hm
 refine ex (cx (cx ?_)); cases hm; refine ⟨_, rfl, ?_⟩; rintro rfl
 refine ch (ct ?_)
 exact ⟨_, rfl, F.sl rfl, (H.pm 1 [] rfl:)⟩
 clear F H hm
 rintro a w ⟨r1587, rfl, F, H⟩; have hm := elimL hm1587; clear hm1587
 refine ct (sr (bk [0, 0, 0, 0] F H rfl trivial ?_)); clear F; intro a F
 refine nl (wr ?_)
 cases hm
 refine x_ret1 F rfl rfl ?_
 exact ⟨_, rfl, rfl, H⟩
theorem agz25 : AggT Tryz.prog 25 6 ([.int .i64 (0), .string (txb ([])), .string (txb ([])), .int .i64 (0), .int .i64 (0), .slice none (([] : List UInt8)).length 0]) := ⟨by rw [Tryz.underlying25]; rfl, by kernel_rfl, by kernel_rfl⟩
set_option maxRecDepth 100000 in
set_option maxHeartbeats 4000000 in
theorem w_lUndone {ps : List T_api_Pair} {p : List UInt8} {dir : Bool} {p1 : Option Addr} {c1 : Nat} {w0 w : World} {l : List HP}  {r : Bool} (hm : lUndone ps p dir = some r) (H : St w0 w (HP.sl R_api_Pair p1 c1 ps :: l)) :
  Calls Tryz.prog 9 [.slice p1 (ps).length c1, .string (txb (p)), .bool (dir)].toArray w (fun e w' => ∃ v, e = .returned v ∧ v = .bool (r) ∧ St w0 w' (l)) := by
 unfold lUndone at hm
 refine x_enter Tryz.func9 rfl rfl rfl ?_
 intro a F
 refine sr (bk [0] F H rfl trivial ?_); clear F; intro a F
 refine nl (sq (sr ?_))
 obtain ⟨x2, ex2, hm⟩ := ob hm
 refine sc wkP F rfl ent10 (w_lSpeaks ex2 H:) ?_; clear F H; rintro _ w a ⟨rfl, H⟩ F
 refine bk [0] F H rfl trivial ?_; clear F; intro a F
 replace H := H.nf 1 rfl
 refine nl (cB F rfl (fun hg3 => ?_) (fun hg3 => ?_))
 replace hm := ifT hg3 hm
 refine sr (bk [0] F H rfl trivial ?_); clear F; intro a F
 refine nl (wr (tr ?_))
 cases hm
 refine x_ret1 F rfl rfl ?_
 exact ⟨_, rfl, rfl, (H.pm 1 [] rfl:)⟩
 replace hm := ifF (nT hg3) hm
 refine sk (ct (sq (sr (bk [0, 0] F H rfl trivial ?_)))); clear F; intro a F
 replace H := H.owNil rByte 5
 refine s_val wkP F rfl rfl rfl rfl (y_build F rfl rfl (cs := [.int .i64 (0), .string (txb (p)), .string (txb ([])), .int .i64 (0), .int .i64 (0), .slice none (([] : List UInt8)).length 0]) (by kernel_rfl)) ?_; clear F; intro a F
 replace H := H.frz 0 rfl
 replace H := H.mkRc (R := R_api_Op) (cs := [.int .i64 (0), .string (txb (p)), .string (txb ([])), .int .i64 (0), .int .i64 (0), .slice none (([] : List UInt8)).length 0]) (x := (0, p, [], 0, 0, ([] : List UInt8))) (fun gg => ⟨_, _, rfl, rfl, ⟨_, _, rfl, rfl, ⟨_, _, rfl, rfl, ⟨_, _, rfl, rfl, ⟨_, _, rfl, rfl, ⟨_, _, rfl, (gg 0 _ rfl).choose_spec⟩⟩⟩⟩⟩⟩)
 obtain ⟨x4, ex4, hm⟩ := ob hm
 refine sc wkP F rfl ent11 (w_lGreat ex4 (H.pm 3 [2, 0, 0, 1, 2] rfl:):) ?_; clear F H; rintro _ w a ⟨rfl, H⟩ F
 refine bk [0] F H rfl trivial ?_; clear F; intro a F
 by_cases hg5 : x4 = true
 replace hm := ifT hg5 hm
 replace F := F.vT 18 hg5 rfl
 refine bk [0, 0, 0, 0] F H rfl trivial ?_; clear F; intro a F
 replace H := H.nf 3 rfl
 refine nl (cT F rfl ?_)
 refine sr (bk [0] F H rfl trivial ?_); clear F; intro a F
 refine nl (wr (tr ?_))
 cases hm
 refine x_ret1 F rfl rfl ?_
 exact ⟨_, rfl, rfl, (H.pm 3 [] rfl:)⟩
 replace hm := ifF hg5 hm
 replace F := F.vF 18 hg5 rfl
 refine bk [0] F H rfl trivial ?_; clear F; intro a F
 refine g_onP F rfl rfl rfl rfl ?_
 obtain ⟨x6, ex6, hm⟩ := ob hm
 refine sc wkP F rfl ent15 (w_fCheck ex6 (H.pm 3 [2, 0, 1, 2] rfl:):) ?_; clear F H; rintro _ w a ⟨rfl, H⟩ F
 refine bk [0, 0] F H rfl trivial ?_; clear F; intro a F
 replace H := H.nf 3 rfl
 refine nl (cN F rfl (fun hg7 => ?_) (fun hg7 => ?_))
 replace hm := ifF hg7 hm
 refine sr (bk [0] F H rfl trivial ?_); clear F; intro a F
 refine nl (wr (tr ?_))
 cases hm
 refine x_ret1 F rfl rfl ?_
 exact ⟨_, rfl, rfl, (H.pm 3 [] rfl:)⟩
 replace hm := ifT hg7 hm
 refine sk (ct (sr (bk [0] F H rfl trivial ?_))); clear F; intro a F
 replace H := H.owNil rByte 5
 refine s_val wkP F rfl rfl rfl rfl (y_build F rfl rfl (cs := [.int .i64 (1), .string (txb (p)), .string (txb ([])), .int .i64 (0), .int .i64 (0), .slice none (([] : List UInt8)).length 0]) (by kernel_rfl)) ?_; clear F; intro a F
 replace H := H.owNil rByte 5
 refine s_allocA wkP F rfl rfl rfl agz25 rfl H ?_; clear F H; intro b8 w a H F
 refine s_storeA wkP F rfl rfl agg25 rfl rfl rfl H 0 rfl (by simp only [List.length_append, List.length_cons, List.length_nil, icells_length, bcells_length]) (by simp only [List.length_append, List.length_cons, List.length_nil, icells_length, bcells_length]) (by intro v hv; simp only [List.mem_append, List.mem_cons, List.not_mem_nil, or_false] at hv; first | (rcases hv with h | h <;> first | (subst h; rfl) | exact bcells_flat _ _ h | exact icells_flat _ _ _ h | (rcases h with h | h <;> first | (subst h; rfl) | exact bcells_flat _ _ h | exact icells_flat _ _ _ h | (rcases h with h | h <;> first | (subst h; rfl) | exact bcells_flat _ _ h | (rcases h with h | h <;> first | (subst h; rfl) | (rcases h with h | h <;> (subst h; rfl)))))) | (subst hv; rfl)) ?_; clear H; intro w H
 replace H := H.nf 6 rfl
 refine nl (sq (sr (bk [0] F H rfl trivial ?_))); clear F; intro a F
 refine nl ?_
 obtain ⟨r10, er10, hm10⟩ := ob hm; clear hm; revert er10; intro hm
 refine x_mid (fun aa ww => Fr ⟨62, []⟩ aa [(0, .slice p1 (ps).length c1), (1, .string (txb (p))), (7, .pointer (some ⟨b8, 0, none⟩))] ∧ St w0 ww (HP.blk b8 ([.int .i64 (r10), .string (txb (p)), .string (txb ([])), .int .i64 (0), .int .i64 (0), .slice none (([] : List UInt8)).length 0]) 25 :: HP.ow rByte 5 none 0 ([] : List UInt8) :: HP.ow rByte 5 none 0 ([] : List UInt8) :: HP.sl R_api_Pair p1 c1 ps :: l)) ?_ ?_
 refine cB F rfl (fun hg11 => ?_) (fun hg11 => ?_)
 replace hm := ifT hg11 hm
 refine rl (bk [0] F H rfl ⟨fld25_0, trivial⟩ ?_); clear F; intro a F
 refine s_st1 wkP F rfl rfl zero3 rfl rfl rfl rfl rfl H 0 rfl rfl ?_; clear H; intro w H
 replace H := H.nf 6 rfl
 refine lz ?_
 cases hm
 refine ct ?_
 exact ⟨F.sl rfl, (H.pm 6 [0, 1, 2, 5] rfl:)⟩
 replace hm := ifF (nT hg11) hm
 refine sk ?_
 cases hm
 refine ct ?_
 exact ⟨F.sl rfl, (H.pm 6 [0, 1, 2, 5] rfl:)⟩
 clear F H hm
 rintro a w ⟨F, H⟩; have hm := hm10; clear hm10
 refine ct (sr (bk [0, 999] F H rfl ⟨rfl, (aggn agg25 (by simp only [List.length_append, List.length_cons, List.length_nil, icells_length, bcells_length])), trivial⟩ ?_)); clear F; intro a F
 replace H := H.frz 2 rfl
 replace H := H.mkRc (R := R_api_Op) (cs := [.int .i64 (r10), .string (txb (p)), .string (txb ([])), .int .i64 (0), .int .i64 (0), .slice none (([] : List UInt8)).length 0]) (x := (r10, p, [], 0, 0, ([] : List UInt8))) (fun gg => ⟨_, _, rfl, rfl, ⟨_, _, rfl, rfl, ⟨_, _, rfl, rfl, ⟨_, _, rfl, rfl, ⟨_, _, rfl, rfl, ⟨_, _, rfl, (gg 0 _ rfl).choose_spec⟩⟩⟩⟩⟩⟩)
 obtain ⟨x12, ex12, hm⟩ := ob hm
 refine sc wkP F rfl ent16 (w_fDo ex12 (H.pm 5 [4, 0, 0, 1, 2, 3, 4] rfl:):) ?_; clear F H; rintro _ w a ⟨p13, c13, cs14, rfl, H⟩ F
 refine bk [0, 0, 0] F H rfl trivial ?_; clear F; intro a F
 replace H := H.owNil rByte 5
 replace H := H.owNil rStr 9
 refine s_allocA wkP F rfl rfl rfl agz37 rfl H ?_; clear F H; intro b15 w a H F
 refine bk [0] F H rfl trivial ?_; clear F; intro a F
 refine s_storeA wkP F rfl rfl agg37 rfl rfl rfl H 0 rfl (H.rcLen 4 rfl) (by simp only [List.length_append, List.length_cons, List.length_nil, icells_length, bcells_length]) (H.rcFlat 4 rfl) ?_; clear H; intro w H
 replace H := H.nf 10 rfl
 refine nl (sq (sr (bk [0] F H rfl ⟨fld37_0, trivial⟩ ?_))); clear F; intro a F
 replace H := rc_api_Answer (H.pk 4 rfl); obtain ⟨p16, c17, p18, c19, rfl, H⟩ := H
 refine bk [2000, 0] F H rfl ⟨rfl, plain33, trivial⟩ ?_; clear F; intro a F
 refine nl (cN F rfl (fun hg20 => ?_) (fun hg20 => ?_))
 replace hm := ifF hg20 hm
 refine sr (bk [0, 0] F H rfl trivial ?_); clear F; intro a F
 obtain ⟨x21, ex21, hm⟩ := ob hm
 refine sc wkP F rfl ent19 (w_rSamePairs ex21 (H.pm 11 [5, 10, 0, 1, 2, 3, 4, 5, 6, 7, 8, 9, 10] rfl:):) ?_; clear F H; rintro _ w a ⟨rfl, H⟩ F
 refine bk [0] F H rfl trivial ?_; clear F; intro a F
 replace H := H.nf 11 rfl
 refine nl (wr (tr ?_))
 cases hm
 refine x_ret1 F rfl rfl ?_
 exact ⟨_, rfl, rfl, (H.pm 11 [] rfl:)⟩
 replace hm := ifT hg20 hm
 refine sk (ct (sr (bk [0, 0] F H rfl trivial ?_))); clear F; intro a F
 replace H := H.owNil rByte 5
 refine s_val wkP F rfl rfl rfl rfl (y_build F rfl rfl (cs := [.int .i64 (7), .string (txb (p)), .string (txb ([])), .int .i64 (0), .int .i64 (0), .slice none (([] : List UInt8)).length 0]) (by kernel_rfl)) ?_; clear F; intro a F
 replace H := H.frz 0 rfl
 replace H := H.mkRc (R := R_api_Op) (cs := [.int .i64 (7), .string (txb (p)), .string (txb ([])), .int .i64 (0), .int .i64 (0), .slice none (([] : List UInt8)).length 0]) (x := (7, p, [], 0, 0, ([] : List UInt8))) (fun gg => ⟨_, _, rfl, rfl, ⟨_, _, rfl, rfl, ⟨_, _, rfl, rfl, ⟨_, _, rfl, rfl, ⟨_, _, rfl, rfl, ⟨_, _, rfl, (gg 0 _ rfl).choose_spec⟩⟩⟩⟩⟩⟩)
 obtain ⟨x22, ex22, hm⟩ := ob hm
 refine sc wkP F rfl ent16 (w_fDo ex22 (H.pm 13 [7, 0, 0, 1, 2, 3, 4, 5, 6, 7, 8, 9, 10, 11, 12] rfl:):) ?_; clear F H; rintro _ w a ⟨p23, c23, cs24, rfl, H⟩ F
 refine bk [0, 0, 0] F H rfl trivial ?_; clear F; intro a F
 replace H := H.owNil rByte 5
 replace H := H.owNil rStr 9
 refine s_allocA wkP F rfl rfl rfl agz37 rfl H ?_; clear F H; intro b25 w a H F
 refine bk [0] F H rfl trivial ?_; clear F; intro a F
 refine s_storeA wkP F rfl rfl agg37 rfl rfl rfl H 0 rfl (H.rcLen 4 rfl) (by simp only [List.length_append, List.length_cons, List.length_nil, icells_length, bcells_length]) (H.rcFlat 4 rfl) ?_; clear H; intro w H
 replace H := H.nf 18 rfl
 refine nl (sr (bk (List.replicate 7 0) F H rfl ⟨⟨_, Tryz.underlying22⟩, ⟨_, Tryz.underlying22⟩, trivial⟩ ?_)); clear F; intro a F
 by_cases hg26 : ((x12.1).length : Int) = (IntKind.i64.wrap (((ps).length : Int) + 1))
 replace hm := ifT hg26 hm
 replace F := F.bT 52 hg26 rfl
 refine bk [0] F H rfl ⟨fld37_0, trivial⟩ ?_; clear F; intro a F
 refine g_onP F rfl rfl rfl rfl ?_
 replace H := rc_api_Answer (H.pk 4 rfl); obtain ⟨p27, c28, p29, c30, rfl, H⟩ := H
 refine bk [2000, 0, 0, 0] F H rfl ⟨rfl, plain33, trivial⟩ ?_; clear F; intro a F
 by_cases hg31 : x22.2.1 = 0
 replace hm := ifT hg31 hm
 replace F := F.bT 57 hg31 rfl
 refine bk [0, 0] F H rfl trivial ?_; clear F; intro a F
 refine g_onP F rfl rfl rfl rfl ?_
 obtain ⟨x32, ex32, hm⟩ := ob hm
 refine sc wkP F rfl ent19 (w_rSamePairs ex32 (H.pm 19 [5, 18, 0, 1, 2, 3, 4, 5, 6, 7, 8, 9, 10, 11, 12, 13, 14, 15, 16, 17, 18] rfl:):) ?_; clear F H; rintro _ w a ⟨rfl, H⟩ F
 refine bk [0, 0] F H rfl trivial ?_; clear F; intro a F
 replace H := H.nf 19 rfl
 refine nl (wr ?_)
 cases hm
 refine x_ret1 F rfl rfl ?_
 exact ⟨_, rfl, rfl, (H.pm 19 [] rfl:)⟩
 replace hm := ifF hg31 hm
 replace F := F.bF 57 hg31 rfl
 refine bk (List.replicate 5 0) F H rfl trivial ?_; clear F; intro a F
 refine nl (wr ?_)
 cases hm
 refine x_ret1 F rfl rfl ?_
 exact ⟨_, rfl, rfl, (H.pm 19 [] rfl:)⟩
 replace hm := ifF hg26 hm
 replace F := F.bF 52 hg26 rfl
 refine bk (List.replicate 10 0) F H rfl trivial ?_; clear F; intro a F
 refine nl (wr ?_)
 cases hm
 refine x_ret1 F rfl rfl ?_
 exact ⟨_, rfl, rfl, (H.pm 18 [] rfl:)⟩
theorem ent25 : ∀ args w, (callFunc 25 args).run Tryz.prog w = .ok (.enter 25 args) w := enters Tryz.func25 (by kernel_rfl) rfl
set_option maxRecDepth 100000 in
set_option maxHeartbeats 4000000 in
theorem w_lReads {ps : List T_api_Pair} {oq : T_api_Op} {p1 : Option Addr} {c1 : Nat} {cs2 : List Value} {w0 w : World} {l : List HP}  {r : Bool} (hm : lReads ps oq = some r) (H : St w0 w (HP.sl R_api_Pair p1 c1 ps :: HP.rc R_api_Op cs2 oq :: l)) :
  Calls Tryz.prog 5 [.slice p1 (ps).length c1, .agg cs2.toArray].toArray w (fun e w' => ∃ v, e = .returned v ∧ v = .bool (r) ∧ St w0 w' (l)) := by
 unfold lReads at hm
 refine x_enter Tryz.func5 rfl rfl rfl ?_
 intro a F
 refine sr (s_boxA wkP F rfl rfl rfl rfl rfl H ?_); clear F H; intro b3 w a H F
 refine bk [0] F H rfl trivial ?_; clear F; intro a F
 replace H := H.nf 3 rfl
 refine nl (sq (sr ?_))
 obtain ⟨x4, ex4, hm⟩ := ob hm
 refine sc wkP F rfl ent10 (w_lSpeaks ex4 H:) ?_; clear F H; rintro _ w a ⟨rfl, H⟩ F
 refine bk [0] F H rfl trivial ?_; clear F; intro a F
 replace H := H.nf 3 rfl
 refine nl (cB F rfl (fun hg5 => ?_) (fun hg5 => ?_))
 replace hm := ifT hg5 hm
 refine sr (bk [0] F H rfl trivial ?_); clear F; intro a F
 refine nl (wr (tr ?_))
 cases hm
 refine x_ret1 F rfl rfl ?_
 exact ⟨_, rfl, rfl, (H.pm 3 [] rfl:)⟩
 replace hm := ifF (nT hg5) hm
 refine sk (ct (sr (bk [0] F H rfl ⟨fld25_0, trivial⟩ ?_))); clear F; intro a F
 replace H := rc_api_Op (H.pk 2 rfl); obtain ⟨p6, c7, rfl, H⟩ := H
 refine s_st1 wkP F rfl rfl zero3 rfl rfl rfl rfl rfl H 1 rfl rfl ?_; clear H; intro w H
 replace H := H.nf 3 rfl
 refine nl (sq (sr (bk [0, 1999] F H rfl ⟨rfl, (aggn agg25 (by simp only [List.length_append, List.length_cons, List.length_nil, icells_length, bcells_length])), trivial⟩ ?_))); clear F; intro a F
 replace H := H.mkRc (R := R_api_Op) (cs := [.int .i64 (3), .string (txb (oq.2.1)), .string (txb (oq.2.2.1)), .int .i64 (oq.2.2.2.1), .int .i64 (oq.2.2.2.2.1), .slice p6 (oq.2.2.2.2.2).length c7]) (x := (3, oq.2.1, oq.2.2.1, oq.2.2.2.1, oq.2.2.2.2.1, oq.2.2.2.2.2)) (fun gg => ⟨_, _, rfl, rfl, ⟨_, _, rfl, rfl, ⟨_, _, rfl, rfl, ⟨_, _, rfl, rfl, ⟨_, _, rfl, rfl, ⟨_, _, rfl, (gg 0 _ rfl).choose_spec⟩⟩⟩⟩⟩⟩)
 obtain ⟨x8, ex8, hm⟩ := ob hm
 refine sc wkP F rfl ent11 (w_lGreat ex8 (H.pm 4 [3, 0, 0, 1, 2, 3] rfl:):) ?_; clear F H; rintro _ w a ⟨rfl, H⟩ F
 refine bk [0] F H rfl trivial ?_; clear F; intro a F
 by_cases hg9 : x8 = true
 replace hm := ifT hg9 hm
 replace F := F.vT 20 hg9 rfl
 refine bk [0, 0, 0, 0] F H rfl trivial ?_; clear F; intro a F
 replace H := H.nf 4 rfl
 refine nl (cT F rfl ?_)
 refine sr (bk [0] F H rfl trivial ?_); clear F; intro a F
 refine nl (wr (tr ?_))
 cases hm
 refine x_ret1 F rfl rfl ?_
 exact ⟨_, rfl, rfl, (H.pm 4 [] rfl:)⟩
 replace hm := ifF hg9 hm
 replace F := F.vF 20 hg9 rfl
 refine bk [0] F H rfl trivial ?_; clear F; intro a F
 refine g_onP F rfl rfl rfl rfl ?_
 obtain ⟨x10, ex10, hm⟩ := ob hm
 refine sc wkP F rfl ent15 (w_fCheck ex10 (H.pm 4 [3, 0, 1, 2, 3] rfl:):) ?_; clear F H; rintro _ w a ⟨rfl, H⟩ F
 refine bk [0, 0] F H rfl trivial ?_; clear F; intro a F
 replace H := H.nf 4 rfl
 refine nl (cN F rfl (fun hg11 => ?_) (fun hg11 => ?_))
 replace hm := ifF hg11 hm
 refine sr (bk [0] F H rfl trivial ?_); clear F; intro a F
 refine nl (wr (tr ?_))
 cases hm
 refine x_ret1 F rfl rfl ?_
 exact ⟨_, rfl, rfl, (H.pm 4 [] rfl:)⟩
 replace hm := ifT hg11 hm
 refine sk (ct (sr (bk [0, 1, 2001] F H rfl ⟨fld25_1, rfl, plain9, trivial⟩ ?_))); clear F; intro a F
 obtain ⟨x12, ex12, hm⟩ := ob hm
 refine sc wkP F rfl ent25 (w_lRead ex12 (H.pm 4 [3, 0, 1, 2, 3] rfl:):) ?_; clear F H; rintro _ w a ⟨p13, c13, rfl, H⟩ F
 refine bk (List.replicate 5 0) F H rfl trivial ?_; clear F; intro a F
 replace H := H.nf 5 rfl
 refine nl (sr (bk [0, 3999] F H rfl ⟨rfl, (aggn agg25 (by simp only [List.length_append, List.length_cons, List.length_nil, icells_length, bcells_length])), trivial⟩ ?_)); clear F; intro a F
 replace H := H.mkRc (R := R_api_Op) (cs := [.int .i64 (3), .string (txb (oq.2.1)), .string (txb (oq.2.2.1)), .int .i64 (oq.2.2.2.1), .int .i64 (oq.2.2.2.2.1), .slice p6 (oq.2.2.2.2.2).length c7]) (x := (3, oq.2.1, oq.2.2.1, oq.2.2.2.1, oq.2.2.2.2.1, oq.2.2.2.2.2)) (fun gg => ⟨_, _, rfl, rfl, ⟨_, _, rfl, rfl, ⟨_, _, rfl, rfl, ⟨_, _, rfl, rfl, ⟨_, _, rfl, rfl, ⟨_, _, rfl, (gg 2 _ rfl).choose_spec⟩⟩⟩⟩⟩⟩)
 obtain ⟨x14, ex14, hm⟩ := ob hm
 refine sc wkP F rfl ent16 (w_fDo ex14 (H.pm 6 [5, 0, 0, 1, 2, 3, 4, 5] rfl:):) ?_; clear F H; rintro _ w a ⟨p15, c15, cs16, rfl, H⟩ F
 refine bk [0, 0, 0] F H rfl trivial ?_; clear F; intro a F
 replace H := H.owNil rByte 5
 replace H := H.owNil rStr 9
 refine s_allocA wkP F rfl rfl rfl agz37 rfl H ?_; clear F H; intro b17 w a H F
 refine bk [0] F H rfl trivial ?_; clear F; intro a F
 refine s_storeA wkP F rfl rfl agg37 rfl rfl rfl H 0 rfl (H.rcLen 4 rfl) (by simp only [List.length_append, List.length_cons, List.length_nil, icells_length, bcells_length]) (H.rcFlat 4 rfl) ?_; clear H; intro w H
 replace H := H.nf 11 rfl
 refine nl (sr (bk [0, 1, 9001] F H rfl ⟨fld25_1, rfl, plain9, trivial⟩ ?_)); clear F; intro a F
 obtain ⟨x18, ex18, hm⟩ := ob hm
 refine sc wkP F rfl ent25 (w_lRead ex18 (H.pm 11 [3, 0, 1, 2, 3, 4, 5, 6, 7, 8, 9, 10] rfl:):) ?_; clear F H; rintro _ w a ⟨p19, c19, rfl, H⟩ F
 refine bk (List.replicate 5 0) F H rfl trivial ?_; clear F; intro a F
 replace H := H.nf 12 rfl
 refine nl (sq (sr (bk [0] F H rfl ⟨fld37_0, trivial⟩ ?_))); clear F; intro a F
 replace H := rc_api_Answer (H.pk 5 rfl); obtain ⟨p20, c21, p22, c23, rfl, H⟩ := H
 refine bk [3000, 0] F H rfl ⟨rfl, plain33, trivial⟩ ?_; clear F; intro a F
 refine nl (cN F rfl (fun hg24 => ?_) (fun hg24 => ?_))
 replace hm := ifF hg24 hm
 refine sr (bk [0] F H rfl trivial ?_); clear F; intro a F
 refine s_val wkP F rfl rfl rfl rfl (y_b2s F Tryz.underlying23 Tryz.underlying9 Tryz.underlying5 rfl rfl (H) 8 rfl) ?_; clear F; intro a F
 refine bk [0] F H rfl trivial ?_; clear F; intro a F
 refine s_val wkP F rfl rfl rfl rfl (y_b2s F Tryz.underlying23 Tryz.underlying9 Tryz.underlying5 rfl rfl (H) 2 rfl) ?_; clear F; intro a F
 refine s_val wkP F rfl rfl rfl rfl (y_eqT (l := x12.1) (m := x18.1) F rfl rfl rfl) ?_; clear F; intro a F
 refine bk [0] F H rfl trivial ?_; clear F; intro a F
 by_cases hg25 : x12.1 = x18.1
 replace hm := ifT hg25 hm
 replace F := F.bT 53 hg25 rfl
 refine bk (List.replicate 5 0) F H rfl trivial ?_; clear F; intro a F
 by_cases hg26 : x12.2 = x18.2
 replace hm := ifT hg26 hm
 replace F := F.bT 58 hg26 rfl
 refine bk [0, 0] F H rfl trivial ?_; clear F; intro a F
 refine g_onP F rfl rfl rfl rfl ?_
 obtain ⟨x27, ex27, hm⟩ := ob hm
 refine sc wkP F rfl ent19 (w_rSamePairs ex27 (H.pm 13 [6, 12, 0, 1, 2, 3, 4, 5, 6, 7, 8, 9, 10, 11, 12] rfl:):) ?_; clear F H; rintro _ w a ⟨rfl, H⟩ F
 refine bk [0, 0] F H rfl trivial ?_; clear F; intro a F
 replace H := H.nf 13 rfl
 refine nl (wr (tr ?_))
 cases hm
 refine x_ret1 F rfl rfl ?_
 exact ⟨_, rfl, rfl, (H.pm 13 [] rfl:)⟩
 replace hm := ifF hg26 hm
 replace F := F.bF 58 hg26 rfl
 refine bk (List.replicate 5 0) F H rfl trivial ?_; clear F; intro a F
 refine nl (wr (tr ?_))
 cases hm
 refine x_ret1 F rfl rfl ?_
 exact ⟨_, rfl, rfl, (H.pm 13 [] rfl:)⟩
 replace hm := ifF hg25 hm
 replace F := F.bF 53 hg25 rfl
 refine bk (List.replicate 10 0) F H rfl trivial ?_; clear F; intro a F
 refine nl (wr (tr ?_))
 cases hm
 refine x_ret1 F rfl rfl ?_
 exact ⟨_, rfl, rfl, (H.pm 13 [] rfl:)⟩
 replace hm := ifT hg24 hm
 refine sk (ct (sq (sr (bk [1, 3001, 5, 11005, 0, 0, 0] F H rfl ⟨fld37_1, rfl, plain3, fld25_5, rfl, plain23, ⟨_, Tryz.underlying23⟩, trivial⟩ ?_)))); clear F; intro a F
 by_cases hg28 : x14.2.2.1 = ((oq.2.2.2.2.2).length : Int)
 replace hm := ifT hg28 hm
 replace F := F.nT 69 hg28 rfl
 refine bk (List.replicate 6 0) F H rfl ⟨⟨_, Tryz.underlying23⟩, trivial⟩ ?_; clear F; intro a F
 by_cases hg29 : ((x12.1).length : Int) = x12.2
 replace hm := ifT hg29 hm
 replace F := F.nT 75 hg29 rfl
 refine bk (List.replicate 6 0) F H rfl ⟨⟨_, Tryz.underlying23⟩, trivial⟩ ?_; clear F; intro a F
 by_cases hg30 : ((x18.1).length : Int) = x18.2
 replace hm := ifT hg30 hm
 replace F := F.nT 81 hg30 rfl
 refine bk [5, 11005, 0, 0, 0] F H rfl ⟨fld25_5, rfl, plain23, ⟨_, Tryz.underlying23⟩, trivial⟩ ?_; clear F; intro a F
 by_cases hg31 : 0 < ((oq.2.2.2.2.2).length : Int)
 replace hm := ifT hg31 hm
 replace F := F.bT 86 hg31 rfl
 refine bk [0, 0, 3, 11003, 5, 11005, 0, 0] F H rfl ⟨fld25_3, rfl, plain3, fld25_5, rfl, plain23, ⟨_, Tryz.underlying23⟩, trivial⟩ ?_; clear F; intro a F
 refine g_onP F rfl rfl rfl rfl ?_
 refine s_val wkP F rfl rfl rfl rfl (y_max F rfl rfl rfl rfl) ?_; clear F; intro a F
 refine bk [0, 0, 0, 0] F H rfl trivial ?_; clear F; intro a F
 by_cases hg32 : x18.2 = (max x12.2 (IntKind.i64.wrap (oq.2.2.2.1 + ((oq.2.2.2.2.2).length : Int))))
 replace hm := ifT hg32 hm
 replace F := F.nT 99 hg32 rfl
 refine bk [5, 11005, 0, 0, 0] F H rfl ⟨fld25_5, rfl, plain23, ⟨_, Tryz.underlying23⟩, trivial⟩ ?_; clear F; intro a F
 by_cases hg33 : ((oq.2.2.2.2.2).length : Int) = 0
 replace hm := ifT hg33 hm
 replace F := F.bT 104 hg33 rfl
 refine bk (List.replicate 5 0) F H rfl trivial ?_; clear F; intro a F
 refine nl (cN F rfl (fun hg34 => ?_) (fun hg34 => ?_))
 replace hm := ifF hg34 hm
 refine sr (bk [0] F H rfl trivial ?_); clear F; intro a F
 refine nl (wr (tr ?_))
 cases hm
 refine x_ret1 F rfl rfl ?_
 exact ⟨_, rfl, rfl, (H.pm 13 [] rfl:)⟩
 replace hm := ifT hg34 hm
 refine sk (ct (sq (sr (bk [0, 0, 0] F H rfl ⟨⟨_, Tryz.underlying23⟩, trivial⟩ ?_)))); clear F; intro a F
 refine nl ?_
 obtain ⟨o186, eo186, hm186⟩ := ob hm; clear hm; revert eo186; intro hm
 refine x_mid (fun aa ww => ∃ r186, o186 = Sum.inl r186 ∧ Fr ⟨151, []⟩ aa [] ∧ St w0 ww (HP.sl rByte p20 c21 x14.2.2.2.1 :: HP.sl rStr p22 c23 x14.2.2.2.2 :: HP.blk b17 ([.int .i64 (x14.2.1), .int .i64 (x14.2.2.1), .slice p20 (x14.2.2.2.1).length c21, .slice p22 (x14.2.2.2.2).length c23]) 37 :: HP.ow rStr 9 none 0 ([] : List (List UInt8)) :: HP.ow rByte 5 none 0 ([] : List UInt8) :: HP.sl rByte p6 c7 oq.2.2.2.2.2 :: HP.blk b3 ([.int .i64 (3), .string (txb (oq.2.1)), .string (txb (oq.2.2.1)), .int .i64 (oq.2.2.2.1), .int .i64 (oq.2.2.2.2.1), .slice p6 (oq.2.2.2.2.2).length c7]) 25 :: l)) ?_ ?_
 refine bl ?_
 refine x_loopO _ (fun (s287 : Int) aa ww => Fr ⟨151, []⟩ aa [(3, .pointer (some ⟨b3, 0, none⟩)), (5, .slice p13 (x12.1).length c13), (110, .slice p19 (x18.1).length c19), (111, .int .i64 (((x18.1).length : Int))), (112, .int .i64 (s287))] ∧ St w0 ww (HP.sl rByte p20 c21 x14.2.2.2.1 :: HP.sl rStr p22 c23 x14.2.2.2.2 :: HP.sl rByte p19 c19 x18.1 :: HP.blk b17 ([.int .i64 (x14.2.1), .int .i64 (x14.2.2.1), .slice p20 (x14.2.2.2.1).length c21, .slice p22 (x14.2.2.2.2).length c23]) 37 :: HP.ow rStr 9 none 0 ([] : List (List UInt8)) :: HP.ow rByte 5 none 0 ([] : List UInt8) :: HP.sl rByte p13 c13 x12.1 :: HP.sl rByte p6 c7 oq.2.2.2.2.2 :: HP.blk b3 ([.int .i64 (3), .string (txb (oq.2.1)), .string (txb (oq.2.2.1)), .int .i64 (oq.2.2.2.1), .int .i64 (oq.2.2.2.2.1), .slice p6 (oq.2.2.2.2.2).length c7]) 25 :: l)) hm ⟨F.sl rfl, (H.pm 13 [0, 1, 2, 3, 4, 5, 8, 10, 11] rfl:)⟩ ?_
 clear F H hm
 rintro s287 a w o ⟨F, H⟩ hm
 refine sr (bk [0] F H rfl trivial ?_); clear F; intro a F
 refine nl (sq (cP F rfl (fun hg288 => ?_) (fun hg288 => ?_)))
 replace hm := ifT hg288 hm
 refine sk (ct (sq ?_))
 obtain ⟨o313, eo313, hm313⟩ := ob hm; clear hm; revert eo313; intro hm
 refine x_mid (fun aa ww => ∃ r313, o313 = Sum.inl r313 ∧ Fr ⟨151, []⟩ aa [(3, .pointer (some ⟨b3, 0, none⟩)), (5, .slice p13 (x12.1).length c13), (110, .slice p19 (x18.1).length c19), (111, .int .i64 (((x18.1).length : Int))), (112, .int .i64 (s287))] ∧ St w0 ww (HP.sl rByte p20 c21 x14.2.2.2.1 :: HP.sl rStr p22 c23 x14.2.2.2.2 :: HP.sl rByte p19 c19 x18.1 :: HP.blk b17 ([.int .i64 (x14.2.1), .int .i64 (x14.2.2.1), .slice p20 (x14.2.2.2.1).length c21, .slice p22 (x14.2.2.2.2).length c23]) 37 :: HP.ow rStr 9 none 0 ([] : List (List UInt8)) :: HP.ow rByte 5 none 0 ([] : List UInt8) :: HP.sl rByte p13 c13 x12.1 :: HP.sl rByte p6 c7 oq.2.2.2.2.2 :: HP.blk b3 ([.int .i64 (3), .string (txb (oq.2.1)), .string (txb (oq.2.2.1)), .int .i64 (oq.2.2.2.1), .int .i64 (oq.2.2.2.2.1), .slice p6 (oq.2.2.2.2.2).length c7]) 25 :: l)) ?_ ?_
 refine bl (sr (bk [0] F H rfl trivial ?_)); clear F; intro a F
 obtain ⟨x314, ex314, hm⟩ := ob hm
 obtain ⟨b315, o315, hp315⟩ := H.slP 2 rfl (idxO_some ex314).2
 obtain ⟨cs316, hcl316, H⟩ := H.slEl 2 rfl hp315 (idxO_some ex314).2
 obtain rfl := H.rcB 1 rfl
 replace H := H.dp 1 rfl
 clear hcl316
 refine s_val wkP F rfl rfl rfl rfl (y_idxS F elem23 rfl rfl rfl hp315 ex314) ?_; clear F; intro a F
 refine bk [0, 0, 0] F H rfl ⟨rfl, plain5, trivial⟩ ?_; clear F; intro a F
 refine nl (sr (bk [0] F H rfl trivial ?_)); clear F; intro a F
 refine nl (sq (sr (bk [0, 0, 0, 0] F H rfl ⟨⟨_, Tryz.underlying23⟩, trivial⟩ ?_))); clear F; intro a F
 refine nl ?_
 obtain ⟨r321, er321, hm321⟩ := ob hm; clear hm; revert er321; intro hm
 refine x_mid (fun aa ww => Fr ⟨151, []⟩ aa [(3, .pointer (some ⟨b3, 0, none⟩)), (5, .slice p13 (x12.1).length c13), (11, .int .i64 (s287)), (12, .int .u8 (((x314).toNat : Int))), (13, .int .u8 (r321)), (110, .slice p19 (x18.1).length c19), (111, .int .i64 (((x18.1).length : Int))), (112, .int .i64 (s287))] ∧ St w0 ww (HP.row b315 (o315 + (s287 : Int).toNat * 1) ([.int .u8 (((x314).toNat : Int))]) :: HP.sl rByte p20 c21 x14.2.2.2.1 :: HP.sl rStr p22 c23 x14.2.2.2.2 :: HP.sl rByte p19 c19 x18.1 :: HP.blk b17 ([.int .i64 (x14.2.1), .int .i64 (x14.2.2.1), .slice p20 (x14.2.2.2.1).length c21, .slice p22 (x14.2.2.2.2).length c23]) 37 :: HP.ow rStr 9 none 0 ([] : List (List UInt8)) :: HP.ow rByte 5 none 0 ([] : List UInt8) :: HP.sl rByte p13 c13 x12.1 :: HP.sl rByte p6 c7 oq.2.2.2.2.2 :: HP.blk b3 ([.int .i64 (3), .string (txb (oq.2.1)), .string (txb (oq.2.2.1)), .int .i64 (oq.2.2.2.1), .int .i64 (oq.2.2.2.2.1), .slice p6 (oq.2.2.2.2.2).length c7]) 25 :: l)) ?_ ?_
 refine cP F rfl (fun hg322 => ?_) (fun hg322 => ?_)
 replace hm := ifT hg322 hm
 refine rl (bk [0, 0] F H rfl trivial ?_); clear F; intro a F
 obtain ⟨x323, ex323, hm⟩ := ob hm
 obtain ⟨b324, o324, hp324⟩ := H.slP 7 rfl (idxO_some ex323).2
 obtain ⟨cs325, hcl325, H⟩ := H.slEl 7 rfl hp324 (idxO_some ex323).2
 obtain rfl := H.rcB 1 rfl
 replace H := H.dp 1 rfl
 clear hcl325
 refine s_val wkP F rfl rfl rfl rfl (y_idxS F elem23 rfl rfl rfl hp324 ex323) ?_; clear F; intro a F
 refine bk [0, 0] F H rfl ⟨rfl, plain5, trivial⟩ ?_; clear F; intro a F
 refine lz ?_
 cases hm
 refine ct ?_
 exact ⟨F.sl rfl, (H.pm 11 [1, 2, 3, 4, 5, 6, 7, 8, 9, 10] rfl:)⟩
 replace hm := ifF hg322 hm
 refine sk ?_
 cases hm
 refine ct ?_
 exact ⟨F.sl rfl, H⟩
 clear F H hm
 rintro a w ⟨F, H⟩; have hm := hm321; clear hm321
 refine ct (sq (sr (bk [0, 3, 9003, 0, 0] F H rfl ⟨fld25_3, rfl, plain3, trivial⟩ ?_))); clear F; intro a F
 by_cases hg326 : oq.2.2.2.1 ≤ s287
 replace hm := ifT hg326 hm
 replace F := F.bT 129 hg326 rfl
 refine bk [0, 3, 9003, 0, 5, 9005, 0, 0, 0] F H rfl ⟨fld25_3, rfl, plain3, fld25_5, rfl, plain23, ⟨_, Tryz.underlying23⟩, trivial⟩ ?_; clear F; intro a F
 refine nl ?_
 obtain ⟨r331, er331, hm331⟩ := ob hm; clear hm; revert er331; intro hm
 refine x_mid (fun aa ww => Fr ⟨151, []⟩ aa [(3, .pointer (some ⟨b3, 0, none⟩)), (5, .slice p13 (x12.1).length c13), (12, .int .u8 (((x314).toNat : Int))), (13, .int .u8 (r331)), (110, .slice p19 (x18.1).length c19), (111, .int .i64 (((x18.1).length : Int))), (112, .int .i64 (s287))] ∧ St w0 ww (HP.row b315 (o315 + (s287 : Int).toNat * 1) ([.int .u8 (((x314).toNat : Int))]) :: HP.sl rByte p20 c21 x14.2.2.2.1 :: HP.sl rStr p22 c23 x14.2.2.2.2 :: HP.sl rByte p19 c19 x18.1 :: HP.blk b17 ([.int .i64 (x14.2.1), .int .i64 (x14.2.2.1), .slice p20 (x14.2.2.2.1).length c21, .slice p22 (x14.2.2.2.2).length c23]) 37 :: HP.ow rStr 9 none 0 ([] : List (List UInt8)) :: HP.ow rByte 5 none 0 ([] : List UInt8) :: HP.sl rByte p13 c13 x12.1 :: HP.sl rByte p6 c7 oq.2.2.2.2.2 :: HP.blk b3 ([.int .i64 (3), .string (txb (oq.2.1)), .string (txb (oq.2.2.1)), .int .i64 (oq.2.2.2.1), .int .i64 (oq.2.2.2.2.1), .slice p6 (oq.2.2.2.2.2).length c7]) 25 :: l)) ?_ ?_
 refine cP F rfl (fun hg332 => ?_) (fun hg332 => ?_)
 replace hm := ifT hg332 hm
 refine rl (bk [5, 9005, 0, 3, 9003, 0] F H rfl ⟨fld25_5, rfl, plain23, fld25_3, rfl, plain3, trivial⟩ ?_); clear F; intro a F
 obtain ⟨x333, ex333, hm⟩ := ob hm
 obtain ⟨b334, o334, hp334⟩ := H.slP 8 rfl (idxO_some ex333).2
 obtain ⟨cs335, hcl335, H⟩ := H.slEl 8 rfl hp334 (idxO_some ex333).2
 obtain rfl := H.rcB 1 rfl
 replace H := H.dp 1 rfl
 clear hcl335
 refine s_val wkP F rfl rfl rfl rfl (y_idxS F elem23 rfl rfl rfl hp334 ex333) ?_; clear F; intro a F
 refine bk [0, 0] F H rfl ⟨rfl, plain5, trivial⟩ ?_; clear F; intro a F
 refine lz ?_
 cases hm
 refine ct ?_
 exact ⟨F.sl rfl, (H.pm 11 [1, 2, 3, 4, 5, 6, 7, 8, 9, 10] rfl:)⟩
 replace hm := ifF hg332 hm
 refine sk ?_
 cases hm
 refine ct ?_
 exact ⟨F.sl rfl, H⟩
 clear F H hm
 rintro a w ⟨F, H⟩; have hm := hm331; clear hm331
 refine ct (sr (bk [0, 0, 0] F H rfl trivial ?_)); clear F; intro a F
 refine nl (cN F rfl (fun hg336 => ?_) (fun hg336 => ?_))
 replace hm := ifF hg336 hm
 refine sr (bk [0] F H rfl trivial ?_); clear F; intro a F
 refine nl (wr (br (tr ?_)))
 cases hm
 replace hm := elimR hm313
 refine tr (tr ?_); cases hm; refine ⟨_, rfl, ?_⟩; rintro rfl
 refine br (tr ?_)
 replace hm := elimR hm186
 refine tr ?_
 cases hm
 refine x_ret1 F rfl rfl ?_
 exact ⟨_, rfl, rfl, (H.pm 10 [] rfl:)⟩
 replace hm := ifT hg336 hm
 refine sk (bn ?_)
 cases hm
 refine ct ?_
 exact ⟨_, rfl, F.sl rfl, (H.pm 10 [1, 2, 3, 4, 5, 6, 7, 8, 9] rfl:)⟩
 replace hm := ifF hg326 hm
 replace F := F.bF 129 hg326 rfl
 refine bk (List.replicate 9 0) F H rfl trivial ?_; clear F; intro a F
 refine nl (cF F rfl ?_)
 refine sk (ct (sr (bk [0, 0, 0] F H rfl trivial ?_))); clear F; intro a F
 refine nl (cN F rfl (fun hg337 => ?_) (fun hg337 => ?_))
 replace hm := ifF hg337 hm
 refine sr (bk [0] F H rfl trivial ?_); clear F; intro a F
 refine nl (wr (br (tr ?_)))
 cases hm
 replace hm := elimR hm313
 refine tr (tr ?_); cases hm; refine ⟨_, rfl, ?_⟩; rintro rfl
 refine br (tr ?_)
 replace hm := elimR hm186
 refine tr ?_
 cases hm
 refine x_ret1 F rfl rfl ?_
 exact ⟨_, rfl, rfl, (H.pm 10 [] rfl:)⟩
 replace hm := ifT hg337 hm
 refine sk (bn ?_)
 cases hm
 refine ct ?_
 exact ⟨_, rfl, F.sl rfl, (H.pm 10 [1, 2, 3, 4, 5, 6, 7, 8, 9] rfl:)⟩
 clear F H hm
 rintro a w ⟨r313, rfl, F, H⟩; have hm := elimL hm313; clear hm313
 refine ct (rl (bk [0, 0] F H rfl trivial ?_)); clear F; intro a F
 refine lz (ct ?_); cases hm
 exact ⟨_, rfl, ⟨F.sl rfl, H⟩⟩
 replace hm := ifF hg288 hm
 refine ex (cx (cx ?_)); cases hm; refine ⟨_, rfl, ?_⟩; rintro rfl
 refine ch (ct ?_)
 exact ⟨_, rfl, F.cut _ trivial, (H.pm 9 [0, 1, 3, 4, 5, 7, 8] rfl:)⟩
 clear F H hm
 rintro a w ⟨r186, rfl, F, H⟩; have hm := elimL hm186; clear hm186
 refine ct (sr (bk [0] F H rfl trivial ?_)); clear F; intro a F
 refine nl (wr ?_)
 cases hm
 refine x_ret1 F rfl rfl ?_
 exact ⟨_, rfl, rfl, (H.pm 7 [] rfl:)⟩
 replace hm := ifF hg33 hm
 replace F := F.bF 104 hg33 rfl
 refine bk (List.replicate 5 0) F H rfl trivial ?_; clear F; intro a F
 refine nl (cF F rfl ?_)
 refine sk (ct (sq (sr (bk [0, 0, 0] F H rfl ⟨⟨_, Tryz.underlying23⟩, trivial⟩ ?_)))); clear F; intro a F
 refine nl ?_
 obtain ⟨o489, eo489, hm489⟩ := ob hm; clear hm; revert eo489; intro hm
 refine x_mid (fun aa ww => ∃ r489, o489 = Sum.inl r489 ∧ Fr ⟨151, []⟩ aa [] ∧ St w0 ww (HP.sl rByte p20 c21 x14.2.2.2.1 :: HP.sl rStr p22 c23 x14.2.2.2.2 :: HP.blk b17 ([.int .i64 (x14.2.1), .int .i64 (x14.2.2.1), .slice p20 (x14.2.2.2.1).length c21, .slice p22 (x14.2.2.2.2).length c23]) 37 :: HP.ow rStr 9 none 0 ([] : List (List UInt8)) :: HP.ow rByte 5 none 0 ([] : List UInt8) :: HP.sl rByte p6 c7 oq.2.2.2.2.2 :: HP.blk b3 ([.int .i64 (3), .string (txb (oq.2.1)), .string (txb (oq.2.2.1)), .int .i64 (oq.2.2.2.1), .int .i64 (oq.2.2.2.2.1), .slice p6 (oq.2.2.2.2.2).length c7]) 25 :: l)) ?_ ?_
 refine bl ?_
 refine x_loopO _ (fun (s590 : Int) aa ww => Fr ⟨151, []⟩ aa [(3, .pointer (some ⟨b3, 0, none⟩)), (5, .slice p13 (x12.1).length c13), (110, .slice p19 (x18.1).length c19), (111, .int .i64 (((x18.1).length : Int))), (112, .int .i64 (s590))] ∧ St w0 ww (HP.sl rByte p20 c21 x14.2.2.2.1 :: HP.sl rStr p22 c23 x14.2.2.2.2 :: HP.sl rByte p19 c19 x18.1 :: HP.blk b17 ([.int .i64 (x14.2.1), .int .i64 (x14.2.2.1), .slice p20 (x14.2.2.2.1).length c21, .slice p22 (x14.2.2.2.2).length c23]) 37 :: HP.ow rStr 9 none 0 ([] : List (List UInt8)) :: HP.ow rByte 5 none 0 ([] : List UInt8) :: HP.sl rByte p13 c13 x12.1 :: HP.sl rByte p6 c7 oq.2.2.2.2.2 :: HP.blk b3 ([.int .i64 (3), .string (txb (oq.2.1)), .string (txb (oq.2.2.1)), .int .i64 (oq.2.2.2.1), .int .i64 (oq.2.2.2.2.1), .slice p6 (oq.2.2.2.2.2).length c7]) 25 :: l)) hm ⟨F.sl rfl, (H.pm 13 [0, 1, 2, 3, 4, 5, 8, 10, 11] rfl:)⟩ ?_
 clear F H hm
 rintro s590 a w o ⟨F, H⟩ hm
 refine sr (bk [0] F H rfl trivial ?_); clear F; intro a F
 refine nl (sq (cP F rfl (fun hg591 => ?_) (fun hg591 => ?_)))
 replace hm := ifT hg591 hm
 refine sk (ct (sq ?_))
 obtain ⟨o616, eo616, hm616⟩ := ob hm; clear hm; revert eo616; intro hm
 refine x_mid (fun aa ww => ∃ r616, o616 = Sum.inl r616 ∧ Fr ⟨151, []⟩ aa [(3, .pointer (some ⟨b3, 0, none⟩)), (5, .slice p13 (x12.1).length c13), (110, .slice p19 (x18.1).length c19), (111, .int .i64 (((x18.1).length : Int))), (112, .int .i64 (s590))] ∧ St w0 ww (HP.sl rByte p20 c21 x14.2.2.2.1 :: HP.sl rStr p22 c23 x14.2.2.2.2 :: HP.sl rByte p19 c19 x18.1 :: HP.blk b17 ([.int .i64 (x14.2.1), .int .i64 (x14.2.2.1), .slice p20 (x14.2.2.2.1).length c21, .slice p22 (x14.2.2.2.2).length c23]) 37 :: HP.ow rStr 9 none 0 ([] : List (List UInt8)) :: HP.ow rByte 5 none 0 ([] : List UInt8) :: HP.sl rByte p13 c13 x12.1 :: HP.sl rByte p6 c7 oq.2.2.2.2.2 :: HP.blk b3 ([.int .i64 (3), .string (txb (oq.2.1)), .string (txb (oq.2.2.1)), .int .i64 (oq.2.2.2.1), .int .i64 (oq.2.2.2.2.1), .slice p6 (oq.2.2.2.2.2).length c7]) 25 :: l)) ?_ ?_
 refine bl (sr (bk [0] F H rfl trivial ?_)); clear F; intro a F
 obtain ⟨x617, ex617, hm⟩ := ob hm
 obtain ⟨b618, o618, hp618⟩ := H.slP 2 rfl (idxO_some ex617).2
 obtain ⟨cs619, hcl619, H⟩ := H.slEl 2 rfl hp618 (idxO_some ex617).2
 obtain rfl := H.rcB 1 rfl
 replace H := H.dp 1 rfl
 clear hcl619
 refine s_val wkP F rfl rfl rfl rfl (y_idxS F elem23 rfl rfl rfl hp618 ex617) ?_; clear F; intro a F
 refine bk [0, 0, 0] F H rfl ⟨rfl, plain5, trivial⟩ ?_; clear F; intro a F
 refine nl (sr (bk [0] F H rfl trivial ?_)); clear F; intro a F
 refine nl (sq (sr (bk [0, 0, 0, 0] F H rfl ⟨⟨_, Tryz.underlying23⟩, trivial⟩ ?_))); clear F; intro a F
 refine nl ?_
 obtain ⟨r624, er624, hm624⟩ := ob hm; clear hm; revert er624; intro hm
 refine x_mid (fun aa ww => Fr ⟨151, []⟩ aa [(3, .pointer (some ⟨b3, 0, none⟩)), (5, .slice p13 (x12.1).length c13), (11, .int .i64 (s590)), (12, .int .u8 (((x617).toNat : Int))), (13, .int .u8 (r624)), (110, .slice p19 (x18.1).length c19), (111, .int .i64 (((x18.1).length : Int))), (112, .int .i64 (s590))] ∧ St w0 ww (HP.row b618 (o618 + (s590 : Int).toNat * 1) ([.int .u8 (((x617).toNat : Int))]) :: HP.sl rByte p20 c21 x14.2.2.2.1 :: HP.sl rStr p22 c23 x14.2.2.2.2 :: HP.sl rByte p19 c19 x18.1 :: HP.blk b17 ([.int .i64 (x14.2.1), .int .i64 (x14.2.2.1), .slice p20 (x14.2.2.2.1).length c21, .slice p22 (x14.2.2.2.2).length c23]) 37 :: HP.ow rStr 9 none 0 ([] : List (List UInt8)) :: HP.ow rByte 5 none 0 ([] : List UInt8) :: HP.sl rByte p13 c13 x12.1 :: HP.sl rByte p6 c7 oq.2.2.2.2.2 :: HP.blk b3 ([.int .i64 (3), .string (txb (oq.2.1)), .string (txb (oq.2.2.1)), .int .i64 (oq.2.2.2.1), .int .i64 (oq.2.2.2.2.1), .slice p6 (oq.2.2.2.2.2).length c7]) 25 :: l)) ?_ ?_
 refine cP F rfl (fun hg625 => ?_) (fun hg625 => ?_)
 replace hm := ifT hg625 hm
 refine rl (bk [0, 0] F H rfl trivial ?_); clear F; intro a F
 obtain ⟨x626, ex626, hm⟩ := ob hm
 obtain ⟨b627, o627, hp627⟩ := H.slP 7 rfl (idxO_some ex626).2
 obtain ⟨cs628, hcl628, H⟩ := H.slEl 7 rfl hp627 (idxO_some ex626).2
 obtain rfl := H.rcB 1 rfl
 replace H := H.dp 1 rfl
 clear hcl628
 refine s_val wkP F rfl rfl rfl rfl (y_idxS F elem23 rfl rfl rfl hp627 ex626) ?_; clear F; intro a F
 refine bk [0, 0] F H rfl ⟨rfl, plain5, trivial⟩ ?_; clear F; intro a F
 refine lz ?_
 cases hm
 refine ct ?_
 exact ⟨F.sl rfl, (H.pm 11 [1, 2, 3, 4, 5, 6, 7, 8, 9, 10] rfl:)⟩
 replace hm := ifF hg625 hm
 refine sk ?_
 cases hm
 refine ct ?_
 exact ⟨F.sl rfl, H⟩
 clear F H hm
 rintro a w ⟨F, H⟩; have hm := hm624; clear hm624
 refine ct (sq (sr (bk [0, 3, 9003, 0, 0] F H rfl ⟨fld25_3, rfl, plain3, trivial⟩ ?_))); clear F; intro a F
 by_cases hg629 : oq.2.2.2.1 ≤ s590
 replace hm := ifT hg629 hm
 replace F := F.bT 129 hg629 rfl
 refine bk [0, 3, 9003, 0, 5, 9005, 0, 0, 0] F H rfl ⟨fld25_3, rfl, plain3, fld25_5, rfl, plain23, ⟨_, Tryz.underlying23⟩, trivial⟩ ?_; clear F; intro a F
 refine nl ?_
 obtain ⟨r634, er634, hm634⟩ := ob hm; clear hm; revert er634; intro hm
 refine x_mid (fun aa ww => Fr ⟨151, []⟩ aa [(3, .pointer (some ⟨b3, 0, none⟩)), (5, .slice p13 (x12.1).length c13), (12, .int .u8 (((x617).toNat : Int))), (13, .int .u8 (r634)), (110, .slice p19 (x18.1).length c19), (111, .int .i64 (((x18.1).length : Int))), (112, .int .i64 (s590))] ∧ St w0 ww (HP.row b618 (o618 + (s590 : Int).toNat * 1) ([.int .u8 (((x617).toNat : Int))]) :: HP.sl rByte p20 c21 x14.2.2.2.1 :: HP.sl rStr p22 c23 x14.2.2.2.2 :: HP.sl rByte p19 c19 x18.1 :: HP.blk b17 ([.int .i64 (x14.2.1), .int .i64 (x14.2.2.1), .slice p20 (x14.2.2.2.1).length c21, .slice p22 (x14.2.2.2.2).length c23]) 37 :: HP.ow rStr 9 none 0 ([] : List (List UInt8)) :: HP.ow rByte 5 none 0 ([] : List UInt8) :: HP.sl rByte p13 c13 x12.1 :: HP.sl rByte p6 c7 oq.2.2.2.2.2 :: HP.blk b3 ([.int .i64 (3), .string (txb (oq.2.1)), .string (txb (oq.2.2.1)), .int .i64 (oq.2.2.2.1), .int .i64 (oq.2.2.2.2.1), .slice p6 (oq.2.2.2.2.2).length c7]) 25 :: l)) ?_ ?_
 refine cP F rfl (fun hg635 => ?_) (fun hg635 => ?_)
 replace hm := ifT hg635 hm
 refine rl (bk [5, 9005, 0, 3, 9003, 0] F H rfl ⟨fld25_5, rfl, plain23, fld25_3, rfl, plain3, trivial⟩ ?_); clear F; intro a F
 obtain ⟨x636, ex636, hm⟩ := ob hm
 obtain ⟨b637, o637, hp637⟩ := H.slP 8 rfl (idxO_some ex636).2
 obtain ⟨cs638, hcl638, H⟩ := H.slEl 8 rfl hp637 (idxO_some ex636).2
 obtain rfl := H.rcB 1 rfl
 replace H := H.dp 1 rfl
 clear hcl638
 refine s_val wkP F rfl rfl rfl rfl (y_idxS F elem23 rfl rfl rfl hp637 ex636) ?_; clear F; intro a F
 refine bk [0, 0] F H rfl ⟨rfl, plain5, trivial⟩ ?_; clear F; intro a F
 refine lz ?_
 cases hm
 refine ct ?_
 exact ⟨F.sl rfl, (H.pm 11 [1, 2, 3, 4, 5, 6, 7, 8, 9, 10] rfl:)⟩
 replace hm := ifF hg635 hm
 refine sk ?_
 cases hm
 refine ct ?_
 exact ⟨F.sl rfl, H⟩
 clear F H hm
 rintro a w ⟨F, H⟩; have hm := hm634; clear hm634
 refine ct (sr (bk [0, 0, 0] F H rfl trivial ?_)); clear F; intro a F
 refine nl (cN F rfl (fun hg639 => ?_) (fun hg639 => ?_))
 replace hm := ifF hg639 hm
 refine sr (bk [0] F H rfl trivial ?_); clear F; intro a F
 refine nl (wr (br (tr ?_)))
 cases hm
 replace hm := elimR hm616
 refine tr (tr ?_); cases hm; refine ⟨_, rfl, ?_⟩; rintro rfl
 refine br (tr ?_)
 replace hm := elimR hm489
 refine tr ?_
 cases hm
 refine x_ret1 F rfl rfl ?_
 exact ⟨_, rfl, rfl, (H.pm 10 [] rfl:)⟩
 replace hm := ifT hg639 hm
 refine sk (bn ?_)
 cases hm
 refine ct ?_
 exact ⟨_, rfl, F.sl rfl, (H.pm 10 [1, 2, 3, 4, 5, 6, 7, 8, 9] rfl:)⟩
 replace hm := ifF hg629 hm
 replace F := F.bF 129 hg629 rfl
 refine bk (List.replicate 9 0) F H rfl trivial ?_; clear F; intro a F
 refine nl (cF F rfl ?_)
 refine sk (ct (sr (bk [0, 0, 0] F H rfl trivial ?_))); clear F; intro a F
 refine nl (cN F rfl (fun hg640 => ?_) (fun hg640 => ?_))
 replace hm := ifF hg640 hm
 refine sr (bk [0] F H rfl trivial ?_); clear F; intro a F
 refine nl (wr (br (tr ?_)))
 cases hm
 replace hm := elimR hm616
 refine tr (tr ?_); cases hm; refine ⟨_, rfl, ?_⟩; rintro rfl
 refine br (tr ?_)
 replace hm := elimR hm489
 refine tr ?_
 cases hm
 refine x_ret1 F rfl rfl ?_
 exact ⟨_, rfl, rfl, (H.pm 10 [] rfl:)⟩
 replace hm := ifT hg640 hm
 refine sk (bn ?_)
 cases hm
 refine ct ?_
 exact ⟨_, rfl, F.sl rfl, (H.pm 10 [1, 2, 3, 4, 5, 6, 7, 8, 9] rfl:)⟩
 clear F H hm
 rintro a w ⟨r616, rfl, F, H⟩; have hm := elimL hm616; clear hm616
 refine ct (rl (bk [0, 0] F H rfl trivial ?_)); clear F; intro a F
 refine lz (ct ?_); cases hm
 exact ⟨_, rfl, ⟨F.sl rfl, H⟩⟩
 replace hm := ifF hg591 hm
 refine ex (cx (cx ?_)); cases hm; refine ⟨_, rfl, ?_⟩; rintro rfl
 refine ch (ct ?_)
 exact ⟨_, rfl, F.cut _ trivial, (H.pm 9 [0, 1, 3, 4, 5, 7, 8] rfl:)⟩
 clear F H hm
 rintro a w ⟨r489, rfl, F, H⟩; have hm := elimL hm489; clear hm489
 refine ct (sr (bk [0] F H rfl trivial ?_)); clear F; intro a F
 refine nl (wr ?_)
 cases hm
 refine x_ret1 F rfl rfl ?_
 exact ⟨_, rfl, rfl, (H.pm 7 [] rfl:)⟩
 replace hm := ifF hg32 hm
 replace F := F.nF 99 hg32 rfl
 refine bk (List.replicate 10 0) F H rfl trivial ?_; clear F; intro a F
 refine nl (cT F rfl ?_)
 refine sr (bk [0] F H rfl trivial ?_); clear F; intro a F
 refine nl (wr (tr ?_))
 cases hm
 refine x_ret1 F rfl rfl ?_
 exact ⟨_, rfl, rfl, (H.pm 13 [] rfl:)⟩
 replace hm := ifF hg31 hm
 replace F := F.bF 86 hg31 rfl
 refine bk [0, 0, 0, 0, 0, 0, 0, 0, 0, 0, 0, 0, 0, 5, 11005, 0, 0, 0] F H rfl ⟨fld25_5, rfl, plain23, ⟨_, Tryz.underlying23⟩, trivial⟩ ?_; clear F; intro a F
 by_cases hg641 : ((oq.2.2.2.2.2).length : Int) = 0
 replace hm := ifT hg641 hm
 replace F := F.bT 104 hg641 rfl
 refine bk (List.replicate 5 0) F H rfl trivial ?_; clear F; intro a F
 refine nl (cN F rfl (fun hg642 => ?_) (fun hg642 => ?_))
 replace hm := ifF hg642 hm
 refine sr (bk [0] F H rfl trivial ?_); clear F; intro a F
 refine nl (wr (tr ?_))
 cases hm
 refine x_ret1 F rfl rfl ?_
 exact ⟨_, rfl, rfl, (H.pm 13 [] rfl:)⟩
 replace hm := ifT hg642 hm
 refine sk (ct (sq (sr (bk [0, 0, 0] F H rfl ⟨⟨_, Tryz.underlying23⟩, trivial⟩ ?_)))); clear F; intro a F
 refine nl ?_
 obtain ⟨o794, eo794, hm794⟩ := ob hm; clear hm; revert eo794; intro hm
 refine x_mid (fun aa ww => ∃ r794, o794 = Sum.inl r794 ∧ Fr ⟨151, []⟩ aa [] ∧ St w0 ww (HP.sl rByte p20 c21 x14.2.2.2.1 :: HP.sl rStr p22 c23 x14.2.2.2.2 :: HP.blk b17 ([.int .i64 (x14.2.1), .int .i64 (x14.2.2.1), .slice p20 (x14.2.2.2.1).length c21, .slice p22 (x14.2.2.2.2).length c23]) 37 :: HP.ow rStr 9 none 0 ([] : List (List UInt8)) :: HP.ow rByte 5 none 0 ([] : List UInt8) :: HP.sl rByte p6 c7 oq.2.2.2.2.2 :: HP.blk b3 ([.int .i64 (3), .string (txb (oq.2.1)), .string (txb (oq.2.2.1)), .int .i64 (oq.2.2.2.1), .int .i64 (oq.2.2.2.2.1), .slice p6 (oq.2.2.2.2.2).length c7]) 25 :: l)) ?_ ?_
 refine bl ?_
 refine x_loopO _ (fun (s895 : Int) aa ww => Fr ⟨151, []⟩ aa [(3, .pointer (some ⟨b3, 0, none⟩)), (5, .slice p13 (x12.1).length c13), (110, .slice p19 (x18.1).length c19), (111, .int .i64 (((x18.1).length : Int))), (112, .int .i64 (s895))] ∧ St w0 ww (HP.sl rByte p20 c21 x14.2.2.2.1 :: HP.sl rStr p22 c23 x14.2.2.2.2 :: HP.sl rByte p19 c19 x18.1 :: HP.blk b17 ([.int .i64 (x14.2.1), .int .i64 (x14.2.2.1), .slice p20 (x14.2.2.2.1).length c21, .slice p22 (x14.2.2.2.2).length c23]) 37 :: HP.ow rStr 9 none 0 ([] : List (List UInt8)) :: HP.ow rByte 5 none 0 ([] : List UInt8) :: HP.sl rByte p13 c13 x12.1 :: HP.sl rByte p6 c7 oq.2.2.2.2.2 :: HP.blk b3 ([.int .i64 (3), .string (txb (oq.2.1)), .string (txb (oq.2.2.1)), .int .i64 (oq.2.2.2.1), .int .i64 (oq.2.2.2.2.1), .slice p6 (oq.2.2.2.2.2).length c7]) 25 :: l)) hm ⟨F.sl rfl, (H.pm 13 [0, 1, 2, 3, 4, 5, 8, 10, 11] rfl:)⟩ ?_
 clear F H hm
 rintro s895 a w o ⟨F, H⟩ hm
 refine sr (bk [0] F H rfl trivial ?_); clear F; intro a F
 refine nl (sq (cP F rfl (fun hg896 => ?_) (fun hg896 => ?_)))
 replace hm := ifT hg896 hm
 refine sk (ct (sq ?_))
 obtain ⟨o921, eo921, hm921⟩ := ob hm; clear hm; revert eo921; intro hm
 refine x_mid (fun aa ww => ∃ r921, o921 = Sum.inl r921 ∧ Fr ⟨151, []⟩ aa [(3, .pointer (some ⟨b3, 0, none⟩)), (5, .slice p13 (x12.1).length c13), (110, .slice p19 (x18.1).length c19), (111, .int .i64 (((x18.1).length : Int))), (112, .int .i64 (s895))] ∧ St w0 ww (HP.sl rByte p20 c21 x14.2.2.2.1 :: HP.sl rStr p22 c23 x14.2.2.2.2 :: HP.sl rByte p19 c19 x18.1 :: HP.blk b17 ([.int .i64 (x14.2.1), .int .i64 (x14.2.2.1), .slice p20 (x14.2.2.2.1).length c21, .slice p22 (x14.2.2.2.2).length c23]) 37 :: HP.ow rStr 9 none 0 ([] : List (List UInt8)) :: HP.ow rByte 5 none 0 ([] : List UInt8) :: HP.sl rByte p13 c13 x12.1 :: HP.sl rByte p6 c7 oq.2.2.2.2.2 :: HP.blk b3 ([.int .i64 (3), .string (txb (oq.2.1)), .string (txb (oq.2.2.1)), .int .i64 (oq.2.2.2.1), .int .i64 (oq.2.2.2.2.1), .slice p6 (oq.2.2.2.2.2).length c7]) 25 :: l)) ?_ ?_
 refine bl (sr (bk [0] F H rfl trivial ?_)); clear F; intro a F
 obtain ⟨x922, ex922, hm⟩ := ob hm
 obtain ⟨b923, o923, hp923⟩ := H.slP 2 rfl (idxO_some ex922).2
 obtain ⟨cs924, hcl924, H⟩ := H.slEl 2 rfl hp923 (idxO_some ex922).2
 obtain rfl := H.rcB 1 rfl
 replace H := H.dp 1 rfl
 clear hcl924
 refine s_val wkP F rfl rfl rfl rfl (y_idxS F elem23 rfl rfl rfl hp923 ex922) ?_; clear F; intro a F
 refine bk [0, 0, 0] F H rfl ⟨rfl, plain5, trivial⟩ ?_; clear F; intro a F
 refine nl (sr (bk [0] F H rfl trivial ?_)); clear F; intro a F
 refine nl (sq (sr (bk [0, 0, 0, 0] F H rfl ⟨⟨_, Tryz.underlying23⟩, trivial⟩ ?_))); clear F; intro a F
 refine nl ?_
 obtain ⟨r929, er929, hm929⟩ := ob hm; clear hm; revert er929; intro hm
 refine x_mid (fun aa ww => Fr ⟨151, []⟩ aa [(3, .pointer (some ⟨b3, 0, none⟩)), (5, .slice p13 (x12.1).length c13), (11, .int .i64 (s895)), (12, .int .u8 (((x922).toNat : Int))), (13, .int .u8 (r929)), (110, .slice p19 (x18.1).length c19), (111, .int .i64 (((x18.1).length : Int))), (112, .int .i64 (s895))] ∧ St w0 ww (HP.row b923 (o923 + (s895 : Int).toNat * 1) ([.int .u8 (((x922).toNat : Int))]) :: HP.sl rByte p20 c21 x14.2.2.2.1 :: HP.sl rStr p22 c23 x14.2.2.2.2 :: HP.sl rByte p19 c19 x18.1 :: HP.blk b17 ([.int .i64 (x14.2.1), .int .i64 (x14.2.2.1), .slice p20 (x14.2.2.2.1).length c21, .slice p22 (x14.2.2.2.2).length c23]) 37 :: HP.ow rStr 9 none 0 ([] : List (List UInt8)) :: HP.ow rByte 5 none 0 ([] : List UInt8) :: HP.sl rByte p13 c13 x12.1 :: HP.sl rByte p6 c7 oq.2.2.2.2.2 :: HP.blk b3 ([.int .i64 (3), .string (txb (oq.2.1)), .string (txb (oq.2.2.1)), .int .i64 (oq.2.2.2.1), .int .i64 (oq.2.2.2.2.1), .slice p6 (oq.2.2.2.2.2).length c7]) 25 :: l)) ?_ ?_
 refine cP F rfl (fun hg930 => ?_) (fun hg930 => ?_)
 replace hm := ifT hg930 hm
 refine rl (bk [0, 0] F H rfl trivial ?_); clear F; intro a F
 obtain ⟨x931, ex931, hm⟩ := ob hm
 obtain ⟨b932, o932, hp932⟩ := H.slP 7 rfl (idxO_some ex931).2
 obtain ⟨cs933, hcl933, H⟩ := H.slEl 7 rfl hp932 (idxO_some ex931).2
 obtain rfl := H.rcB 1 rfl
 replace H := H.dp 1 rfl
 clear hcl933
 refine s_val wkP F rfl rfl rfl rfl (y_idxS F elem23 rfl rfl rfl hp932 ex931) ?_; clear F; intro a F
 refine bk [0, 0] F H rfl ⟨rfl, plain5, trivial⟩ ?_; clear F; intro a F
 refine lz ?_
 cases hm
 refine ct ?_
 exact ⟨F.sl rfl, (H.pm 11 [1, 2, 3, 4, 5, 6, 7, 8, 9, 10] rfl:)⟩
 replace hm := ifF hg930 hm
 refine sk ?_
 cases hm
 refine ct ?_
 exact ⟨F.sl rfl, H⟩
 clear F H hm
 rintro a w ⟨F, H⟩; have hm := hm929; clear hm929
 refine ct (sq (sr (bk [0, 3, 9003, 0, 0] F H rfl ⟨fld25_3, rfl, plain3, trivial⟩ ?_))); clear F; intro a F
 by_cases hg934 : oq.2.2.2.1 ≤ s895
 replace hm := ifT hg934 hm
 replace F := F.bT 129 hg934 rfl
 refine bk [0, 3, 9003, 0, 5, 9005, 0, 0, 0] F H rfl ⟨fld25_3, rfl, plain3, fld25_5, rfl, plain23, ⟨_, Tryz.underlying23⟩, trivial⟩ ?_; clear F; intro a F
 refine nl ?_
 obtain ⟨r939, er939, hm939⟩ := ob hm; clear hm; revert er939; intro hm
 refine x_mid (fun aa ww => Fr ⟨151, []⟩ aa [(3, .pointer (some ⟨b3, 0, none⟩)), (5, .slice p13 (x12.1).length c13), (12, .int .u8 (((x922).toNat : Int))), (13, .int .u8 (r939)), (110, .slice p19 (x18.1).length c19), (111, .int .i64 (((x18.1).length : Int))), (112, .int .i64 (s895))] ∧ St w0 ww (HP.row b923 (o923 + (s895 : Int).toNat * 1) ([.int .u8 (((x922).toNat : Int))]) :: HP.sl rByte p20 c21 x14.2.2.2.1 :: HP.sl rStr p22 c23 x14.2.2.2.2 :: HP.sl rByte p19 c19 x18.1 :: HP.blk b17 ([.int .i64 (x14.2.1), .int .i64 (x14.2.2.1), .slice p20 (x14.2.2.2.1).length c21, .slice p22 (x14.2.2.2.2).length c23]) 37 :: HP.ow rStr 9 none 0 ([] : List (List UInt8)) :: HP.ow rByte 5 none 0 ([] : List UInt8) :: HP.sl rByte p13 c13 x12.1 :: HP.sl rByte p6 c7 oq.2.2.2.2.2 :: HP.blk b3 ([.int .i64 (3), .string (txb (oq.2.1)), .string (txb (oq.2.2.1)), .int .i64 (oq.2.2.2.1), .int .i64 (oq.2.2.2.2.1), .slice p6 (oq.2.2.2.2.2).length c7]) 25 :: l)) ?_ ?_
 refine cP F rfl (fun hg940 => ?_) (fun hg940 => ?_)
 replace hm := ifT hg940 hm
 refine rl (bk [5, 9005, 0, 3, 9003, 0] F H rfl ⟨fld25_5, rfl, plain23, fld25_3, rfl, plain3, trivial⟩ ?_); clear F; intro a F
 obtain ⟨x941, ex941, hm⟩ := ob hm
 obtain ⟨b942, o942, hp942⟩ := H.slP 8 rfl (idxO_some ex941).2
 obtain ⟨cs943, hcl943, H⟩ := H.slEl 8 rfl hp942 (idxO_some ex941).2
 obtain rfl := H.rcB 1 rfl
 replace H := H.dp 1 rfl
 clear hcl943
 refine s_val wkP F rfl rfl rfl rfl (y_idxS F elem23 rfl rfl rfl hp942 ex941) ?_; clear F; intro a F
 refine bk [0, 0] F H rfl ⟨rfl, plain5, trivial⟩ ?_; clear F; intro a F
 refine lz ?_
 cases hm
 refine ct ?_
 exact ⟨F.sl rfl, (H.pm 11 [1, 2, 3, 4, 5, 6, 7, 8, 9, 10] rfl:)⟩
 replace hm := ifF hg940 hm
 refine sk ?_
 cases hm
 refine ct ?_
 exact ⟨F.sl rfl, H⟩
 clear F H hm
 rintro a w ⟨F, H⟩; have hm := hm939; clear hm939
 refine ct (sr (bk [0, 0, 0] F H rfl trivial ?_)); clear F; intro a F
 refine nl (cN F rfl (fun hg944 => ?_) (fun hg944 => ?_))
 replace hm := ifF hg944 hm
 refine sr (bk [0] F H rfl trivial ?_); clear F; intro a F
 refine nl (wr (br (tr ?_)))
 cases hm
 replace hm := elimR hm921
 refine tr (tr ?_); cases hm; refine ⟨_, rfl, ?_⟩; rintro rfl
 refine br (tr ?_)
 replace hm := elimR hm794
 refine tr ?_
 cases hm
 refine x_ret1 F rfl rfl ?_
 exact ⟨_, rfl, rfl, (H.pm 10 [] rfl:)⟩
 replace hm := ifT hg944 hm
 refine sk (bn ?_)
 cases hm
 refine ct ?_
 exact ⟨_, rfl, F.sl rfl, (H.pm 10 [1, 2, 3, 4, 5, 6, 7, 8, 9] rfl:)⟩
 replace hm := ifF hg934 hm
 replace F := F.bF 129 hg934 rfl
 refine bk (List.replicate 9 0) F H rfl trivial ?_; clear F; intro a F
 refine nl (cF F rfl ?_)
 refine sk (ct (sr (bk [0, 0, 0] F H rfl trivial ?_))); clear F; intro a F
 refine nl (cN F rfl (fun hg945 => ?_) (fun hg945 => ?_))
 replace hm := ifF hg945 hm
 refine sr (bk [0] F H rfl trivial ?_); clear F; intro a F
 refine nl (wr (br (tr ?_)))
 cases hm
 replace hm := elimR hm921
 refine tr (tr ?_); cases hm; refine ⟨_, rfl, ?_⟩; rintro rfl
 refine br (tr ?_)
 replace hm := elimR hm794
 refine tr ?_
 cases hm
 refine x_ret1 F rfl rfl ?_
 exact ⟨_, rfl, rfl, (H.pm 10 [] rfl:)⟩
 replace hm := ifT hg945 hm
 refine sk (bn ?_)
 cases hm
 refine ct ?_
 exact ⟨_, rfl, F.sl rfl, (H.pm 10 [1, 2, 3, 4, 5, 6, 7, 8, 9] rfl:)⟩
 clear F H hm
 rintro a w ⟨r921, rfl, F, H⟩; have hm := elimL hm921; clear hm921
 refine ct (rl (bk [0, 0] F H rfl trivial ?_)); clear F; intro a F
 refine lz (ct ?_); cases hm
 exact ⟨_, rfl, ⟨F.sl rfl, H⟩⟩
 replace hm := ifF hg896 hm
 refine ex (cx (cx ?_)); cases hm; refine ⟨_, rfl, ?_⟩; rintro rfl
 refine ch (ct ?_)
 exact ⟨_, rfl, F.cut _ trivial, (H.pm 9 [0, 1, 3, 4, 5, 7, 8] rfl:)⟩
 clear F H hm
 rintro a w ⟨r794, rfl, F, H⟩; have hm := elimL hm794; clear hm794
 refine ct (sr (bk [0] F H rfl trivial ?_)); clear F; intro a F
 refine nl (wr ?_)
 cases hm
 refine x_ret1 F rfl rfl ?_
 exact ⟨_, rfl, rfl, (H.pm 7 [] rfl:)⟩
 replace hm := ifF hg641 hm
 replace F := F.bF 104 hg641 rfl
 refine bk (List.replicate 5 0) F H rfl trivial ?_; clear F; intro a F
 refine nl (cF F rfl ?_)
 refine sk (ct (sq (sr (bk [0, 0, 0] F H rfl ⟨⟨_, Tryz.underlying23⟩, trivial⟩ ?_)))); clear F; intro a F
 refine nl ?_
 obtain ⟨o1097, eo1097, hm1097⟩ := ob hm; clear hm; revert eo1097; intro hm
 refine x_mid (fun aa ww => ∃ r1097, o1097 = Sum.inl r1097 ∧ Fr ⟨151, []⟩ aa [] ∧ St w0 ww (HP.sl rByte p20 c21 x14.2.2.2.1 :: HP.sl rStr p22 c23 x14.2.2.2.2 :: HP.blk b17 ([.int .i64 (x14.2.1), .int .i64 (x14.2.2.1), .slice p20 (x14.2.2.2.1).length c21, .slice p22 (x14.2.2.2.2).length c23]) 37 :: HP.ow rStr 9 none 0 ([] : List (List UInt8)) :: HP.ow rByte 5 none 0 ([] : List UInt8) :: HP.sl rByte p6 c7 oq.2.2.2.2.2 :: HP.blk b3 ([.int .i64 (3), .string (txb (oq.2.1)), .string (txb (oq.2.2.1)), .int .i64 (oq.2.2.2.1), .int .i64 (oq.2.2.2.2.1), .slice p6 (oq.2.2.2.2.2).length c7]) 25 :: l)) ?_ ?_
 refine bl ?_
 refine x_loopO _ (fun (s1198 : Int) aa ww => Fr ⟨151, []⟩ aa [(3, .pointer (some ⟨b3, 0, none⟩)), (5, .slice p13 (x12.1).length c13), (110, .slice p19 (x18.1).length c19), (111, .int .i64 (((x18.1).length : Int))), (112, .int .i64 (s1198))] ∧ St w0 ww (HP.sl rByte p20 c21 x14.2.2.2.1 :: HP.sl rStr p22 c23 x14.2.2.2.2 :: HP.sl rByte p19 c19 x18.1 :: HP.blk b17 ([.int .i64 (x14.2.1), .int .i64 (x14.2.2.1), .slice p20 (x14.2.2.2.1).length c21, .slice p22 (x14.2.2.2.2).length c23]) 37 :: HP.ow rStr 9 none 0 ([] : List (List UInt8)) :: HP.ow rByte 5 none 0 ([] : List UInt8) :: HP.sl rByte p13 c13 x12.1 :: HP.sl rByte p6 c7 oq.2.2.2.2.2 :: HP.blk b3 ([.int .i64 (3), .string (txb (oq.2.1)), .string (txb (oq.2.2.1)), .int .i64 (oq.2.2.2.1), .int .i64 (oq.2.2.2.2.1), .slice p6 (oq.2.2.2.2.2).length c7]) 25 :: l)) hm ⟨F.sl rfl, (H.pm 13 [0, 1, 2, 3, 4, 5, 8, 10, 11] rfl:)⟩ ?_
 clear F H hm
 rintro s1198 a w o ⟨F, H⟩ hm
 refine sr (bk [0] F H rfl trivial ?_); clear F; intro a F
 refine nl (sq (cP F rfl (fun hg1199 => ?_) (fun hg1199 => ?_)))
 replace hm := ifT hg1199 hm
 refine sk (ct (sq ?_))
 obtain ⟨o1224, eo1224, hm1224⟩ := ob hm; clear hm; revert eo1224; intro hm
 refine x_mid (fun aa ww => ∃ r1224, o1224 = Sum.inl r1224 ∧ Fr ⟨151, []⟩ aa [(3, .pointer (some ⟨b3, 0, none⟩)), (5, .slice p13 (x12.1).length c13), (110, .slice p19 (x18.1).length c19), (111, .int .i64 (((x18.1).length : Int))), (112, .int .i64 (s1198))] ∧ St w0 ww (HP.sl rByte p20 c21 x14.2.2.2.1 :: HP.sl rStr p22 c23 x14.2.2.2.2 :: HP.sl rByte p19 c19 x18.1 :: HP.blk b17 ([.int .i64 (x14.2.1), .int .i64 (x14.2.2.1), .slice p20 (x14.2.2.2.1).length c21, .slice p22 (x14.2.2.2.2).length c23]) 37 :: HP.ow rStr 9 none 0 ([] : List (List UInt8)) :: HP.ow rByte 5 none 0 ([] : List UInt8) :: HP.sl rByte p13 c13 x12.1 :: HP.sl rByte p6 c7 oq.2.2.2.2.2 :: HP.blk b3 ([.int .i64 (3), .string (txb (oq.2.1)), .string (txb (oq.2.2.1)), .int .i64 (oq.2.2.2.1), .int .i64 (oq.2.2.2.2.1), .slice p6 (oq.2.2.2.2.2).length c7]) 25 :: l)) ?_ ?_
 refine bl (sr (bk [0] F H rfl trivial ?_)); clear F; intro a F
 obtain ⟨x1225, ex1225, hm⟩ := ob hm
 obtain ⟨b1226, o1226, hp1226⟩ := H.slP 2 rfl (idxO_some ex1225).2
 obtain ⟨cs1227, hcl1227, H⟩ := H.slEl 2 rfl hp1226 (idxO_some ex1225).2
 obtain rfl := H.rcB 1 rfl
 replace H := H.dp 1 rfl
 clear hcl1227
 refine s_val wkP F rfl rfl rfl rfl (y_idxS F elem23 rfl rfl rfl hp1226 ex1225) ?_; clear F; intro a F
 refine bk [0, 0, 0] F H rfl ⟨rfl, plain5, trivial⟩ ?_; clear F; intro a F
 refine nl (sr (bk [0] F H rfl trivial ?_)); clear F; intro a F
 refine nl (sq (sr (bk [0, 0, 0, 0] F H rfl ⟨⟨_, Tryz.underlying23⟩, trivial⟩ ?_))); clear F; intro a F
 refine nl ?_
 obtain ⟨r1232, er1232, hm1232⟩ := ob hm; clear hm; revert er1232; intro hm
 refine x_mid (fun aa ww => Fr ⟨151, []⟩ aa [(3, .pointer (some ⟨b3, 0, none⟩)), (5, .slice p13 (x12.1).length c13), (11, .int .i64 (s1198)), (12, .int .u8 (((x1225).toNat : Int))), (13, .int .u8 (r1232)), (110, .slice p19 (x18.1).length c19), (111, .int .i64 (((x18.1).length : Int))), (112, .int .i64 (s1198))] ∧ St w0 ww (HP.row b1226 (o1226 + (s1198 : Int).toNat * 1) ([.int .u8 (((x1225).toNat : Int))]) :: HP.sl rByte p20 c21 x14.2.2.2.1 :: HP.sl rStr p22 c23 x14.2.2.2.2 :: HP.sl rByte p19 c19 x18.1 :: HP.blk b17 ([.int .i64 (x14.2.1), .int .i64 (x14.2.2.1), .slice p20 (x14.2.2.2.1).length c21, .slice p22 (x14.2.2.2.2).length c23]) 37 :: HP.ow rStr 9 none 0 ([] : List (List UInt8)) :: HP.ow rByte 5 none 0 ([] : List UInt8) :: HP.sl rByte p13 c13 x12.1 :: HP.sl rByte p6 c7 oq.2.2.2.2.2 :: HP.blk b3 ([.int .i64 (3), .string (txb (oq.2.1)), .string (txb (oq.2.2.1)), .int .i64 (oq.2.2.2.1), .int .i64 (oq.2.2.2.2.1), .slice p6 (oq.2.2.2.2.2).length c7]) 25 :: l)) ?_ ?_
 refine cP F rfl (fun hg1233 => ?_) (fun hg1233 => ?_)
 replace hm := ifT hg1233 hm
 refine rl (bk [0, 0] F H rfl trivial ?_); clear F; intro a F
 obtain ⟨x1234, ex1234, hm⟩ := ob hm
 obtain ⟨b1235, o1235, hp1235⟩ := H.slP 7 rfl (idxO_some ex1234).2
 obtain ⟨cs1236, hcl1236, H⟩ := H.slEl 7 rfl hp1235 (idxO_some ex1234).2
 obtain rfl := H.rcB 1 rfl
 replace H := H.dp 1 rfl
 clear hcl1236
 refine s_val wkP F rfl rfl rfl rfl (y_idxS F elem23 rfl rfl rfl hp1235 ex1234) ?_; clear F; intro a F
 refine bk [0, 0] F H rfl ⟨rfl, plain5, trivial⟩ ?_; clear F; intro a F
 refine lz ?_
 cases hm
 refine ct ?_
 exact ⟨F.sl rfl, (H.pm 11 [1, 2, 3, 4, 5, 6, 7, 8, 9, 10] rfl:)⟩
 replace hm := ifF hg1233 hm
 refine sk ?_
 cases hm
 refine ct ?_
 exact ⟨F.sl rfl, H⟩
 clear F H hm
 rintro a w ⟨F, H⟩; have hm := hm1232; clear hm1232
 refine ct (sq (sr (bk [0, 3, 9003, 0, 0] F H rfl ⟨fld25_3, rfl, plain3, trivial⟩ ?_))); clear F; intro a F
 by_cases hg1237 : oq.2.2.2.1 ≤ s1198
 replace hm := ifT hg1237 hm
 replace F := F.bT 129 hg1237 rfl
 refine bk [0, 3, 9003, 0, 5, 9005, 0, 0, 0] F H rfl ⟨fld25_3, rfl, plain3, fld25_5, rfl, plain23, ⟨_, Tryz.underlying23⟩, trivial⟩ ?_; clear F; intro a F
 refine nl ?_
 obtain ⟨r1242, er1242, hm1242⟩ := ob hm; clear hm; revert er1242; intro hm
 refine x_mid (fun aa ww => Fr ⟨151, []⟩ aa [(3, .pointer (some ⟨b3, 0, none⟩)), (5, .slice p13 (x12.1).length c13), (12, .int .u8 (((x1225).toNat : Int))), (13, .int .u8 (r1242)), (110, .slice p19 (x18.1).length c19), (111, .int .i64 (((x18.1).length : Int))), (112, .int .i64 (s1198))] ∧ St w0 ww (HP.row b1226 (o1226 + (s1198 : Int).toNat * 1) ([.int .u8 (((x1225).toNat : Int))]) :: HP.sl rByte p20 c21 x14.2.2.2.1 :: HP.sl rStr p22 c23 x14.2.2.2.2 :: HP.sl rByte p19 c19 x18.1 :: HP.blk b17 ([.int .i64 (x14.2.1), .int .i64 (x14.2.2.1), .slice p20 (x14.2.2.2.1).length c21, .slice p22 (x14.2.2.2.2).length c23]) 37 :: HP.ow rStr 9 none 0 ([] : List (List UInt8)) :: HP.ow rByte 5 none 0 ([] : List UInt8) :: HP.sl rByte p13 c13 x12.1 :: HP.sl rByte p6 c7 oq.2.2.2.2.2 :: HP.blk b3 ([.int .i64 (3), .string (txb (oq.2.1)), .string (txb (oq.2.2.1)), .int .i64 (oq.2.2.2.1), .int .i64 (oq.2.2.2.2.1), .slice p6 (oq.2.2.2.2.2).length c7]) 25 :: l)) ?_ ?_
 refine cP F rfl (fun hg1243 => ?_) (fun hg1243 => ?_)
 replace hm := ifT hg1243 hm
 refine rl (bk [5, 9005, 0, 3, 9003, 0] F H rfl ⟨fld25_5, rfl, plain23, fld25_3, rfl, plain3, trivial⟩ ?_); clear F; intro a F
 obtain ⟨x1244, ex1244, hm⟩ := ob hm
 obtain ⟨b1245, o1245, hp1245⟩ := H.slP 8 rfl (idxO_some ex1244).2
 obtain ⟨cs1246, hcl1246, H⟩ := H.slEl 8 rfl hp1245 (idxO_some ex1244).2
 obtain rfl := H.rcB 1 rfl
 replace H := H.dp 1 rfl
 clear hcl1246
 refine s_val wkP F rfl rfl rfl rfl (y_idxS F elem23 rfl rfl rfl hp1245 ex1244) ?_; clear F; intro a F
 refine bk [0, 0] F H rfl ⟨rfl, plain5, trivial⟩ ?_; clear F; intro a F
 refine lz ?_
 cases hm
 refine ct ?_
 exact ⟨F.sl rfl, (H.pm 11 [1, 2, 3, 4, 5, 6, 7, 8, 9, 10] rfl:)⟩
 replace hm := ifF hg1243 hm
 refine sk ?_
 cases hm
 refine ct ?_
 exact ⟨F.sl rfl, H⟩
 clear F H hm
 rintro a w ⟨F, H⟩; have hm := hm1242; clear hm1242
 refine ct (sr (bk [0, 0, 0] F H rfl trivial ?_)); clear F; intro a F
 refine nl (cN F rfl (fun hg1247 => ?_) (fun hg1247 => ?_))
 replace hm := ifF hg1247 hm
 refine sr (bk [0] F H rfl trivial ?_); clear F; intro a F
 refine nl (wr (br (tr ?_)))
 cases hm
 replace hm := elimR hm1224
 refine tr (tr ?_); cases hm; refine ⟨_, rfl, ?_⟩; rintro rfl
 refine br (tr ?_)
 replace hm := elimR hm1097
 refine tr ?_
 cases hm
 refine x_ret1 F rfl rfl ?_
 exact ⟨_, rfl, rfl, (H.pm 10 [] rfl:)⟩
 replace hm := ifT hg1247 hm
 refine sk (bn ?_)
 cases hm
 refine ct ?_
 exact ⟨_, rfl, F.sl rfl, (H.pm 10 [1, 2, 3, 4, 5, 6, 7, 8, 9] rfl:)⟩
 replace hm := ifF hg1237 hm
 replace F := F.bF 129 hg1237 rfl
 refine bk (List.replicate 9 0) F H rfl trivial ?_; clear F; intro a F
 refine nl (cF F rfl ?_)
 refine sk (ct (sr (bk [0, 0, 0] F H rfl trivial ?_))); clear F; intro a F
 refine nl (cN F rfl (fun hg1248 => ?_) (fun hg1248 => ?_))
 replace hm := ifF hg1248 hm
 refine sr (bk [0] F H rfl trivial ?_); clear F; intro a F
 refine nl (wr (br (tr ?_)))
 cases hm
 replace hm := elimR hm1224
 refine tr (tr ?_); cases hm; refine ⟨_, rfl, ?_⟩; rintro rfl
 refine br (tr ?_)
 replace hm := elimR hm1097
 refine tr ?_
 cases hm
 refine x_ret1 F rfl rfl ?_
 exact ⟨_, rfl, rfl, (H.pm 10 [] rfl:)⟩
 replace hm := ifT hg1248 hm
 refine sk (bn ?_)
 cases hm
 refine ct ?_
 exact ⟨_, rfl, F.sl rfl, (H.pm 10 [1, 2, 3, 4, 5, 6, 7, 8, 9] rfl:)⟩
 clear F H hm
 rintro a w ⟨r1224, rfl, F, H⟩; have hm := elimL hm1224; clear hm1224
 refine ct (rl (bk [0, 0] F H rfl trivial ?_)); clear F; intro a F
 refine lz (ct ?_); cases hm
 exact ⟨_, rfl, ⟨F.sl rfl, H⟩⟩
 replace hm := ifF hg1199 hm
 refine ex (cx (cx ?_)); cases hm; refine ⟨_, rfl, ?_⟩; rintro rfl
 refine ch (ct ?_)
 exact ⟨_, rfl, F.cut _ trivial, (H.pm 9 [0, 1, 3, 4, 5, 7, 8] rfl:)⟩
 clear F H hm
 rintro a w ⟨r1097, rfl, F, H⟩; have hm := elimL hm1097; clear hm1097
 refine ct (sr (bk [0] F H rfl trivial ?_)); clear F; intro a F
 refine nl (wr ?_)
 cases hm
 refine x_ret1 F rfl rfl ?_
 exact ⟨_, rfl, rfl, (H.pm 7 [] rfl:)⟩
 replace hm := ifF hg30 hm
 replace F := F.nF 81 hg30 rfl
 refine bk (List.replicate 28 0) F H rfl trivial ?_; clear F; intro a F
 refine nl (cT F rfl ?_)
 refine sr (bk [0] F H rfl trivial ?_); clear F; intro a F
 refine nl (wr (tr ?_))
 cases hm
 refine x_ret1 F rfl rfl ?_
 exact ⟨_, rfl, rfl, (H.pm 13 [] rfl:)⟩
 replace hm := ifF hg29 hm
 replace F := F.nF 75 hg29 rfl
 refine bk (List.replicate 34 0) F H rfl trivial ?_; clear F; intro a F
 refine nl (cT F rfl ?_)
 refine sr (bk [0] F H rfl trivial ?_); clear F; intro a F
 refine nl (wr (tr ?_))
 cases hm
 refine x_ret1 F rfl rfl ?_
 exact ⟨_, rfl, rfl, (H.pm 13 [] rfl:)⟩
 replace hm := ifF hg28 hm
 replace F := F.nF 69 hg28 rfl
 refine bk (List.replicate 40 0) F H rfl trivial ?_; clear F; intro a F
 refine nl (cT F rfl ?_)
 refine sr (bk [0] F H rfl trivial ?_); clear F; intro a F
 refine nl (wr (tr ?_))
 cases hm
 refine x_ret1 F rfl rfl ?_
 exact ⟨_, rfl, rfl, (H.pm 13 [] rfl:)⟩
end Go.Proofs.YtohmcgmmphpgoaaGreatDoor
