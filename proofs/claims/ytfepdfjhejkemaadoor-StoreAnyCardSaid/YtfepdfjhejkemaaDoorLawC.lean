/- the statement -/
import Derived.Test.YtfepdfjhejkemaaDoorLawB
set_option linter.unusedSimpArgs false
set_option linter.unusedVariables false
namespace Go.Proofs.YtfepdfjhejkemaaDoor
open Go.RowKit Go.Tri
theorem ent18 : ∀ args w, (callFunc 18 args).run Tryd.prog w = .ok (.enter 18 args) w := enters Tryd.func18 (by kernel_rfl) rfl
set_option maxRecDepth 100000 in
set_option maxHeartbeats 4000000 in
theorem w_m_triremelaw05_StoreTwice {x0_ : List UInt8} {x1_ : List UInt8} {p1 : Option Addr} {c1 : Nat} {p2 : Option Addr} {c2 : Nat} {w0 w : World} {l : List HP}  {r : Bool} (hm : m_triremelaw05_StoreTwice x0_ x1_ = some r) (H : St w0 w (HP.row 0 (0) (icells .u32 shaStart) :: HP.row 2 (0) (icells .u32 shaRounds) :: HP.sl rByte p1 c1 x0_ :: HP.sl rByte p2 c2 x1_ :: l)) :
  Calls Tryd.prog 6 [.slice p1 (x0_).length c1, .slice p2 (x1_).length c2].toArray w (fun e w' => ∃ v, e = .returned v ∧ v = .bool (r) ∧ St w0 w' (l)) := by
 unfold m_triremelaw05_StoreTwice at hm
 refine x_enter Tryd.func6 rfl rfl rfl ?_
 intro a F
 refine sr (bk [0] F H rfl trivial ?_); clear F; intro a F
 refine nl (sq (sr ?_))
 obtain ⟨x3, ex3, hm⟩ := ob hm
 refine sc wkP F rfl ent8 (w_m_triremelaw05_speaks ex3 (H.pm 4 [0, 1, 0, 1, 2, 3] rfl:):) ?_; clear F H; rintro _ w a ⟨rfl, H⟩ F
 refine bk [0] F H rfl trivial ?_; clear F; intro a F
 replace H := H.nf 4 rfl
 refine nl (cB F rfl (fun hg4 => ?_) (fun hg4 => ?_))
 · replace hm := ifT hg4 hm
   refine sr (bk [0] F H rfl trivial ?_); clear F; intro a F
   refine nl (wr (tr ?_))
   cases hm
   refine x_ret1 F rfl rfl ?_
   exact ⟨_, rfl, rfl, (H.pm 4 [] rfl:)⟩
 · replace hm := ifF (nT hg4) hm
   refine sk (ct (sq (sr (bk [0, 0, 0, 0] F H rfl ⟨⟨_, Tryd.underlying33⟩, trivial⟩ ?_)))); clear F; intro a F
   by_cases hg5 : 470 < ((x0_).length : Int)
   · replace hm := ifT hg5 hm
     replace F := F.bT 23 hg5 rfl
     refine bk [0, 0, 0, 0] F H rfl trivial ?_; clear F; intro a F
     refine nl (cT F rfl ?_)
     refine sr (bk [0] F H rfl trivial ?_); clear F; intro a F
     refine nl (wr (tr ?_))
     cases hm
     refine x_ret1 F rfl rfl ?_
     exact ⟨_, rfl, rfl, (H.pm 4 [] rfl:)⟩
   · replace hm := ifF hg5 hm
     replace F := F.bF 23 hg5 rfl
     refine bk [0, 0, 0, 0] F H rfl ⟨⟨_, Tryd.underlying33⟩, trivial⟩ ?_; clear F; intro a F
     refine nl (cP F rfl (fun hg6 => ?_) (fun hg6 => ?_))
     · replace hm := ifT hg6 hm
       refine sr (bk [0] F H rfl trivial ?_); clear F; intro a F
       refine nl (wr (tr ?_))
       cases hm
       refine x_ret1 F rfl rfl ?_
       exact ⟨_, rfl, rfl, (H.pm 4 [] rfl:)⟩
     · replace hm := ifF hg6 hm
       refine sk (ct (sr ?_))
       obtain ⟨x7, ex7, hm⟩ := ob hm
       refine sc wkP F rfl ent9 (w_diskNew ex7 H:) ?_; clear F H; rintro _ w a ⟨b8, rfl, H⟩ F
       refine bk (List.replicate 5 0) F H rfl trivial ?_; clear F; intro a F
       replace H := H.nf 5 rfl
       refine nl (sq (sr (bk [0] F H rfl trivial ?_))); clear F; intro a F
       refine s_val wkP F rfl rfl rfl rfl (y_eqlPN F rfl rfl rfl Tryd.underlying25) ?_; clear F; intro a F
       refine nl (cF F rfl ?_)
       refine sk (ct (sr (bk [0] F H rfl trivial ?_))); clear F; intro a F
       obtain ⟨x9, ex9, hm⟩ := ob hm
       refine sc wkP F rfl ent10 (w_stOpen ex9 (H.pm 5 [1, 2, 0, 1, 2, 3, 4] rfl:):) ?_; clear F H; rintro _ w a ⟨b10, rfl, H⟩ F
       refine bk (List.replicate 5 0) F H rfl trivial ?_; clear F; intro a F
       replace H := H.nf 6 rfl
       refine nl (sq (sr (bk [0] F H rfl trivial ?_))); clear F; intro a F
       refine s_val wkP F rfl rfl rfl rfl (y_eqlPN F rfl rfl rfl Tryd.underlying29) ?_; clear F; intro a F
       refine nl (cF F rfl ?_)
       refine sk (ct (sr (bk [0, 0] F H rfl trivial ?_))); clear F; intro a F
       obtain ⟨x11, ex11, hm⟩ := ob hm
       refine sc wkP F rfl ent11 (w_stPut ex11 (H.pm 6 [2, 3, 0, 1, 4, 2, 3, 4, 5] rfl:):) ?_; clear F H; rintro _ w a ⟨rfl, hl12, H⟩ F
       refine bk [0, 0, 0] F H rfl trivial ?_; clear F; intro a F
       refine s_allocA wkP F rfl rfl rfl agz35 rfl H ?_; clear F H; intro b13 w a H F
       refine s_storeA wkP F rfl rfl agg35 rfl rfl rfl H 0 rfl ((bcells_length _).trans hl12) ((bcells_length _).trans (List.length_replicate (n := 32))) (bcells_flat _) ?_; clear H; intro w H
       refine bk [0] F H rfl trivial ?_; clear F; intro a F
       replace H := H.nf 7 rfl
       refine nl (sr (bk [0] F H rfl trivial ?_)); clear F; intro a F
       obtain ⟨x14, ex14, hm⟩ := ob hm
       refine sc wkP F rfl ent17 (w_stFree ex14 (H.pm 7 [1, 2, 0, 3, 4, 5, 6] rfl:):) ?_; clear F H; rintro _ w a ⟨rfl, H⟩ F
       refine bk [0] F H rfl trivial ?_; clear F; intro a F
       replace H := H.nf 7 rfl
       refine nl (sr (bk [0, 0] F H rfl trivial ?_)); clear F; intro a F
       obtain ⟨x15, ex15, hm⟩ := ob hm
       refine sc wkP F rfl ent11 (w_stPut ex15 (H.pm 7 [3, 4, 0, 1, 5, 2, 3, 4, 5, 6] rfl:):) ?_; clear F H; rintro _ w a ⟨rfl, hl16, H⟩ F
       refine bk [0, 0, 0] F H rfl trivial ?_; clear F; intro a F
       refine s_allocA wkP F rfl rfl rfl agz35 rfl H ?_; clear F H; intro b17 w a H F
       refine s_storeA wkP F rfl rfl agg35 rfl rfl rfl H 0 rfl ((bcells_length _).trans hl16) ((bcells_length _).trans (List.length_replicate (n := 32))) (bcells_flat _) ?_; clear H; intro w H
       refine bk [0] F H rfl trivial ?_; clear F; intro a F
       replace H := H.nf 8 rfl
       refine nl (sr (bk [0, 0] F H rfl trivial ?_)); clear F; intro a F
       obtain ⟨x18, ex18, hm⟩ := ob hm
       refine sc wkP F rfl ent11 (w_stPut ex18 (H.pm 8 [4, 5, 1, 2, 7, 0, 3, 4, 5, 6, 7] rfl:):) ?_; clear F H; rintro _ w a ⟨rfl, hl19, H⟩ F
       refine bk [0, 0, 0] F H rfl trivial ?_; clear F; intro a F
       refine s_allocA wkP F rfl rfl rfl agz35 rfl H ?_; clear F H; intro b20 w a H F
       refine s_storeA wkP F rfl rfl agg35 rfl rfl rfl H 0 rfl ((bcells_length _).trans hl19) ((bcells_length _).trans (List.length_replicate (n := 32))) (bcells_flat _) ?_; clear H; intro w H
       refine bk [0] F H rfl trivial ?_; clear F; intro a F
       replace H := H.nf 9 rfl
       refine nl (sr (bk [0, 4999] F H rfl ⟨rfl, (aggn agg35 ((bcells_length _).trans hl12)), trivial⟩ ?_)); clear F; intro a F
       obtain ⟨x21, ex21, hm⟩ := ob hm
       refine sc wkP F rfl ent16 (w_stGet hl12 ex21 (H.pm 9 [5, 6, 1, 2, 0, 3, 4, 5, 6, 7, 8] rfl:):) ?_; clear F H; rintro _ w a ⟨p22, c22, rfl, H⟩ F
       refine bk (List.replicate 5 0) F H rfl trivial ?_; clear F; intro a F
       replace H := H.nf 10 rfl
       refine nl (sq (sr (bk [0, 0, 0] F H rfl trivial ?_))); clear F; intro a F
       by_cases hg23 : x11.2.1 = 0
       · replace hm := ifT hg23 hm
         replace F := F.nT 69 hg23 rfl
         refine bk [0, 0, 0, 0] F H rfl trivial ?_; clear F; intro a F
         by_cases hg24 : x15.2.1 = 0
         · replace hm := ifT hg24 hm
           replace F := F.nT 73 hg24 rfl
           refine bk [0, 0, 0, 0] F H rfl trivial ?_; clear F; intro a F
           by_cases hg25 : x18.2.1 = 0
           · replace hm := ifT hg25 hm
             replace F := F.nT 77 hg25 rfl
             refine bk [0, 0, 0, 0] F H rfl trivial ?_; clear F; intro a F
             by_cases hg26 : x21.2 = 0
             · replace hm := ifT hg26 hm
               replace F := F.nT 81 hg26 rfl
               refine bk [5999, 4999] F H rfl ⟨rfl, (aggn agg35 ((bcells_length _).trans hl12)), rfl, (aggn agg35 ((bcells_length _).trans hl16)), trivial⟩ ?_; clear F; intro a F
               refine g_onP F rfl rfl rfl rfl ?_
               refine s_val wkP F rfl rfl rfl rfl (y_neqA F key35 rfl rfl rfl hl12 hl16) ?_; clear F; intro a F
               refine bk [0, 0] F H rfl trivial ?_; clear F; intro a F
               by_cases hg27 : x11.1 = x15.1
               · replace hm := ifT hg27 hm
                 replace F := F.nT 86 hg27 rfl
                 refine bk [0, 0, 0, 0] F H rfl trivial ?_; clear F; intro a F
                 by_cases hg28 : x14 = 6
                 · replace hm := ifT hg28 hm
                   replace F := F.nT 90 hg28 rfl
                   refine bk [0] F H rfl trivial ?_; clear F; intro a F
                   refine g_onP F rfl rfl rfl rfl ?_
                   refine s_val wkP F rfl rfl rfl rfl (y_b2s F Tryd.underlying33 Tryd.underlying9 Tryd.underlying5 rfl rfl (H) 0 rfl) ?_; clear F; intro a F
                   refine bk [0] F H rfl trivial ?_; clear F; intro a F
                   refine g_onP F rfl rfl rfl rfl ?_
                   refine s_val wkP F rfl rfl rfl rfl (y_b2s F Tryd.underlying33 Tryd.underlying9 Tryd.underlying5 rfl rfl (H) 8 rfl) ?_; clear F; intro a F
                   refine g_onP F rfl rfl rfl rfl ?_
                   refine s_val wkP F rfl rfl rfl rfl (y_neT (l := x21.1) (m := x0_) F rfl rfl rfl) ?_; clear F; intro a F
                   refine bk [0] F H rfl trivial ?_; clear F; intro a F
                   refine nl (cN F rfl (fun hg29 => ?_) (fun hg29 => ?_))
                   · replace hm := ifF hg29 hm
                     refine sr (bk [5999, 3999] F H rfl ⟨rfl, (aggn agg35 ((bcells_length _).trans hl12)), rfl, (aggn agg35 ((bcells_length _).trans hl19)), trivial⟩ ?_); clear F; intro a F
                     refine s_val wkP F rfl rfl rfl rfl (y_eqlA F key35 rfl rfl rfl hl12 hl19) ?_; clear F; intro a F
                     refine bk [0] F H rfl trivial ?_; clear F; intro a F
                     refine nl (wr (tr ?_))
                     cases hm
                     refine x_ret1 F rfl rfl ?_
                     exact ⟨_, rfl, rfl, (H.pm 10 [] rfl:)⟩
                   · replace hm := ifT hg29 hm
                     refine sk (ct (sr (bk [5999, 3999] F H rfl ⟨rfl, (aggn agg35 ((bcells_length _).trans hl12)), rfl, (aggn agg35 ((bcells_length _).trans hl19)), trivial⟩ ?_))); clear F; intro a F
                     refine s_val wkP F rfl rfl rfl rfl (y_eqlA F key35 rfl rfl rfl hl12 hl19) ?_; clear F; intro a F
                     refine bk [0] F H rfl trivial ?_; clear F; intro a F
                     by_cases hg30 : x11.1 = x18.1
                     · replace hm := ifT hg30 hm
                       replace F := F.bT 103 hg30 rfl
                       refine bk [0] F H rfl trivial ?_; clear F; intro a F
                       refine g_onP F rfl rfl rfl rfl ?_
                       obtain ⟨x31, ex31, hm⟩ := ob hm
                       refine sc wkP F rfl ent17 (w_stFree ex31 (H.pm 10 [1, 2, 0, 3, 4, 5, 6, 7, 8, 9] rfl:):) ?_; clear F H; rintro _ w a ⟨rfl, H⟩ F
                       refine bk [0, 0, 0] F H rfl trivial ?_; clear F; intro a F
                       by_cases hg32 : x31 = 6
                       · replace hm := ifT hg32 hm
                         replace F := F.bT 108 hg32 rfl
                         refine bk (List.replicate 16 0) F H rfl trivial ?_; clear F; intro a F
                         replace H := H.nf 10 rfl
                         refine nl (wr ?_)
                         cases hm
                         refine x_ret1 F rfl rfl ?_
                         exact ⟨_, rfl, rfl, (H.pm 10 [] rfl:)⟩
                       · replace hm := ifF hg32 hm
                         replace F := F.bF 108 hg32 rfl
                         refine bk [5999, 3999] F H rfl ⟨rfl, (aggn agg35 ((bcells_length _).trans hl12)), rfl, (aggn agg35 ((bcells_length _).trans hl19)), trivial⟩ ?_; clear F; intro a F
                         refine g_onP F rfl rfl rfl rfl ?_
                         refine s_val wkP F rfl rfl rfl rfl (y_neqA F key35 rfl rfl rfl hl12 hl19) ?_; clear F; intro a F
                         refine bk [0] F H rfl trivial ?_; clear F; intro a F
                         by_cases hg33 : x11.1 = x18.1
                         · replace hm := ifT hg33 hm
                           replace F := F.nT 112 hg33 rfl
                           refine bk (List.replicate 12 0) F H rfl trivial ?_; clear F; intro a F
                           replace H := H.nf 10 rfl
                           refine nl (wr ?_)
                           cases hm
                           refine x_ret1 F rfl rfl ?_
                           exact ⟨_, rfl, rfl, (H.pm 10 [] rfl:)⟩
                         · replace hm := ifF hg33 hm
                           replace F := F.nF 112 hg33 rfl
                           refine bk [0] F H rfl trivial ?_; clear F; intro a F
                           refine g_onP F rfl rfl rfl rfl ?_
                           obtain ⟨x34, ex34, hm⟩ := ob hm
                           refine sc wkP F rfl ent17 (w_stFree ex34 H:) ?_; clear F H; rintro _ w a ⟨rfl, H⟩ F
                           refine bk [0, 0, 0] F H rfl trivial ?_; clear F; intro a F
                           by_cases hg35 : x34 = 5
                           · replace hm := ifT hg35 hm
                             replace F := F.bT 117 hg35 rfl
                             refine bk [0] F H rfl trivial ?_; clear F; intro a F
                             refine g_onP F rfl rfl rfl rfl ?_
                             obtain ⟨x36, ex36, hm⟩ := ob hm
                             refine sc wkP F rfl ent18 (w_stHashes ex36 H:) ?_; clear F H; rintro _ w a ⟨p37, c37, rfl, H⟩ F
                             refine bk (List.replicate 5 0) F H rfl ⟨⟨_, Tryd.underlying32⟩, trivial⟩ ?_; clear F; intro a F
                             replace H := H.nf 11 rfl
                             refine nl (wr ?_)
                             cases hm
                             refine x_ret1 F rfl rfl ?_
                             exact ⟨_, rfl, rfl, (H.pm 11 [] rfl:)⟩
                           · replace hm := ifF hg35 hm
                             replace F := F.bF 117 hg35 rfl
                             refine bk (List.replicate 7 0) F H rfl trivial ?_; clear F; intro a F
                             replace H := H.nf 10 rfl
                             refine nl (wr ?_)
                             cases hm
                             refine x_ret1 F rfl rfl ?_
                             exact ⟨_, rfl, rfl, (H.pm 10 [] rfl:)⟩
                     · replace hm := ifF hg30 hm
                       replace F := F.bF 103 hg30 rfl
                       refine bk [0, 0, 0, 0, 0, 5999, 3999] F H rfl ⟨rfl, (aggn agg35 ((bcells_length _).trans hl12)), rfl, (aggn agg35 ((bcells_length _).trans hl19)), trivial⟩ ?_; clear F; intro a F
                       refine g_onP F rfl rfl rfl rfl ?_
                       refine s_val wkP F rfl rfl rfl rfl (y_neqA F key35 rfl rfl rfl hl12 hl19) ?_; clear F; intro a F
                       refine bk [0] F H rfl trivial ?_; clear F; intro a F
                       by_cases hg38 : x11.1 = x18.1
                       · replace hm := ifT hg38 hm
                         replace F := F.nT 112 hg38 rfl
                         refine bk (List.replicate 12 0) F H rfl trivial ?_; clear F; intro a F
                         refine nl (wr ?_)
                         cases hm
                         refine x_ret1 F rfl rfl ?_
                         exact ⟨_, rfl, rfl, (H.pm 10 [] rfl:)⟩
                       · replace hm := ifF hg38 hm
                         replace F := F.nF 112 hg38 rfl
                         refine bk [0] F H rfl trivial ?_; clear F; intro a F
                         refine g_onP F rfl rfl rfl rfl ?_
                         obtain ⟨x39, ex39, hm⟩ := ob hm
                         refine sc wkP F rfl ent17 (w_stFree ex39 (H.pm 10 [1, 2, 0, 3, 4, 5, 6, 7, 8, 9] rfl:):) ?_; clear F H; rintro _ w a ⟨rfl, H⟩ F
                         refine bk [0, 0, 0] F H rfl trivial ?_; clear F; intro a F
                         by_cases hg40 : x39 = 5
                         · replace hm := ifT hg40 hm
                           replace F := F.bT 117 hg40 rfl
                           refine bk [0] F H rfl trivial ?_; clear F; intro a F
                           refine g_onP F rfl rfl rfl rfl ?_
                           obtain ⟨x41, ex41, hm⟩ := ob hm
                           refine sc wkP F rfl ent18 (w_stHashes ex41 H:) ?_; clear F H; rintro _ w a ⟨p42, c42, rfl, H⟩ F
                           refine bk (List.replicate 5 0) F H rfl ⟨⟨_, Tryd.underlying32⟩, trivial⟩ ?_; clear F; intro a F
                           replace H := H.nf 11 rfl
                           refine nl (wr ?_)
                           cases hm
                           refine x_ret1 F rfl rfl ?_
                           exact ⟨_, rfl, rfl, (H.pm 11 [] rfl:)⟩
                         · replace hm := ifF hg40 hm
                           replace F := F.bF 117 hg40 rfl
                           refine bk (List.replicate 7 0) F H rfl trivial ?_; clear F; intro a F
                           replace H := H.nf 10 rfl
                           refine nl (wr ?_)
                           cases hm
                           refine x_ret1 F rfl rfl ?_
                           exact ⟨_, rfl, rfl, (H.pm 10 [] rfl:)⟩
                 · replace hm := ifF hg28 hm
                   replace F := F.nF 90 hg28 rfl
                   refine bk (List.replicate 6 0) F H rfl trivial ?_; clear F; intro a F
                   refine nl (cT F rfl ?_)
                   refine sr (bk [5999, 3999] F H rfl ⟨rfl, (aggn agg35 ((bcells_length _).trans hl12)), rfl, (aggn agg35 ((bcells_length _).trans hl19)), trivial⟩ ?_); clear F; intro a F
                   refine s_val wkP F rfl rfl rfl rfl (y_eqlA F key35 rfl rfl rfl hl12 hl19) ?_; clear F; intro a F
                   refine bk [0] F H rfl trivial ?_; clear F; intro a F
                   refine nl (wr (tr ?_))
                   cases hm
                   refine x_ret1 F rfl rfl ?_
                   exact ⟨_, rfl, rfl, (H.pm 10 [] rfl:)⟩
               · replace hm := ifF hg27 hm
                 replace F := F.nF 86 hg27 rfl
                 refine bk (List.replicate 10 0) F H rfl trivial ?_; clear F; intro a F
                 refine nl (cT F rfl ?_)
                 refine sr (bk [5999, 3999] F H rfl ⟨rfl, (aggn agg35 ((bcells_length _).trans hl12)), rfl, (aggn agg35 ((bcells_length _).trans hl19)), trivial⟩ ?_); clear F; intro a F
                 refine s_val wkP F rfl rfl rfl rfl (y_eqlA F key35 rfl rfl rfl hl12 hl19) ?_; clear F; intro a F
                 refine bk [0] F H rfl trivial ?_; clear F; intro a F
                 refine nl (wr (tr ?_))
                 cases hm
                 refine x_ret1 F rfl rfl ?_
                 exact ⟨_, rfl, rfl, (H.pm 10 [] rfl:)⟩
             · replace hm := ifF hg26 hm
               replace F := F.nF 81 hg26 rfl
               refine bk (List.replicate 15 0) F H rfl trivial ?_; clear F; intro a F
               refine nl (cT F rfl ?_)
               refine sr (bk [5999, 3999] F H rfl ⟨rfl, (aggn agg35 ((bcells_length _).trans hl12)), rfl, (aggn agg35 ((bcells_length _).trans hl19)), trivial⟩ ?_); clear F; intro a F
               refine s_val wkP F rfl rfl rfl rfl (y_eqlA F key35 rfl rfl rfl hl12 hl19) ?_; clear F; intro a F
               refine bk [0] F H rfl trivial ?_; clear F; intro a F
               refine nl (wr (tr ?_))
               cases hm
               refine x_ret1 F rfl rfl ?_
               exact ⟨_, rfl, rfl, (H.pm 10 [] rfl:)⟩
           · replace hm := ifF hg25 hm
             replace F := F.nF 77 hg25 rfl
             refine bk (List.replicate 19 0) F H rfl trivial ?_; clear F; intro a F
             refine nl (cT F rfl ?_)
             refine sr (bk [5999, 3999] F H rfl ⟨rfl, (aggn agg35 ((bcells_length _).trans hl12)), rfl, (aggn agg35 ((bcells_length _).trans hl19)), trivial⟩ ?_); clear F; intro a F
             refine s_val wkP F rfl rfl rfl rfl (y_eqlA F key35 rfl rfl rfl hl12 hl19) ?_; clear F; intro a F
             refine bk [0] F H rfl trivial ?_; clear F; intro a F
             refine nl (wr (tr ?_))
             cases hm
             refine x_ret1 F rfl rfl ?_
             exact ⟨_, rfl, rfl, (H.pm 10 [] rfl:)⟩
         · replace hm := ifF hg24 hm
           replace F := F.nF 73 hg24 rfl
           refine bk (List.replicate 23 0) F H rfl trivial ?_; clear F; intro a F
           refine nl (cT F rfl ?_)
           refine sr (bk [5999, 3999] F H rfl ⟨rfl, (aggn agg35 ((bcells_length _).trans hl12)), rfl, (aggn agg35 ((bcells_length _).trans hl19)), trivial⟩ ?_); clear F; intro a F
           refine s_val wkP F rfl rfl rfl rfl (y_eqlA F key35 rfl rfl rfl hl12 hl19) ?_; clear F; intro a F
           refine bk [0] F H rfl trivial ?_; clear F; intro a F
           refine nl (wr (tr ?_))
           cases hm
           refine x_ret1 F rfl rfl ?_
           exact ⟨_, rfl, rfl, (H.pm 10 [] rfl:)⟩
       · replace hm := ifF hg23 hm
         replace F := F.nF 69 hg23 rfl
         refine bk (List.replicate 27 0) F H rfl trivial ?_; clear F; intro a F
         refine nl (cT F rfl ?_)
         refine sr (bk [5999, 3999] F H rfl ⟨rfl, (aggn agg35 ((bcells_length _).trans hl12)), rfl, (aggn agg35 ((bcells_length _).trans hl19)), trivial⟩ ?_); clear F; intro a F
         refine s_val wkP F rfl rfl rfl rfl (y_eqlA F key35 rfl rfl rfl hl12 hl19) ?_; clear F; intro a F
         refine bk [0] F H rfl trivial ?_; clear F; intro a F
         refine nl (wr (tr ?_))
         cases hm
         refine x_ret1 F rfl rfl ?_
         exact ⟨_, rfl, rfl, (H.pm 10 [] rfl:)⟩
end Go.Proofs.YtfepdfjhejkemaaDoor
