/- the statement -/
import Derived.Test.YtfepdfjhejkemaaDoorStoreD
set_option linter.unusedSimpArgs false
set_option linter.unusedVariables false
namespace Go.Proofs.YtfepdfjhejkemaaDoor
open Go.RowKit Go.Tri
theorem ent20 : ∀ args w, (callFunc 20 args).run Tryd.prog w = .ok (.enter 20 args) w := enters Tryd.func20 (by kernel_rfl) rfl
theorem ent21 : ∀ args w, (callFunc 21 args).run Tryd.prog w = .ok (.enter 21 args) w := enters Tryd.func21 (by kernel_rfl) rfl
theorem elem51 : ElemT Tryd.prog 51 58 5 88 (.agg [.int .i64 0, .int .i64 0, .slice none 0 0, .slice none 0 0, .slice none 0 0].toArray) := ⟨Tryd.underlying51, by kernel_rfl, by kernel_rfl, by decide⟩
theorem agg58 : AggT Tryd.prog 58 5 [.int .i64 0, .int .i64 0, .slice none 0 0, .slice none 0 0, .slice none 0 0] := ⟨by rw [Tryd.underlying58]; rfl, by kernel_rfl, by kernel_rfl⟩
theorem agz58 : AggT Tryd.prog 58 5 ([.int .i64 (0), .int .i64 (0), .slice none (([] : List UInt8)).length 0, .slice none (([] : List (List UInt8))).length 0, .slice none (([] : List Int)).length 0]) := ⟨by rw [Tryd.underlying58]; rfl, by kernel_rfl, by kernel_rfl⟩
theorem fld58_4 : FieldT Tryd.prog 58 4 4 := by unfold FieldT; rw [Tryd.underlying58]; kernel_rfl
theorem plain23 : Plain Tryd.prog 23 := by unfold Plain; rw [Tryd.underlying23]; rfl
theorem ent22 : ∀ args w, (callFunc 22 args).run Tryd.prog w = .ok (.enter 22 args) w := enters Tryd.func22 (by kernel_rfl) rfl
theorem fld58_1 : FieldT Tryd.prog 58 1 1 := by unfold FieldT; rw [Tryd.underlying58]; kernel_rfl
theorem ent23 : ∀ args w, (callFunc 23 args).run Tryd.prog w = .ok (.enter 23 args) w := enters Tryd.func23 (by kernel_rfl) rfl
theorem ent24 : ∀ args w, (callFunc 24 args).run Tryd.prog w = .ok (.enter 24 args) w := enters Tryd.func24 (by kernel_rfl) rfl
theorem ent25 : ∀ args w, (callFunc 25 args).run Tryd.prog w = .ok (.enter 25 args) w := enters Tryd.func25 (by kernel_rfl) rfl
theorem ent26 : ∀ args w, (callFunc 26 args).run Tryd.prog w = .ok (.enter 26 args) w := enters Tryd.func26 (by kernel_rfl) rfl
theorem ent27 : ∀ args w, (callFunc 27 args).run Tryd.prog w = .ok (.enter 27 args) w := enters Tryd.func27 (by kernel_rfl) rfl
theorem ent29 : ∀ args w, (callFunc 29 args).run Tryd.prog w = .ok (.enter 29 args) w := enters Tryd.func29 (by kernel_rfl) rfl
theorem ent28 : ∀ args w, (callFunc 28 args).run Tryd.prog w = .ok (.enter 28 args) w := enters Tryd.func28 (by kernel_rfl) rfl
set_option maxRecDepth 100000 in
set_option maxHeartbeats 4000000 in
theorem w_m_triremelaw05_StorePlays {x0_ : Int} {x1_ : List T_triremelaw05_Op} {p1 : Option Addr} {c1 : Nat} {w0 w : World} {l : List HP}  {r : Bool} (hm : m_triremelaw05_StorePlays x0_ x1_ = some r) (H : St w0 w (HP.row 0 (0) (icells .u32 shaStart) :: HP.row 2 (0) (icells .u32 shaRounds) :: HP.sl R_triremelaw05_Op p1 c1 x1_ :: l)) :
  Calls Tryd.prog 7 [.int .i64 (x0_), .slice p1 (x1_).length c1].toArray w (fun e w' => ∃ v, e = .returned v ∧ v = .bool (r) ∧ St w0 w' (l)) := by
 unfold m_triremelaw05_StorePlays at hm
 refine x_enter Tryd.func7 rfl rfl rfl ?_
 intro a F
 refine sr (bk [0] F H rfl trivial ?_); clear F; intro a F
 refine nl (sq (sr ?_))
 obtain ⟨x2, ex2, hm⟩ := ob hm
 refine sc wkP F rfl ent8 (w_m_triremelaw05_speaks ex2 (H.pm 3 [0, 1, 0, 1, 2] rfl:):) ?_; clear F H; rintro _ w a ⟨rfl, H⟩ F
 refine bk [0] F H rfl trivial ?_; clear F; intro a F
 replace H := H.nf 3 rfl
 refine nl (cB F rfl (fun hg3 => ?_) (fun hg3 => ?_))
 · replace hm := ifT hg3 hm
   refine sr (bk [0] F H rfl trivial ?_); clear F; intro a F
   refine nl (wr (tr ?_))
   cases hm
   refine x_ret1 F rfl rfl ?_
   exact ⟨_, rfl, rfl, (H.pm 3 [] rfl:)⟩
 · replace hm := ifF (nT hg3) hm
   refine sk (ct (sr (bk [0, 0, 0, 0] F H rfl trivial ?_))); clear F; intro a F
   refine nl (sr (bk [0] F H rfl trivial ?_)); clear F; intro a F
   obtain ⟨x4, ex4, hm⟩ := ob hm
   refine sc wkP F rfl ent9 (w_diskNew ex4 H:) ?_; clear F H; rintro _ w a ⟨b5, rfl, H⟩ F
   refine bk (List.replicate 5 0) F H rfl trivial ?_; clear F; intro a F
   replace H := H.nf 4 rfl
   refine nl (sr (bk [0] F H rfl trivial ?_)); clear F; intro a F
   obtain ⟨x6, ex6, hm⟩ := ob hm
   refine sc wkP F rfl ent20 (w_rdNew ex6 H:) ?_; clear F H; rintro _ w a ⟨b7, rfl, H⟩ F
   refine bk [0] F H rfl trivial ?_; clear F; intro a F
   replace H := H.nf 5 rfl
   refine nl (sq (sr (bk [0] F H rfl trivial ?_))); clear F; intro a F
   refine s_val wkP F rfl rfl rfl rfl (y_eqlPN F rfl rfl rfl Tryd.underlying25) ?_; clear F; intro a F
   refine bk (List.replicate 5 0) F H rfl ⟨⟨_, Tryd.underlying51⟩, trivial⟩ ?_; clear F; intro a F
   refine nl (cP F rfl (fun hg8 => ?_) (fun hg8 => ?_))
   · replace hm := ifT hg8 hm
     refine sr (bk [0] F H rfl trivial ?_); clear F; intro a F
     refine s_val wkP F rfl rfl rfl rfl (y_neqPN F rfl rfl rfl Tryd.underlying25) ?_; clear F; intro a F
     refine bk [0] F H rfl trivial ?_; clear F; intro a F
     refine nl (wr (tr ?_))
     cases hm
     refine x_ret1 F rfl rfl ?_
     exact ⟨_, rfl, rfl, (H.pm 5 [] rfl:)⟩
   · replace hm := ifF hg8 hm
     refine sk (ct (sr (bk [0] F H rfl trivial ?_))); clear F; intro a F
     obtain ⟨x9, ex9, hm⟩ := ob hm
     refine sc wkP F rfl ent10 (w_stOpen ex9 (H.pm 5 [2, 3, 1, 0, 2, 3, 4] rfl:):) ?_; clear F H; rintro _ w a ⟨b10, rfl, H⟩ F
     refine bk (List.replicate 5 0) F H rfl trivial ?_; clear F; intro a F
     replace H := H.nf 6 rfl
     refine nl (sr (bk [0] F H rfl trivial ?_)); clear F; intro a F
     obtain ⟨x11, ex11, hm⟩ := ob hm
     refine sc wkP F rfl ent21 (w_rsOpen ex11 (H.pm 6 [2, 0, 1, 3, 4, 5] rfl:):) ?_; clear F H; rintro _ w a ⟨b12, rfl, H⟩ F
     refine bk (List.replicate 5 0) F H rfl trivial ?_; clear F; intro a F
     replace H := H.nf 7 rfl
     refine nl (sq (sr (bk [0] F H rfl trivial ?_))); clear F; intro a F
     refine s_val wkP F rfl rfl rfl rfl (y_eqlPN F rfl rfl rfl Tryd.underlying29) ?_; clear F; intro a F
     refine bk [0, 0, 0, 0] F H rfl trivial ?_; clear F; intro a F
     refine nl (cN F rfl (fun hg13 => ?_) (fun hg13 => ?_))
     · replace hm := ifF hg13 hm
       refine sr (bk [0] F H rfl trivial ?_); clear F; intro a F
       refine nl (wr (tr ?_))
       cases hm
       refine x_ret1 F rfl rfl ?_
       exact ⟨_, rfl, rfl, (H.pm 7 [] rfl:)⟩
     · replace hm := ifT hg13 hm
       refine sk (ct (sq (sr (bk [0, 0, 0] F H rfl ⟨⟨_, Tryd.underlying51⟩, trivial⟩ ?_)))); clear F; intro a F
       refine nl ?_
       obtain ⟨o1521, eo1521, hm1521⟩ := ob hm; clear hm; revert eo1521; intro hm
       refine x_mid (fun aa ww => ∃ r1521, o1521 = Sum.inl r1521 ∧ ∃ (b1522 : Nat) (b1523 : Nat), Fr ⟨167, []⟩ aa [(6, .pointer (some ⟨b1522, 0, none⟩)), (8, .pointer (some ⟨b1523, 0, none⟩))] ∧ St w0 ww (HP.row 0 (0) (icells .u32 shaStart) :: HP.row 2 (0) (icells .u32 shaRounds) :: O_disk_Disk b1522 r1521.1 :: O_triremeref01_Disk b1523 r1521.2 :: l)) ?_ ?_
       · skip
         refine bl ?_
         refine x_loopO _ (fun (s2528 : T_disk_Disk_o × T_triremeref01_Disk_o × T_store_Store_o × T_triremeref05_Store_o × Int) aa ww => ∃ (b2529 : Nat) (b2530 : Nat) (b2531 : Nat) (b2532 : Nat), Fr ⟨167, []⟩ aa [(6, .pointer (some ⟨b2529, 0, none⟩)), (8, .pointer (some ⟨b2530, 0, none⟩)), (9, .pointer (some ⟨b2531, 0, none⟩)), (11, .pointer (some ⟨b2532, 0, none⟩)), (52, .slice p1 (x1_).length c1), (53, .int .i64 (((x1_).length : Int))), (54, .int .i64 (s2528.2.2.2.2))] ∧ St w0 ww (HP.row 0 (0) (icells .u32 shaStart) :: HP.row 2 (0) (icells .u32 shaRounds) :: HP.sl R_triremelaw05_Op p1 c1 x1_ :: O_disk_Disk b2529 s2528.1 :: O_triremeref01_Disk b2530 s2528.2.1 :: O_store_Store b2531 b2529 s2528.2.2.1 :: O_triremeref05_Store b2532 b2530 s2528.2.2.2.1 :: l)) hm ⟨b5, b7, b10, b12, F.sl rfl, (H.pm 7 [4, 5, 6, 3, 1, 2, 0] rfl:)⟩ ?_
         clear F H hm
         rintro s2528 a w o ⟨b2529, b2530, b2531, b2532, F, H⟩ hm
         refine sr (bk [0] F H rfl trivial ?_); clear F; intro a F
         refine nl (sq (cP F rfl (fun hg2533 => ?_) (fun hg2533 => ?_)))
         · replace hm := ifT hg2533 hm
           refine sk (ct (sq ?_))
           obtain ⟨o2780, eo2780, hm2780⟩ := ob hm; clear hm; revert eo2780; intro hm
           refine x_mid (fun aa ww => ∃ r2780, o2780 = Sum.inl r2780 ∧ ∃ (b2781 : Nat) (b2782 : Nat) (b2783 : Nat) (b2784 : Nat), Fr ⟨167, []⟩ aa [(6, .pointer (some ⟨b2781, 0, none⟩)), (8, .pointer (some ⟨b2782, 0, none⟩)), (9, .pointer (some ⟨b2783, 0, none⟩)), (11, .pointer (some ⟨b2784, 0, none⟩)), (52, .slice p1 (x1_).length c1), (53, .int .i64 (((x1_).length : Int))), (54, .int .i64 (s2528.2.2.2.2))] ∧ St w0 ww (HP.row 0 (0) (icells .u32 shaStart) :: HP.row 2 (0) (icells .u32 shaRounds) :: HP.sl R_triremelaw05_Op p1 c1 x1_ :: O_disk_Disk b2781 r2780.1 :: O_triremeref01_Disk b2782 r2780.2.1 :: O_store_Store b2783 b2781 r2780.2.2.1 :: O_triremeref05_Store b2784 b2782 r2780.2.2.2 :: l)) ?_ ?_
           · skip
             refine bl (sr ?_)
             obtain ⟨x2785, ex2785, hm⟩ := ob hm
             obtain ⟨b2786, o2786, hp2786⟩ := H.slP 2 rfl (idxO_some ex2785).2
             obtain ⟨cs2787, hcl2787, H⟩ := H.slEl 2 rfl hp2786 (idxO_some ex2785).2
             clear hcl2787
             refine s_val wkP F rfl rfl rfl rfl (y_idxS F elem51 rfl rfl rfl hp2786 ex2785) ?_; clear F; intro a F
             refine bk [999] F H rfl ⟨rfl, (aggn agg58 (H.rcLen 1 rfl)), trivial⟩ ?_; clear F; intro a F
             replace H := H.owNil rByte 5
             replace H := H.owNil (rSl rByte) 33
             replace H := H.owNil (rInt .i64) 3
             refine s_allocA wkP F rfl rfl rfl agz58 rfl H ?_; clear F H; intro b2788 w a H F
             refine s_storeA wkP F rfl rfl agg58 rfl rfl rfl H 0 rfl (H.rcLen 5 rfl) (by simp only [List.length_append, List.length_cons, List.length_nil, icells_length, bcells_length]) (H.rcFlat 5 rfl) ?_; clear H; intro w H
             replace H := H.nf 13 rfl
             refine nl (sq (sr (bk [3] F H rfl ⟨fld58_3, trivial⟩ ?_))); clear F; intro a F
             replace H := rc_triremelaw05_Op (H.pk 5 rfl); obtain ⟨p2789, c2790, p2791, c2792, p2793, c2794, rfl, H⟩ := H
             refine bk [3003, 0, 0, 0] F H rfl ⟨rfl, plain22, ⟨_, Tryd.underlying22⟩, trivial⟩ ?_; clear F; intro a F
             by_cases hg2795 : 20 < ((x2785.2.2.2.1).length : Int)
             · replace hm := ifT hg2795 hm
               replace F := F.bT 62 hg2795 rfl
               refine bk (List.replicate 5 0) F H rfl trivial ?_; clear F; intro a F
               refine nl (cT F rfl ?_)
               refine sr (bk [0] F H rfl trivial ?_); clear F; intro a F
               refine nl (wr (tr (br (tr ?_))))
               cases hm
               replace hm := elimR hm2780
               refine tr (tr ?_); cases hm; refine ⟨_, rfl, ?_⟩; rintro rfl
               refine br (tr ?_)
               replace hm := elimR hm1521
               refine tr ?_
               cases hm
               refine x_ret1 F rfl rfl ?_
               exact ⟨_, rfl, rfl, (H.pm 15 [] rfl:)⟩
             · replace hm := ifF hg2795 hm
               replace F := F.bF 62 hg2795 rfl
               refine bk [2, 3002, 0, 0, 0] F H rfl ⟨fld58_2, rfl, plain33, ⟨_, Tryd.underlying33⟩, trivial⟩ ?_; clear F; intro a F
               refine nl (cP F rfl (fun hg2796 => ?_) (fun hg2796 => ?_))
               · replace hm := ifT hg2796 hm
                 refine sr (bk [0] F H rfl trivial ?_); clear F; intro a F
                 refine nl (wr (tr (br (tr ?_))))
                 cases hm
                 replace hm := elimR hm2780
                 refine tr (tr ?_); cases hm; refine ⟨_, rfl, ?_⟩; rintro rfl
                 refine br (tr ?_)
                 replace hm := elimR hm1521
                 refine tr ?_
                 cases hm
                 refine x_ret1 F rfl rfl ?_
                 exact ⟨_, rfl, rfl, (H.pm 15 [] rfl:)⟩
               · replace hm := ifF hg2796 hm
                 refine sk (ct (sq ?_))
                 obtain ⟨o2896, eo2896, hm2896⟩ := ob hm; clear hm; revert eo2896; intro hm
                 refine x_mid (fun aa ww => ∃ r2896, o2896 = Sum.inl r2896 ∧ ∃ (b2897 : Nat) (b2898 : Nat) (b2899 : Nat) (b2900 : Nat), Fr ⟨167, []⟩ aa [(6, .pointer (some ⟨b2897, 0, none⟩)), (8, .pointer (some ⟨b2898, 0, none⟩)), (9, .pointer (some ⟨b2899, 0, none⟩)), (11, .pointer (some ⟨b2900, 0, none⟩)), (14, .pointer (some ⟨b2788, 0, none⟩)), (52, .slice p1 (x1_).length c1), (53, .int .i64 (((x1_).length : Int))), (54, .int .i64 (s2528.2.2.2.2))] ∧ St w0 ww (HP.sl rByte p2789 c2790 x2785.2.2.1 :: HP.sl (rSl rByte) p2791 c2792 x2785.2.2.2.1 :: HP.sl (rInt .i64) p2793 c2794 x2785.2.2.2.2 :: HP.blk b2788 ([.int .i64 (x2785.1), .int .i64 (x2785.2.1), .slice p2789 (x2785.2.2.1).length c2790, .slice p2791 (x2785.2.2.2.1).length c2792, .slice p2793 (x2785.2.2.2.2).length c2794]) 58 :: HP.ow (rInt .i64) 3 none 0 ([] : List Int) :: HP.ow (rSl rByte) 33 none 0 ([] : List (List UInt8)) :: HP.ow rByte 5 none 0 ([] : List UInt8) :: HP.row b2786 (o2786 + (s2528.2.2.2.2 : Int).toNat * 5) ([.int .i64 (x2785.1), .int .i64 (x2785.2.1), .slice p2789 (x2785.2.2.1).length c2790, .slice p2791 (x2785.2.2.2.1).length c2792, .slice p2793 (x2785.2.2.2.2).length c2794]) :: HP.row 0 (0) (icells .u32 shaStart) :: HP.row 2 (0) (icells .u32 shaRounds) :: HP.sl R_triremelaw05_Op p1 c1 x1_ :: O_disk_Disk b2897 r2896.1 :: O_triremeref01_Disk b2898 r2896.2.1 :: O_store_Store b2899 b2897 r2896.2.2.1 :: O_triremeref05_Store b2900 b2898 r2896.2.2.2 :: l)) ?_ ?_
                 · skip
                   refine bl (sr (bk [0, 3000, 0, 0, 0] F H rfl ⟨fld58_0, rfl, plain3, trivial⟩ ?_)); clear F; intro a F
                   refine nl ?_
                   obtain ⟨o2948, eo2948, hm2948⟩ := ob hm; clear hm; revert eo2948; intro hm
                   refine x_mid (fun aa ww => ∃ r2948, o2948 = Sum.inl r2948 ∧ ∃ (b2949 : Nat) (b2950 : Nat) (b2951 : Nat) (b2952 : Nat), Fr ⟨167, []⟩ aa [(6, .pointer (some ⟨b2949, 0, none⟩)), (8, .pointer (some ⟨b2950, 0, none⟩)), (9, .pointer (some ⟨b2951, 0, none⟩)), (11, .pointer (some ⟨b2952, 0, none⟩)), (14, .pointer (some ⟨b2788, 0, none⟩)), (52, .slice p1 (x1_).length c1), (53, .int .i64 (((x1_).length : Int))), (54, .int .i64 (s2528.2.2.2.2))] ∧ St w0 ww (HP.sl rByte p2789 c2790 x2785.2.2.1 :: HP.sl (rSl rByte) p2791 c2792 x2785.2.2.2.1 :: HP.sl (rInt .i64) p2793 c2794 x2785.2.2.2.2 :: HP.blk b2788 ([.int .i64 (x2785.1), .int .i64 (x2785.2.1), .slice p2789 (x2785.2.2.1).length c2790, .slice p2791 (x2785.2.2.2.1).length c2792, .slice p2793 (x2785.2.2.2.2).length c2794]) 58 :: HP.ow (rInt .i64) 3 none 0 ([] : List Int) :: HP.ow (rSl rByte) 33 none 0 ([] : List (List UInt8)) :: HP.ow rByte 5 none 0 ([] : List UInt8) :: HP.row b2786 (o2786 + (s2528.2.2.2.2 : Int).toNat * 5) ([.int .i64 (x2785.1), .int .i64 (x2785.2.1), .slice p2789 (x2785.2.2.1).length c2790, .slice p2791 (x2785.2.2.2.1).length c2792, .slice p2793 (x2785.2.2.2.2).length c2794]) :: HP.row 0 (0) (icells .u32 shaStart) :: HP.row 2 (0) (icells .u32 shaRounds) :: HP.sl R_triremelaw05_Op p1 c1 x1_ :: O_disk_Disk b2949 r2948.1 :: O_triremeref01_Disk b2950 r2948.2.1 :: O_store_Store b2951 b2949 r2948.2.2.1 :: O_triremeref05_Store b2952 b2950 r2948.2.2.2 :: l)) ?_ ?_
                   · skip
                     refine cP F rfl (fun hg2953 => ?_) (fun hg2953 => ?_)
                     · replace hm := ifT hg2953 hm
                       refine sq ?_
                       refine mix_region [3, 7] [] (.step 0 0 (.step 0 1 (.step 1 2 (.step 0 4 (.step 0 5 (.step 0 6 (.step 2 3 (.step 2 7 (.step 0 8 (.step 0 9 .done)))))))))) (fun u => ∃ ls, St w0 u (HP.blk b2788 ([.int .i64 (x2785.1), .int .i64 (x2785.2.1), .slice p2789 (x2785.2.2.1).length c2790, .slice p2791 (x2785.2.2.2.1).length c2792, .slice p2793 (x2785.2.2.2.2).length c2794]) 58 :: ls)) (by kernel_rfl) (by kernel_rfl) ⟨_, (H.drew.pm 15 [3, 0, 1, 2, 4, 5, 6, 7, 8, 9, 10, 11, 12, 13, 14] rfl:)⟩ ?_
                       replace H := H.drew
                       generalize w.drew = w at H ⊢
                       refine mbk [0, 4, 3004, 0, 4] F H rfl ⟨fld58_4, rfl, plain23, fld58_4, trivial⟩ ?_; clear F; intro a F
                       refine m_pure F rfl rfl rfl rfl (fun u hu => y_load1 F plain23 rfl rfl (row_at (v := .slice p2793 (x2785.2.2.2.2).length c2794) ((hu.choose_spec.blk 0 rfl).row) rfl)) ?_; clear F; intro a F
                       refine m_heavy rfl rfl ?_
                       obtain ⟨x2958, ex2958, hm⟩ := ob hm
                       refine sc wkP F rfl ent15 (w_diskCrash ex2958 (H.pm 15 [11, 2, 0, 1, 2, 3, 4, 5, 6, 7, 8, 9, 10, 12, 13, 14] rfl:):) ?_; clear F H; rintro _ w a ⟨b2959, rfl, H⟩ F
                       refine lz ?_; refine ct ⟨⟨_, (H.pm 16 [5, 0, 1, 2, 3, 4, 6, 7, 8, 9, 10, 11, 12, 13, 14, 15] rfl:)⟩, ?_⟩
                       refine m_heavy rfl rfl ?_
                       obtain ⟨x2960, ex2960, hm⟩ := ob hm
                       refine sc wkP F rfl ent22 (w_rdCrash ex2960 (H.pm 16 [13, 4, 0, 1, 2, 3, 4, 5, 6, 7, 8, 9, 10, 11, 12, 14, 15] rfl:):) ?_; clear F H; rintro _ w a ⟨b2961, rfl, H⟩ F
                       refine lz ?_; refine ct ⟨⟨_, (H.pm 17 [7, 0, 1, 2, 3, 4, 5, 6, 8, 9, 10, 11, 12, 13, 14, 15, 16] rfl:)⟩, ?_⟩
                       refine mbk [0, 0] F H rfl trivial ?_; clear F; intro a F
                       refine m_nil ?_
                       refine ct (sq (sr (bk [0] F H rfl trivial ?_))); clear F; intro a F
                       refine s_val wkP F rfl rfl rfl rfl (y_eqlPN F rfl rfl rfl Tryd.underlying25) ?_; clear F; intro a F
                       replace H := H.nf 17 rfl
                       refine nl (cF F rfl ?_)
                       refine sk (ct (sr (bk [0] F H rfl trivial ?_))); clear F; intro a F
                       obtain ⟨x2962, ex2962, hm⟩ := ob hm
                       refine sc wkP F rfl ent10 (w_stOpen ex2962 (H.pm 17 [12, 13, 2, 0, 1, 3, 4, 5, 6, 7, 8, 9, 10, 11, 12, 13, 14, 15, 16] rfl:):) ?_; clear F H; rintro _ w a ⟨b2963, rfl, H⟩ F
                       refine bk (List.replicate 5 0) F H rfl trivial ?_; clear F; intro a F
                       replace H := H.nf 18 rfl
                       refine nl (sr (bk [0] F H rfl trivial ?_)); clear F; intro a F
                       obtain ⟨x2964, ex2964, hm⟩ := ob hm
                       refine sc wkP F rfl ent21 (w_rsOpen ex2964 (H.pm 18 [2, 0, 1, 3, 4, 5, 6, 7, 8, 9, 10, 11, 12, 13, 14, 15, 16, 17] rfl:):) ?_; clear F H; rintro _ w a ⟨b2965, rfl, H⟩ F
                       refine bk [0, 0, 0, 0] F H rfl trivial ?_; clear F; intro a F
                       replace H := H.nf 19 rfl
                       refine nl (sr (bk [0] F H rfl trivial ?_)); clear F; intro a F
                       refine s_val wkP F rfl rfl rfl rfl (y_eqlPN F rfl rfl rfl Tryd.underlying29) ?_; clear F; intro a F
                       refine bk [0, 0, 0, 0] F H rfl trivial ?_; clear F; intro a F
                       refine nl (cN F rfl (fun hg2966 => ?_) (fun hg2966 => ?_))
                       · replace hm := ifF hg2966 hm
                         refine sr (bk [0] F H rfl trivial ?_); clear F; intro a F
                         refine nl (wr (tr ?_))
                         cases hm
                         replace hm := elimR hm2948
                         refine br (tr ?_)
                         cases hm
                         replace hm := elimR hm2896
                         refine tr (br (tr ?_))
                         cases hm
                         replace hm := elimR hm2780
                         refine tr (tr ?_); cases hm; refine ⟨_, rfl, ?_⟩; rintro rfl
                         refine br (tr ?_)
                         replace hm := elimR hm1521
                         refine tr ?_
                         cases hm
                         refine x_ret1 F rfl rfl ?_
                         exact ⟨_, rfl, rfl, (H.pm 19 [] rfl:)⟩
                       · replace hm := ifT hg2966 hm
                         refine sk ?_
                         cases hm
                         refine ct ?_
                         exact ⟨_, rfl, b2959, b2961, b2963, b2965, F.sl rfl, (H.pm 19 [6, 7, 8, 9, 10, 11, 12, 13, 14, 15, 16, 3, 1, 2, 0] rfl:)⟩
                     · replace hm := ifF hg2953 hm
                       refine sr (bk [0, 3000, 0, 0, 0] F H rfl ⟨fld58_0, rfl, plain3, trivial⟩ ?_); clear F; intro a F
                       refine nl ?_
                       obtain ⟨o2983, eo2983, hm2983⟩ := ob hm; clear hm; revert eo2983; intro hm
                       refine x_mid (fun aa ww => ∃ r2983, o2983 = Sum.inl r2983 ∧ Fr ⟨167, []⟩ aa [(6, .pointer (some ⟨b2529, 0, none⟩)), (8, .pointer (some ⟨b2530, 0, none⟩)), (9, .pointer (some ⟨b2531, 0, none⟩)), (11, .pointer (some ⟨b2532, 0, none⟩)), (14, .pointer (some ⟨b2788, 0, none⟩)), (52, .slice p1 (x1_).length c1), (53, .int .i64 (((x1_).length : Int))), (54, .int .i64 (s2528.2.2.2.2))] ∧ St w0 ww (HP.sl rByte p2789 c2790 x2785.2.2.1 :: HP.sl (rSl rByte) p2791 c2792 x2785.2.2.2.1 :: HP.sl (rInt .i64) p2793 c2794 x2785.2.2.2.2 :: HP.blk b2788 ([.int .i64 (x2785.1), .int .i64 (x2785.2.1), .slice p2789 (x2785.2.2.1).length c2790, .slice p2791 (x2785.2.2.2.1).length c2792, .slice p2793 (x2785.2.2.2.2).length c2794]) 58 :: HP.ow (rInt .i64) 3 none 0 ([] : List Int) :: HP.ow (rSl rByte) 33 none 0 ([] : List (List UInt8)) :: HP.ow rByte 5 none 0 ([] : List UInt8) :: HP.row b2786 (o2786 + (s2528.2.2.2.2 : Int).toNat * 5) ([.int .i64 (x2785.1), .int .i64 (x2785.2.1), .slice p2789 (x2785.2.2.1).length c2790, .slice p2791 (x2785.2.2.2.1).length c2792, .slice p2793 (x2785.2.2.2.2).length c2794]) :: HP.row 0 (0) (icells .u32 shaStart) :: HP.row 2 (0) (icells .u32 shaRounds) :: HP.sl R_triremelaw05_Op p1 c1 x1_ :: O_disk_Disk b2529 r2983.1 :: O_triremeref01_Disk b2530 r2983.2.1 :: O_store_Store b2531 b2529 r2983.2.2.1 :: O_triremeref05_Store b2532 b2530 r2983.2.2.2 :: l)) ?_ ?_
                       · skip
                         refine cP F rfl (fun hg2984 => ?_) (fun hg2984 => ?_)
                         · replace hm := ifT hg2984 hm
                           refine sr (bk [0, 1, 3001] F H rfl ⟨fld58_1, rfl, plain3, trivial⟩ ?_); clear F; intro a F
                           obtain ⟨x2985, ex2985, hm⟩ := ob hm
                           refine sc wkP F rfl ent23 (w_diskLimit ex2985 (H.pm 15 [11, 0, 1, 2, 3, 4, 5, 6, 7, 8, 9, 10, 12, 13, 14] rfl:):) ?_; clear F H; rintro _ w a ⟨rfl, H⟩ F
                           replace H := H.nf 15 rfl
                           refine nl (rl (bk [0, 1, 4001] F H rfl ⟨fld58_1, rfl, plain3, trivial⟩ ?_)); clear F; intro a F
                           obtain ⟨x2986, ex2986, hm⟩ := ob hm
                           refine sc wkP F rfl ent24 (w_rdLimit ex2986 (H.pm 15 [12, 0, 1, 2, 3, 4, 5, 6, 7, 8, 9, 10, 11, 13, 14] rfl:):) ?_; clear F H; rintro _ w a ⟨rfl, H⟩ F
                           replace H := H.nf 15 rfl
                           refine lz ?_
                           cases hm
                           refine ct ?_
                           exact ⟨_, rfl, F.sl rfl, (H.pm 15 [2, 3, 4, 5, 6, 7, 8, 9, 10, 11, 12, 1, 0, 13, 14] rfl:)⟩
                         · replace hm := ifF hg2984 hm
                           refine sr (bk [0, 3000, 0, 0, 0] F H rfl ⟨fld58_0, rfl, plain3, trivial⟩ ?_); clear F; intro a F
                           refine nl ?_
                           obtain ⟨o2993, eo2993, hm2993⟩ := ob hm; clear hm; revert eo2993; intro hm
                           refine x_mid (fun aa ww => ∃ r2993, o2993 = Sum.inl r2993 ∧ Fr ⟨167, []⟩ aa [(6, .pointer (some ⟨b2529, 0, none⟩)), (8, .pointer (some ⟨b2530, 0, none⟩)), (9, .pointer (some ⟨b2531, 0, none⟩)), (11, .pointer (some ⟨b2532, 0, none⟩)), (14, .pointer (some ⟨b2788, 0, none⟩)), (52, .slice p1 (x1_).length c1), (53, .int .i64 (((x1_).length : Int))), (54, .int .i64 (s2528.2.2.2.2))] ∧ St w0 ww (HP.sl rByte p2789 c2790 x2785.2.2.1 :: HP.sl (rSl rByte) p2791 c2792 x2785.2.2.2.1 :: HP.sl (rInt .i64) p2793 c2794 x2785.2.2.2.2 :: HP.blk b2788 ([.int .i64 (x2785.1), .int .i64 (x2785.2.1), .slice p2789 (x2785.2.2.1).length c2790, .slice p2791 (x2785.2.2.2.1).length c2792, .slice p2793 (x2785.2.2.2.2).length c2794]) 58 :: HP.ow (rInt .i64) 3 none 0 ([] : List Int) :: HP.ow (rSl rByte) 33 none 0 ([] : List (List UInt8)) :: HP.ow rByte 5 none 0 ([] : List UInt8) :: HP.row b2786 (o2786 + (s2528.2.2.2.2 : Int).toNat * 5) ([.int .i64 (x2785.1), .int .i64 (x2785.2.1), .slice p2789 (x2785.2.2.1).length c2790, .slice p2791 (x2785.2.2.2.1).length c2792, .slice p2793 (x2785.2.2.2.2).length c2794]) :: HP.row 0 (0) (icells .u32 shaStart) :: HP.row 2 (0) (icells .u32 shaRounds) :: HP.sl R_triremelaw05_Op p1 c1 x1_ :: O_disk_Disk b2529 r2993.1 :: O_triremeref01_Disk b2530 r2993.2.1 :: O_store_Store b2531 b2529 r2993.2.2.1 :: O_triremeref05_Store b2532 b2530 r2993.2.2.2 :: l)) ?_ ?_
                           · skip
                             refine cP F rfl (fun hg2994 => ?_) (fun hg2994 => ?_)
                             · replace hm := ifT hg2994 hm
                               refine sr (bk [0] F H rfl trivial ?_); clear F; intro a F
                               obtain ⟨x2995, ex2995, hm⟩ := ob hm
                               refine sc wkP F rfl ent13 (w_diskFlush ex2995 (H.pm 15 [11, 0, 1, 2, 3, 4, 5, 6, 7, 8, 9, 10, 12, 13, 14] rfl:):) ?_; clear F H; rintro _ w a ⟨rfl, H⟩ F
                               refine bk [0] F H rfl trivial ?_; clear F; intro a F
                               obtain ⟨x2996, ex2996, hm⟩ := ob hm
                               refine sc wkP F rfl ent25 (w_rdFlush ex2996 (H.pm 15 [12, 0, 1, 2, 3, 4, 5, 6, 7, 8, 9, 10, 11, 13, 14] rfl:):) ?_; clear F H; rintro _ w a ⟨rfl, H⟩ F
                               refine bk [0] F H rfl trivial ?_; clear F; intro a F
                               replace H := H.nf 15 rfl
                               refine nl (cN F rfl (fun hg2997 => ?_) (fun hg2997 => ?_))
                               · replace hm := ifF hg2997 hm
                                 refine sr (bk [0] F H rfl trivial ?_); clear F; intro a F
                                 refine nl (wr (tr ?_))
                                 cases hm
                                 replace hm := elimR hm2993
                                 refine tr ?_
                                 cases hm
                                 replace hm := elimR hm2983
                                 refine tr ?_
                                 cases hm
                                 replace hm := elimR hm2948
                                 refine br (tr ?_)
                                 cases hm
                                 replace hm := elimR hm2896
                                 refine tr (br (tr ?_))
                                 cases hm
                                 replace hm := elimR hm2780
                                 refine tr (tr ?_); cases hm; refine ⟨_, rfl, ?_⟩; rintro rfl
                                 refine br (tr ?_)
                                 replace hm := elimR hm1521
                                 refine tr ?_
                                 cases hm
                                 refine x_ret1 F rfl rfl ?_
                                 exact ⟨_, rfl, rfl, (H.pm 15 [] rfl:)⟩
                               · replace hm := ifT hg2997 hm
                                 refine sk ?_
                                 cases hm
                                 refine ct ?_
                                 exact ⟨_, rfl, F.sl rfl, (H.pm 15 [2, 3, 4, 5, 6, 7, 8, 9, 10, 11, 12, 1, 0, 13, 14] rfl:)⟩
                             · replace hm := ifF hg2994 hm
                               refine sr (bk [0, 0, 3999] F H rfl ⟨rfl, (aggn agg58 (by simp only [List.length_append, List.length_cons, List.length_nil, icells_length, bcells_length])), trivial⟩ ?_); clear F; intro a F
                               replace H := H.mkRc (R := R_triremelaw05_Op) (cs := [.int .i64 (x2785.1), .int .i64 (x2785.2.1), .slice p2789 (x2785.2.2.1).length c2790, .slice p2791 (x2785.2.2.2.1).length c2792, .slice p2793 (x2785.2.2.2.2).length c2794]) (x := (x2785.1, x2785.2.1, x2785.2.2.1, x2785.2.2.2.1, x2785.2.2.2.2)) (fun gg => ⟨_, _, rfl, rfl, ⟨_, _, rfl, rfl, ⟨_, _, rfl, ⟨_, _, rfl, (gg 0 _ rfl).choose_spec⟩, ⟨_, _, rfl, ⟨_, _, rfl, (gg 1 _ rfl).choose_spec⟩, ⟨_, _, rfl, (gg 2 _ rfl).choose_spec⟩⟩⟩⟩⟩)
                               obtain ⟨x2998, ex2998, hm⟩ := ob hm
                               refine sc wkP F rfl ent26 (w_lawStep ex2998 (H.pm 16 [9, 10, 14, 12, 15, 13, 0, 0, 1, 2, 3, 4, 5, 6, 7, 8, 9, 10, 11] rfl:):) ?_; clear F H; rintro _ w a ⟨rfl, H⟩ F
                               refine bk [0] F H rfl trivial ?_; clear F; intro a F
                               replace H := H.nf 16 rfl
                               refine nl (cB F rfl (fun hg2999 => ?_) (fun hg2999 => ?_))
                               · replace hm := ifT hg2999 hm
                                 refine sr (bk [0] F H rfl trivial ?_); clear F; intro a F
                                 refine nl (wr (tr ?_))
                                 cases hm
                                 replace hm := elimR hm2993
                                 refine tr ?_
                                 cases hm
                                 replace hm := elimR hm2983
                                 refine tr ?_
                                 cases hm
                                 replace hm := elimR hm2948
                                 refine br (tr ?_)
                                 cases hm
                                 replace hm := elimR hm2896
                                 refine tr (br (tr ?_))
                                 cases hm
                                 replace hm := elimR hm2780
                                 refine tr (tr ?_); cases hm; refine ⟨_, rfl, ?_⟩; rintro rfl
                                 refine br (tr ?_)
                                 replace hm := elimR hm1521
                                 refine tr ?_
                                 cases hm
                                 refine x_ret1 F rfl rfl ?_
                                 exact ⟨_, rfl, rfl, (H.pm 16 [] rfl:)⟩
                               · replace hm := ifF (nT hg2999) hm
                                 refine sk ?_
                                 cases hm
                                 refine ct ?_
                                 exact ⟨_, rfl, F.sl rfl, (H.pm 16 [5, 6, 7, 8, 9, 10, 11, 12, 13, 14, 15, 1, 3, 0, 2] rfl:)⟩
                           · skip
                             clear F H hm
                             rintro a w ⟨r2993, rfl, F, H⟩; have hm := elimL hm2993; clear hm2993
                             cases hm
                             refine ct ?_
                             exact ⟨_, rfl, F.sl rfl, H⟩
                       · skip
                         clear F H hm
                         rintro a w ⟨r2983, rfl, F, H⟩; have hm := elimL hm2983; clear hm2983
                         cases hm
                         refine ct ?_
                         exact ⟨_, rfl, b2529, b2530, b2531, b2532, F.sl rfl, H⟩
                   · skip
                     clear F H hm
                     rintro a w ⟨r2948, rfl, b2949, b2950, b2951, b2952, F, H⟩; have hm := elimL hm2948; clear hm2948
                     refine bn ?_
                     cases hm
                     refine ct ?_
                     exact ⟨_, rfl, b2949, b2950, b2951, b2952, F.sl rfl, H⟩
                 · skip
                   clear F H hm
                   rintro a w ⟨r2896, rfl, b2897, b2898, b2899, b2900, F, H⟩; have hm := elimL hm2896; clear hm2896
                   refine ct (sq ?_)
                   refine mix_region [1, 3, 7, 9, 10, 17, 18, 22, 23] [] (.step 0 0 (.step 0 2 (.step 2 1 (.step 2 3 (.step 0 4 (.step 0 5 (.step 0 6 (.step 0 8 (.step 2 7 (.step 2 9 (.step 2 10 (.step 0 11 (.step 0 12 (.step 0 13 (.step 0 14 (.step 0 15 (.step 1 16 (.step 0 19 (.step 0 20 (.step 0 21 (.step 2 17 (.step 2 18 (.step 2 22 (.step 2 23 (.step 0 24 (.step 0 25 (.step 0 26 .done))))))))))))))))))))))))))) (fun u => ∃ ls, St w0 u (HP.blk b2788 ([.int .i64 (x2785.1), .int .i64 (x2785.2.1), .slice p2789 (x2785.2.2.1).length c2790, .slice p2791 (x2785.2.2.2.1).length c2792, .slice p2793 (x2785.2.2.2.2).length c2794]) 58 :: ls)) (by kernel_rfl) (by kernel_rfl) ⟨_, (H.drew.pm 15 [3, 0, 1, 2, 4, 5, 6, 7, 8, 9, 10, 11, 12, 13, 14] rfl:)⟩ ?_
                   replace H := H.drew
                   generalize w.drew = w at H ⊢
                   refine mbk [0, 0] F H rfl trivial ?_; clear F; intro a F
                   refine m_heavy rfl rfl ?_
                   obtain ⟨x3015, ex3015, hm⟩ := ob hm
                   refine sc wkP F rfl ent17 (w_stFree ex3015 (H.pm 15 [13, 11, 0, 1, 2, 3, 4, 5, 6, 7, 8, 9, 10, 12, 14] rfl:):) ?_; clear F H; rintro _ w a ⟨rfl, H⟩ F
                   refine lz ?_; refine ct ⟨⟨_, (H.pm 15 [5, 0, 1, 2, 3, 4, 6, 7, 8, 9, 10, 11, 12, 13, 14] rfl:)⟩, ?_⟩
                   refine m_heavy rfl rfl ?_
                   obtain ⟨x3016, ex3016, hm⟩ := ob hm
                   refine sc wkP F rfl ent27 (w_rsFree ex3016 (H.pm 15 [14, 13, 0, 1, 2, 3, 4, 5, 6, 7, 8, 9, 10, 11, 12] rfl:):) ?_; clear F H; rintro _ w a ⟨rfl, H⟩ F
                   refine lz ?_; refine ct ⟨⟨_, (H.pm 15 [7, 0, 1, 2, 3, 4, 5, 6, 8, 9, 10, 11, 12, 13, 14] rfl:)⟩, ?_⟩
                   refine mbk [0, 0] F H rfl trivial ?_; clear F; intro a F
                   by_cases hg3017 : x3015 = x3016
                   · replace hm := ifT hg3017 hm
                     replace F := F.nT 132 hg3017 rfl
                     refine mbk [0, 0] F H rfl trivial ?_; clear F; intro a F
                     refine m_heavyOn F rfl rfl rfl rfl rfl ?_; refine g_onP F rfl rfl rfl rfl ?_
                     obtain ⟨x3018, ex3018, hm⟩ := ob hm
                     refine sc wkP F rfl ent18 (w_stHashes ex3018 (H.pm 15 [2, 3, 0, 1, 4, 5, 6, 7, 8, 9, 10, 11, 12, 13, 14] rfl:):) ?_; clear F H; rintro _ w a ⟨p3019, c3019, rfl, H⟩ F
                     refine lz ?_; refine ct ⟨⟨_, (H.pm 16 [8, 0, 1, 2, 3, 4, 5, 6, 7, 9, 10, 11, 12, 13, 14, 15] rfl:)⟩, ?_⟩
                     refine m_heavyOn F rfl rfl rfl rfl rfl ?_; refine g_onP F rfl rfl rfl rfl ?_
                     obtain ⟨x3020, ex3020, hm⟩ := ob hm
                     refine sc wkP F rfl ent29 (w_rsHashes ex3020 (H.pm 16 [3, 4, 0, 1, 2, 5, 6, 7, 8, 9, 10, 11, 12, 13, 14, 15] rfl:):) ?_; clear F H; rintro _ w a ⟨p3021, c3021, rfl, H⟩ F
                     refine lz ?_; refine ct ⟨⟨_, (H.pm 17 [9, 0, 1, 2, 3, 4, 5, 6, 7, 8, 10, 11, 12, 13, 14, 15, 16] rfl:)⟩, ?_⟩
                     refine m_heavyOn F rfl rfl rfl rfl rfl ?_; refine g_onP F rfl rfl rfl rfl ?_
                     replace H := H.frz 3 rfl
                     obtain ⟨x3022, ex3022, hm⟩ := ob hm
                     refine sc wkP F rfl ent28 (w_m_triremeref05_Same ex3022 (H.pm 17 [0, 1, 0, 1, 2, 3, 4, 5, 6, 7, 8, 9, 10, 11, 12, 13, 14, 15, 16] rfl:):) ?_; clear F H; rintro _ w a ⟨rfl, H⟩ F
                     refine lz ?_; refine ct ⟨⟨_, (H.pm 17 [9, 0, 1, 2, 3, 4, 5, 6, 7, 8, 10, 11, 12, 13, 14, 15, 16] rfl:)⟩, ?_⟩
                     refine mbk [0, 0, 0] F H rfl trivial ?_; clear F; intro a F
                     by_cases hg3023 : (!x3022) = true
                     · replace hm := ifT hg3023 hm
                       replace F := F.vT 140 hg3023 rfl
                       refine mbk (List.replicate 13 0) F H rfl trivial ?_; clear F; intro a F
                       refine m_nil ?_
                       refine ct (cT F rfl ?_)
                       refine sr (bk [0] F H rfl trivial ?_); clear F; intro a F
                       replace H := H.nf 17 rfl
                       refine nl (wr (br (tr ?_)))
                       cases hm
                       replace hm := elimR hm2780
                       refine tr (tr ?_); cases hm; refine ⟨_, rfl, ?_⟩; rintro rfl
                       refine br (tr ?_)
                       replace hm := elimR hm1521
                       refine tr ?_
                       cases hm
                       refine x_ret1 F rfl rfl ?_
                       exact ⟨_, rfl, rfl, (H.pm 17 [] rfl:)⟩
                     · replace hm := ifF hg3023 hm
                       replace F := F.vF 140 hg3023 rfl
                       refine mbk [0, 2, 9002, 0, 2] F H rfl ⟨fld58_2, rfl, plain33, fld58_2, trivial⟩ ?_; clear F; intro a F
                       refine m_on (k := 0) F rfl rfl rfl rfl rfl rfl rfl (fun u hu => y_load1 F plain33 rfl rfl (row_at (v := .slice p2789 (x2785.2.2.1).length c2790) ((hu.choose_spec.blk 0 rfl).row) rfl)) ?_; clear F; intro a F
                       refine m_heavyOn F rfl rfl rfl rfl rfl ?_; refine g_onP F rfl rfl rfl rfl ?_
                       obtain ⟨x3024, ex3024, hm⟩ := ob hm
                       refine sc wkP F rfl ent12 (w_rSum ex3024 (H.pm 17 [6, 0, 1, 2, 3, 4, 5, 6, 7, 8, 9, 10, 11, 12, 13, 14, 15, 16] rfl:):) ?_; clear F H; rintro _ w a ⟨rfl, hl3025, H⟩ F
                       refine lz ?_; refine ct ⟨⟨_, (H.pm 17 [9, 0, 1, 2, 3, 4, 5, 6, 7, 8, 10, 11, 12, 13, 14, 15, 16] rfl:)⟩, ?_⟩
                       refine m_heavyOn F rfl rfl rfl rfl rfl ?_; refine g_onP F rfl rfl rfl rfl ?_
                       obtain ⟨x3026, ex3026, hm⟩ := ob hm
                       refine sc wkP F rfl ent30 (w_stHas hl3025 ex3026 (H.pm 17 [4, 5, 0, 1, 2, 3, 6, 7, 8, 9, 10, 11, 12, 13, 14, 15, 16] rfl:):) ?_; clear F H; rintro _ w a ⟨rfl, H⟩ F
                       refine lz ?_; refine ct ⟨⟨_, (H.pm 17 [9, 0, 1, 2, 3, 4, 5, 6, 7, 8, 10, 11, 12, 13, 14, 15, 16] rfl:)⟩, ?_⟩
                       refine m_heavyOn F rfl rfl rfl rfl rfl ?_; refine g_onP F rfl rfl rfl rfl ?_
                       obtain ⟨x3027, ex3027, hm⟩ := ob hm
                       refine sc wkP F rfl ent12 (w_rSum ex3027 (H.pm 17 [6, 0, 1, 2, 3, 4, 5, 6, 7, 8, 9, 10, 11, 12, 13, 14, 15, 16] rfl:):) ?_; clear F H; rintro _ w a ⟨rfl, hl3028, H⟩ F
                       refine lz ?_; refine ct ⟨⟨_, (H.pm 17 [9, 0, 1, 2, 3, 4, 5, 6, 7, 8, 10, 11, 12, 13, 14, 15, 16] rfl:)⟩, ?_⟩
                       refine m_heavyOn F rfl rfl rfl rfl rfl ?_; refine g_onP F rfl rfl rfl rfl ?_
                       obtain ⟨x3029, ex3029, hm⟩ := ob hm
                       refine sc wkP F rfl ent31 (w_rsAt hl3028 ex3029 (H.pm 17 [4, 5, 0, 1, 2, 3, 6, 7, 8, 9, 10, 11, 12, 13, 14, 15, 16] rfl:):) ?_; clear F H; rintro _ w a ⟨rfl, H⟩ F
                       refine lz ?_; refine ct ⟨⟨_, (H.pm 17 [9, 0, 1, 2, 3, 4, 5, 6, 7, 8, 10, 11, 12, 13, 14, 15, 16] rfl:)⟩, ?_⟩
                       refine mbk [0] F H rfl trivial ?_; clear F; intro a F
                       refine m_on (k := 0) F rfl rfl rfl rfl rfl rfl rfl (fun u hu => y_neqBool (p := x3026) (q := decide (0 ≤ x3029)) F rfl Tryd.underlying4 rfl rfl) ?_; clear F; intro a F
                       refine mbk [0] F H rfl trivial ?_; clear F; intro a F
                       refine m_nil ?_
                       refine ct (cN F rfl (fun hg3030 => ?_) (fun hg3030 => ?_))
                       · replace hm := ifF hg3030 hm
                         refine sr (bk [0] F H rfl trivial ?_); clear F; intro a F
                         replace H := H.nf 17 rfl
                         refine nl (wr (br (tr ?_)))
                         cases hm
                         replace hm := elimR hm2780
                         refine tr (tr ?_); cases hm; refine ⟨_, rfl, ?_⟩; rintro rfl
                         refine br (tr ?_)
                         replace hm := elimR hm1521
                         refine tr ?_
                         cases hm
                         refine x_ret1 F rfl rfl ?_
                         exact ⟨_, rfl, rfl, (H.pm 17 [] rfl:)⟩
                       · replace hm := ifT hg3030 hm
                         refine sk (bn ?_)
                         cases hm
                         refine ct ?_
                         exact ⟨_, rfl, b2897, b2898, b2899, b2900, F.sl rfl, (H.pm 17 [14, 15, 16, 3, 1, 2, 0] rfl:)⟩
                   · replace hm := ifF hg3017 hm
                     replace F := F.nF 132 hg3017 rfl
                     refine mbk (List.replicate 21 0) F H rfl trivial ?_; clear F; intro a F
                     refine m_nil ?_
                     refine ct (cT F rfl ?_)
                     refine sr (bk [0] F H rfl trivial ?_); clear F; intro a F
                     replace H := H.nf 15 rfl
                     refine nl (wr (br (tr ?_)))
                     cases hm
                     replace hm := elimR hm2780
                     refine tr (tr ?_); cases hm; refine ⟨_, rfl, ?_⟩; rintro rfl
                     refine br (tr ?_)
                     replace hm := elimR hm1521
                     refine tr ?_
                     cases hm
                     refine x_ret1 F rfl rfl ?_
                     exact ⟨_, rfl, rfl, (H.pm 15 [] rfl:)⟩
           · skip
             clear F H hm
             rintro a w ⟨r2780, rfl, b2781, b2782, b2783, b2784, F, H⟩; have hm := elimL hm2780; clear hm2780
             refine ct (rl (bk [0, 0] F H rfl trivial ?_)); clear F; intro a F
             refine lz (ct ?_); cases hm
             exact ⟨_, rfl, ⟨b2781, b2782, b2783, b2784, F.sl rfl, H⟩⟩
         · replace hm := ifF hg2533 hm
           refine ex (cx (cx ?_)); cases hm; refine ⟨_, rfl, ?_⟩; rintro rfl
           refine ch (ct ?_)
           exact ⟨_, rfl, b2529, b2530, F.sl rfl, (H.pm 7 [0, 1, 3, 4] rfl:)⟩
       · skip
         clear F H hm
         rintro a w ⟨r1521, rfl, b1522, b1523, F, H⟩; have hm := elimL hm1521; clear hm1521
         refine ct (sr (bk [0] F H rfl trivial ?_)); clear F; intro a F
         obtain ⟨x3031, ex3031, hm⟩ := ob hm
         refine sc wkP F rfl ent10 (w_stOpenE ex3031 (H.pm 4 [0, 1, 2, 0, 1, 3] rfl:):) ?_; clear F H; rintro _ w a ⟨q3032, rfl, H⟩ F
         refine bk [0, 0, 0, 0] F H rfl trivial ?_; clear F; intro a F
         replace H := H.nf 4 rfl
         refine nl (sr (bk [0, 0, 0, 0, 3] F H rfl ⟨fld67_3, trivial⟩ ?_)); clear F; intro a F
         obtain ⟨p3033, c3034, p3035, c3036, H⟩ := O_triremeref01_Disk_o (H.pk 3 rfl)
         refine bk [3] F H rfl ⟨rfl, plain4, trivial⟩ ?_; clear F; intro a F
         refine s_val wkP F rfl rfl rfl rfl (y_eqlBool (p := decide (x3031.2 = 3)) (q := r1521.2.2.2.2) F rfl Tryd.underlying4 rfl rfl) ?_; clear F; intro a F
         refine bk [0] F H rfl trivial ?_; clear F; intro a F
         refine nl (wr ?_)
         cases hm
         refine x_ret1 F rfl rfl ?_
         exact ⟨_, rfl, rfl, (H.pm 6 [] rfl:)⟩
end Go.Proofs.YtfepdfjhejkemaaDoor
