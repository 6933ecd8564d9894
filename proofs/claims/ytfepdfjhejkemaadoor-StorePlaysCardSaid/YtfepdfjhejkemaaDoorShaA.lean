/- sha -/
import Derived.Test.YtfepdfjhejkemaaDoorMod
import Derived.Test.YtfepdfjhejkemaaDoorProg
set_option linter.unusedSimpArgs false
set_option linter.unusedVariables false
namespace Go.Proofs.YtfepdfjhejkemaaDoor
open Go.RowKit Go.Tri
set_option maxRecDepth 100000 in
set_option maxHeartbeats 4000000 in
theorem w_rotL32 {x : Int} {k : Int}  {w0 w : World} {l : List HP}  {r : Int} (hm : rotL32 x k = some r) (H : St w0 w (l)) :
  Calls Tryd.prog 93 [.int .u32 (x), .int .i64 (k)].toArray w (fun e w' => ∃ v, e = .returned v ∧ v = .int .u32 (r) ∧ St w0 w' (l)) := by
 unfold rotL32 at hm
 refine x_enter Tryd.func93 rfl rfl rfl ?_
 intro a F
 refine sr (bk [0] F H rfl trivial ?_); clear F; intro a F
 refine nl (sr (bk [0, 2, 0, 0] F H rfl ⟨Tryd.underlying3, Tryd.underlying85, trivial⟩ ?_)); clear F; intro a F
 refine nl (sr (bk [0, 0] F H rfl trivial ?_)); clear F; intro a F
 obtain ⟨x1, ex1, hm⟩ := ob hm
 refine s_val wkP F rfl rfl rfl rfl (i_shlO F rfl rfl rfl ex1) ?_; clear F; intro a F
 refine bk [0, 0, 0] F H rfl trivial ?_; clear F; intro a F
 obtain ⟨x2, ex2, hm⟩ := ob hm
 refine s_val wkP F rfl rfl rfl rfl (i_shrO F rfl rfl rfl ex2) ?_; clear F; intro a F
 refine bk [0, 0] F H rfl trivial ?_; clear F; intro a F
 refine nl (wr ?_)
 cases hm
 refine x_ret1 F rfl rfl ?_
 exact ⟨_, rfl, rfl, H⟩
theorem ent93 : ∀ args w, (callFunc 93 args).run Tryd.prog w = .ok (.enter 93 args) w := enters Tryd.func93 (by kernel_rfl) rfl
set_option maxRecDepth 100000 in
set_option maxHeartbeats 4000000 in
theorem w_turn {x : Int} {a_ : Int} {b_ : Int} {c_ : Int} {sh : Bool}  {w0 w : World} {l : List HP}  {r : Int} (hm : turn x a_ b_ c_ sh = some r) (H : St w0 w (l)) :
  Calls Tryd.prog 82 [.int .u32 (x), .int .i64 (a_), .int .i64 (b_), .int .i64 (c_), .bool (sh)].toArray w (fun e w' => ∃ v, e = .returned v ∧ v = .int .u32 (r) ∧ St w0 w' (l)) := by
 unfold turn at hm
 refine x_enter Tryd.func82 rfl rfl rfl ?_
 intro a F
 refine sr (bk [0] F H rfl trivial ?_); clear F; intro a F
 refine nl (sr (bk [0, 0, 0] F H rfl trivial ?_)); clear F; intro a F
 obtain ⟨x1, ex1, hm⟩ := ob hm
 refine sc wkP F rfl ent93 (w_rotL32 ex1 H:) ?_; clear F H; rintro _ w a ⟨rfl, H⟩ F
 refine bk [0] F H rfl trivial ?_; clear F; intro a F
 refine nl (sq (sr (bk [0] F H rfl trivial ?_))); clear F; intro a F
 refine nl ?_
 obtain ⟨r4, er4, hm4⟩ := ob hm; clear hm; revert er4; intro hm
 refine x_mid (fun aa ww => Fr ⟨31, []⟩ aa [(0, .int .u32 (x)), (1, .int .i64 (a_)), (2, .int .i64 (b_)), (11, .int .u32 (r4))] ∧ St w0 ww (l)) ?_ ?_
 · skip
   refine cB F rfl (fun hg5 => ?_) (fun hg5 => ?_)
   · replace hm := ifT hg5 hm
     refine rl (bk [0, 0] F H rfl trivial ?_); clear F; intro a F
     obtain ⟨x6, ex6, hm⟩ := ob hm
     refine s_val wkP F rfl rfl rfl rfl (i_shrO F rfl rfl rfl ex6) ?_; clear F; intro a F
     refine bk [0] F H rfl trivial ?_; clear F; intro a F
     refine lz ?_
     cases hm
     refine ct ?_
     exact ⟨F.sl rfl, H⟩
   · replace hm := ifF (nT hg5) hm
     refine sk ?_
     cases hm
     refine ct ?_
     exact ⟨F.sl rfl, H⟩
 · skip
   clear F H hm
   rintro a w ⟨F, H⟩; have hm := hm4; clear hm4
   refine ct (sr (bk [0, 0, 0] F H rfl trivial ?_)); clear F; intro a F
   obtain ⟨x7, ex7, hm⟩ := ob hm
   refine sc wkP F rfl ent93 (w_rotL32 ex7 H:) ?_; clear F H; rintro _ w a ⟨rfl, H⟩ F
   refine bk [0, 0, 0] F H rfl trivial ?_; clear F; intro a F
   obtain ⟨x8, ex8, hm⟩ := ob hm
   refine sc wkP F rfl ent93 (w_rotL32 ex8 H:) ?_; clear F H; rintro _ w a ⟨rfl, H⟩ F
   refine bk [0, 0, 0, 0] F H rfl trivial ?_; clear F; intro a F
   refine nl (wr ?_)
   cases hm
   refine x_ret1 F rfl rfl ?_
   exact ⟨_, rfl, rfl, H⟩
theorem agg83 : AggT Tryd.prog 83 8 (List.replicate 8 (.int .u32 0)) := ⟨by rw [Tryd.underlying83]; rfl, by kernel_rfl, by kernel_rfl⟩
theorem build_135_0 : ∀ (s0 : List Int) (h0 : s0.length = 8), Tryd.prog.built 135 [(0, .agg (icells .u32 s0).toArray)] = some ((icells .u32 s0 ++ ([Value.slice none (([] : List UInt8)).length 0, Value.int .u64 (0)]) : List Value)).toArray := fun s0 h0 => match s0, h0 with | [a0_0, a0_1, a0_2, a0_3, a0_4, a0_5, a0_6, a0_7], _ => by kernel_rfl
set_option maxRecDepth 100000 in
set_option maxHeartbeats 4000000 in
theorem w_shaNew   {w0 w : World} {l : List HP}  {r : T_sha_Hasher_o} (hm : shaNew  = some r) (H : St w0 w (HP.row 0 (0) (icells .u32 shaStart) :: l)) :
  Calls Tryd.prog 61 [].toArray w (fun e w' => ∃ v, e = .returned v ∧ ∃ (b1 : Nat), v = .pointer (some ⟨b1, 0, none⟩) ∧ St w0 w' (O_sha_Hasher b1 r :: l)) := by
 unfold shaNew at hm
 refine x_enter Tryd.func61 rfl rfl rfl ?_
 intro a F
 refine sr (bk [0] F H rfl trivial ?_); clear F; intro a F
 refine nl (sr (bk [999] F H rfl ⟨rfl, (aggn agg83 ((icells_length _ _).trans shaStart_len)), trivial⟩ ?_)); clear F; intro a F
 replace H := H.owNil rByte 5
 refine s_val wkP F rfl rfl rfl rfl (y_build F rfl rfl (cs := icells .u32 shaStart ++ ([Value.slice none (([] : List UInt8)).length 0, Value.int .u64 (0)])) (build_135_0 shaStart shaStart_len)) ?_; clear F; intro a F
 refine s_boxA wkP F rfl rfl rfl rfl rfl H ?_; clear F H; intro b2 w a H F
 refine bk [0] F H rfl trivial ?_; clear F; intro a F
 replace H := H.nf 3 rfl
 refine nl (wr ?_)
 replace H := O_sha_Hasher_s (x1 := ([] : List UInt8)) shaStart_len H
 cases hm
 refine x_ret1 F rfl rfl ?_
 exact ⟨_, rfl, b2, rfl, (H.pm 2 [0] rfl:)⟩
set_option maxRecDepth 100000 in
set_option maxHeartbeats 4000000 in
theorem w_rotr {x : Int} {n : Int}  {w0 w : World} {l : List HP}  {r : Int} (hm : rotr x n = some r) (H : St w0 w (l)) :
  Calls Tryd.prog 40 [.int .u32 (x), .int .i64 (n)].toArray w (fun e w' => ∃ v, e = .returned v ∧ v = .int .u32 (r) ∧ St w0 w' (l)) := by
 unfold rotr at hm
 refine x_enter Tryd.func40 rfl rfl rfl ?_
 intro a F
 refine sr (bk [0] F H rfl trivial ?_); clear F; intro a F
 refine nl (sr (bk [0, 0, 2] F H rfl ⟨Tryd.underlying3, Tryd.underlying85, trivial⟩ ?_)); clear F; intro a F
 obtain ⟨x1, ex1, hm⟩ := ob hm
 refine s_val wkP F rfl rfl rfl rfl (i_shrO F rfl rfl rfl ex1) ?_; clear F; intro a F
 refine bk [0, 0, 0, 2] F H rfl ⟨Tryd.underlying3, Tryd.underlying85, trivial⟩ ?_; clear F; intro a F
 obtain ⟨x2, ex2, hm⟩ := ob hm
 refine s_val wkP F rfl rfl rfl rfl (i_shlO F rfl rfl rfl ex2) ?_; clear F; intro a F
 refine bk [0, 0] F H rfl trivial ?_; clear F; intro a F
 refine nl (wr ?_)
 cases hm
 refine x_ret1 F rfl rfl ?_
 exact ⟨_, rfl, rfl, H⟩
theorem elem33 : ElemT Tryd.prog 33 5 1 1 (.int .u8 0) := ⟨Tryd.underlying33, by kernel_rfl, by kernel_rfl, by decide⟩
theorem zero5 : Zero1 Tryd.prog 5 (.int .u8 0) := ⟨by kernel_rfl, rfl⟩
set_option maxRecDepth 100000 in
set_option maxHeartbeats 4000000 in
theorem w_rPad {b : List UInt8} {p1 : Option Addr} {c1 : Nat} {w0 w : World} {l : List HP}  {r : (List UInt8)} (hm : rPad b = some r) (H : St w0 w (HP.sl rByte p1 c1 b :: l)) :
  Calls Tryd.prog 39 [.slice p1 (b).length c1].toArray w (fun e w' => ∃ v, e = .returned v ∧ ∃ (p2 : Option Addr) (c2 : Nat), v = .slice p2 (r).length c2 ∧ St w0 w' (HP.ow rByte 5 p2 c2 r :: l)) := by
 unfold rPad at hm
 refine x_enter Tryd.func39 rfl rfl rfl ?_
 intro a F
 refine sr (bk [0] F H rfl trivial ?_); clear F; intro a F
 refine nl (sr (s_build0O (R := rByte) wkP F rfl rfl rfl elem33 rfl H ?_)); clear F H; intro b3 w a H F
 refine bk [0] F H rfl trivial ?_; clear F; intro a F
 obtain ⟨x5, ex5, hm⟩ := ob hm
 refine s_app wkP F rfl rfl rfl rfl rfl rfl elem33 rfl ex5 H 0 1 rfl rfl ?_; clear F H; intro p4 c4 w a H F
 obtain ⟨x7, ex7, hm⟩ := ob hm
 refine s_buildC wkP F rfl rfl rfl elem33 zero5 rfl rfl rfl rfl (by simp [Value.cells]) (by decide) H ?_; clear F H; intro b6 w a H F
 replace H : St w0 w (HP.ow rByte 5 (some ⟨b6, 0, none⟩) (([x7]).length) ([x7]) :: HP.ow rByte 5 p4 c4 x5 :: HP.sl rByte p1 c1 b :: l) := H.blkOw (R := rByte) 0 rfl (fun gg => ⟨[[.int .u8 (128)]], rfl, (congrArg (fun z => [Value.int .u8 z]) (u8O_some ex7).symm), trivial⟩) (by simp)
 replace H := H.frz 0 rfl
 obtain ⟨x9, ex9, hm⟩ := ob hm
 refine s_app wkP F rfl rfl rfl rfl rfl rfl elem33 rfl ex9 H 1 0 rfl rfl ?_; clear F H; intro p8 c8 w a H F
 refine bk [0] F H rfl trivial ?_; clear F; intro a F
 replace H := H.nf 3 rfl
 refine nl (sq ?_)
 obtain ⟨r32, er32, hm32⟩ := ob hm; clear hm; revert er32; intro hm
 refine x_mid (fun aa ww => ∃ (p33 : Option Addr) (c33 : Nat), Fr ⟨36, []⟩ aa [(0, .slice p1 (b).length c1), (3, .slice p33 (r32).length c33)] ∧ St w0 ww (HP.sl rByte p1 c1 b :: HP.ow rByte 5 p33 c33 r32 :: l)) ?_ ?_
 · skip
   refine bl (x_loopO _ (fun (s48 : (List UInt8)) aa ww => ∃ (p49 : Option Addr) (c49 : Nat), Fr ⟨36, []⟩ aa [(0, .slice p1 (b).length c1), (3, .slice p49 (s48).length c49)] ∧ St w0 ww (HP.sl rByte p1 c1 b :: HP.ow rByte 5 p49 c49 s48 :: l)) hm ⟨p8, c8, F.sl rfl, (H.pm 3 [2, 1] rfl:)⟩ ?_)
   clear F H hm
   rintro s48 a w o ⟨p49, c49, F, H⟩ hm
   refine sq (sr (bk [0, 0] F H rfl ⟨⟨_, Tryd.underlying33⟩, trivial⟩ ?_)); clear F; intro a F
   obtain ⟨x50, ex50, hm⟩ := ob hm
   refine s_val wkP F rfl rfl rfl rfl (i_rem F rfl rfl rfl ex50) ?_; clear F; intro a F
   refine bk [0] F H rfl trivial ?_; clear F; intro a F
   refine nl (cN F rfl (fun hg51 => ?_) (fun hg51 => ?_))
   · replace hm := ifF hg51 hm
     refine sk (ct (bl (rl (bk [0] F H rfl trivial ?_)))); clear F; intro a F
     obtain ⟨x53, ex53, hm⟩ := ob hm
     refine s_buildC wkP F rfl rfl rfl elem33 zero5 rfl rfl rfl rfl (by simp [Value.cells]) (by decide) H ?_; clear F H; intro b52 w a H F
     replace H : St w0 w (HP.ow rByte 5 (some ⟨b52, 0, none⟩) (([x53]).length) ([x53]) :: HP.sl rByte p1 c1 b :: HP.ow rByte 5 p49 c49 s48 :: l) := H.blkOw (R := rByte) 0 rfl (fun gg => ⟨[[.int .u8 (0)]], rfl, (congrArg (fun z => [Value.int .u8 z]) (u8O_some ex53).symm), trivial⟩) (by simp)
     replace H := H.frz 0 rfl
     obtain ⟨x55, ex55, hm⟩ := ob hm
     refine s_app wkP F rfl rfl rfl rfl rfl rfl elem33 rfl ex55 H 2 0 rfl rfl ?_; clear F H; intro p54 c54 w a H F
     refine bk [0] F H rfl trivial ?_; clear F; intro a F
     replace H := H.nf 3 rfl
     refine lz (bn (ct ?_)); cases hm
     exact ⟨_, rfl, ⟨p54, c54, F.sl rfl, (H.pm 3 [1, 2] rfl:)⟩⟩
   · replace hm := ifT hg51 hm
     refine ex (cx (cx ?_)); cases hm; refine ⟨_, rfl, ?_⟩; rintro rfl
     refine ch (ct ?_)
     exact ⟨p49, c49, F.sl rfl, H⟩
 · skip
   clear F H hm
   rintro a w ⟨p33, c33, F, H⟩; have hm := hm32; clear hm32
   refine ct (sr (bk [0, 0, 2, 0, 0] F H rfl ⟨⟨_, Tryd.underlying33⟩, Tryd.underlying3, Tryd.underlying115, trivial⟩ ?_)); clear F; intro a F
   refine nl (sq (sr (bk [0] F H rfl trivial ?_))); clear F; intro a F
   refine nl ?_
   obtain ⟨r78, er78, hm78⟩ := ob hm; clear hm; revert er78; intro hm
   refine x_mid (fun aa ww => ∃ (p79 : Option Addr) (c79 : Nat), Fr ⟨36, []⟩ aa [(3, .slice p79 (r78).length c79)] ∧ St w0 ww (HP.ow rByte 5 p79 c79 r78 :: l)) ?_ ?_
   · skip
     refine bl (x_loopO _ (fun (s94 : (List UInt8) × Int) aa ww => ∃ (p95 : Option Addr) (c95 : Nat), Fr ⟨36, []⟩ aa [(3, .slice p95 (s94.1).length c95), (4, .int .u64 (IntKind.u64.wrap ((IntKind.u64.wrap (((b).length : Int))) * 8))), (5, .int .i64 (s94.2))] ∧ St w0 ww (HP.ow rByte 5 p95 c95 s94.1 :: l)) hm ⟨p33, c33, F.sl rfl, (H.pm 2 [1] rfl:)⟩ ?_)
     clear F H hm
     rintro s94 a w o ⟨p95, c95, F, H⟩ hm
     refine sq (sr (bk [0, 0] F H rfl trivial ?_)); clear F; intro a F
     refine nl (cP F rfl (fun hg96 => ?_) (fun hg96 => ?_))
     · replace hm := ifT hg96 hm
       refine sk (ct (sq (bl (rl (bk [0, 0, 0, 0, 2] F H rfl ⟨Tryd.underlying3, Tryd.underlying85, trivial⟩ ?_))))); clear F; intro a F
       obtain ⟨x97, ex97, hm⟩ := ob hm
       refine s_val wkP F rfl rfl rfl rfl (i_shrO F rfl rfl rfl ex97) ?_; clear F; intro a F
       refine bk [1] F H rfl ⟨Tryd.underlying115, Tryd.underlying5, trivial⟩ ?_; clear F; intro a F
       obtain ⟨x99, ex99, hm⟩ := ob hm
       refine s_buildC wkP F rfl rfl rfl elem33 zero5 rfl rfl rfl rfl (by simp [Value.cells]) (by decide) H ?_; clear F H; intro b98 w a H F
       replace H : St w0 w (HP.ow rByte 5 (some ⟨b98, 0, none⟩) (([x99]).length) ([x99]) :: HP.ow rByte 5 p95 c95 s94.1 :: l) := H.blkOw (R := rByte) 0 rfl (fun gg => ⟨[[.int .u8 (IntKind.u8.wrap (x97))]], rfl, (congrArg (fun z => [Value.int .u8 z]) (u8O_some ex99).symm), trivial⟩) (by simp)
       replace H := H.frz 0 rfl
       obtain ⟨x101, ex101, hm⟩ := ob hm
       refine s_app wkP F rfl rfl rfl rfl rfl rfl elem33 rfl ex101 H 1 0 rfl rfl ?_; clear F H; intro p100 c100 w a H F
       refine bk [0] F H rfl trivial ?_; clear F; intro a F
       replace H := H.nf 2 rfl
       refine lz (bn (ct (rl (bk [0, 0, 0] F H rfl trivial ?_)))); clear F; intro a F
       refine lz (ct ?_); cases hm
       exact ⟨_, rfl, ⟨p100, c100, F.sl rfl, (H.pm 2 [1] rfl:)⟩⟩
     · replace hm := ifF hg96 hm
       refine ex (cx (cx ?_)); cases hm; refine ⟨_, rfl, ?_⟩; rintro rfl
       refine ch (ct ?_)
       exact ⟨p95, c95, F.sl rfl, H⟩
   · skip
     clear F H hm
     rintro a w ⟨p79, c79, F, H⟩; have hm := hm78; clear hm78
     refine ct (sr (bk [0, 0] F H rfl trivial ?_)); clear F; intro a F
     refine nl (wr ?_)
     cases hm
     refine x_ret1 F rfl rfl ?_
     exact ⟨_, rfl, p79, c79, rfl, H⟩
end Go.Proofs.YtfepdfjhejkemaaDoor
