/- the document -/
import Derived.Test.YtfepdfjhejkemaaDoorDiskA
set_option linter.unusedSimpArgs false
set_option linter.unusedVariables false
namespace Go.Proofs.YtfepdfjhejkemaaDoor
open Go.RowKit Go.Tri
set_option maxRecDepth 100000 in
set_option maxHeartbeats 4000000 in
theorem w_m_triremeref04_pad {x0_ : List UInt8} {p1 : Option Addr} {c1 : Nat} {w0 w : World} {l : List HP}  {r : (List UInt8)} (hm : m_triremeref04_pad x0_ = some r) (H : St w0 w (HP.sl rByte p1 c1 x0_ :: l)) :
  Calls Tryd.prog 81 [.slice p1 (x0_).length c1].toArray w (fun e w' => ∃ v, e = .returned v ∧ ∃ (p2 : Option Addr) (c2 : Nat), v = .slice p2 (r).length c2 ∧ St w0 w' (HP.sl rByte p2 c2 r :: l)) := by
 unfold m_triremeref04_pad at hm
 refine x_enter Tryd.func81 rfl rfl rfl ?_
 intro a F
 refine sr (bk [0] F H rfl trivial ?_); clear F; intro a F
 refine nl (sr ?_)
 obtain ⟨x4, ex4, hm⟩ := ob hm
 refine s_mkO (R := rByte) wkP F rfl rfl rfl elem33 rfl rfl rfl rfl rfl rfl (z := (0 : UInt8)) (fun _ => rfl) ex4 H ?_; clear F H; intro b3 w a H F
 refine bk [0] F H rfl trivial ?_; clear F; intro a F
 replace H := H.nf 2 rfl
 refine nl (sq (sr (bk [0] F H rfl trivial ?_))); clear F; intro a F
 refine nl ?_
 obtain ⟨r33, er33, hm33⟩ := ob hm; clear hm; revert er33; intro hm
 refine x_mid (fun aa ww => ∃ (p34 : Option Addr) (c34 : Nat), Fr ⟨20, []⟩ aa [(3, .slice p34 (r33).length c34)] ∧ St w0 ww (HP.ow rByte 5 p34 c34 r33 :: l)) ?_ ?_
 · skip
   refine bl (x_loopO _ (fun (s53 : (List UInt8) × Int) aa ww => ∃ (p54 : Option Addr) (c54 : Nat), Fr ⟨20, []⟩ aa [(0, .slice p1 (x0_).length c1), (3, .slice p54 (s53.1).length c54), (4, .int .i64 (s53.2))] ∧ St w0 ww (HP.sl rByte p1 c1 x0_ :: HP.ow rByte 5 p54 c54 s53.1 :: l)) hm ⟨(some ⟨b3, 0, none⟩), (x4).length, F.sl rfl, (H.pm 2 [1, 0] rfl:)⟩ ?_)
   clear F H hm
   rintro s53 a w o ⟨p54, c54, F, H⟩ hm
   refine sq (sr (bk [0, 0, 0, 0] F H rfl ⟨⟨_, Tryd.underlying33⟩, trivial⟩ ?_)); clear F; intro a F
   refine nl (cP F rfl (fun hg55 => ?_) (fun hg55 => ?_))
   · replace hm := ifT hg55 hm
     refine sk (ct (sq (bl (rl (bk [0, 0, 0, 0] F H rfl trivial ?_))))); clear F; intro a F
     obtain ⟨x56, ex56, hm⟩ := ob hm
     obtain ⟨b57, o57, hp57⟩ := H.slP 0 rfl (idxO_some ex56).2
     obtain ⟨cs58, hcl58, H⟩ := H.slEl 0 rfl hp57 (idxO_some ex56).2
     obtain rfl := H.rcB 1 rfl
     replace H := H.dp 1 rfl
     clear hcl58
     refine s_val wkP F rfl rfl rfl rfl (y_idxS F elem33 rfl rfl rfl hp57 ex56) ?_; clear F; intro a F
     refine bk [0] F H rfl ⟨rfl, plain5, trivial⟩ ?_; clear F; intro a F
     obtain ⟨x59, ex59, hm⟩ := ob hm
     obtain ⟨b60, hp60⟩ := H.owP 2 rfl (idxO_some ex59).2
     refine s_val wkP F rfl rfl rfl rfl (y_idxS F elem33 rfl rfl rfl hp60 ex59) ?_; clear F; intro a F
     obtain ⟨x62, ex62, hm⟩ := ob hm
     refine s_owSet1 wkP F rfl rfl zero5 rfl rfl rfl rfl rfl rfl H 2 rfl hp60 ex59 (zz := x62) (fun gg => (congrArg (fun z => [Value.int .u8 z]) (u8O_some ex62).symm)) ?_; clear H; intro w H
     replace H : St w0 w (HP.row b57 (o57 + (s53.2 : Int).toNat * 1) ([.int .u8 (((x56).toNat : Int))]) :: HP.sl rByte p1 c1 x0_ :: HP.ow rByte 5 p54 c54 ((s53.1).set (s53.2 : Int).toNat x62) :: l) := (by have h := H; first | exact h | (simp only [List.length_set] at h ⊢; exact h))
     replace F := F.bool (k := 3) (u := .slice p54 ((s53.1).set (s53.2 : Int).toNat x62).length c54) rfl (by simp only [List.length_set])
     replace F := F.bool (k := 12) (u := .slice p54 ((s53.1).set (s53.2 : Int).toNat x62).length c54) rfl (by simp only [List.length_set])
     refine lz (bn (ct (rl (bk [0, 0, 0] F H rfl trivial ?_)))); clear F; intro a F
     refine lz (ct ?_); cases hm
     exact ⟨_, rfl, ⟨p54, c54, F.sl rfl, (H.pm 3 [1, 2] rfl:)⟩⟩
   · replace hm := ifF hg55 hm
     refine ex (cx (cx ?_)); cases hm; refine ⟨_, rfl, ?_⟩; rintro rfl
     refine ch (ct ?_)
     exact ⟨p54, c54, F.sl rfl, (H.pm 2 [1] rfl:)⟩
 · skip
   clear F H hm
   rintro a w ⟨p34, c34, F, H⟩; have hm := hm33; clear hm33
   refine ct (sr (bk [0, 0] F H rfl trivial ?_)); clear F; intro a F
   refine nl (wr ?_)
   replace H := H.frz 0 rfl
   cases hm
   refine x_ret1 F rfl rfl ?_
   exact ⟨_, rfl, p34, c34, rfl, H⟩
theorem ent81 : ∀ args w, (callFunc 81 args).run Tryd.prog w = .ok (.enter 81 args) w := enters Tryd.func81 (by kernel_rfl) rfl
set_option maxRecDepth 100000 in
set_option maxHeartbeats 4000000 in
theorem w_m_triremeref04_Wrap {x0_ : List UInt8} {p1 : Option Addr} {c1 : Nat} {w0 w : World} {l : List HP}  {r : (List UInt8) × Int} (hm : m_triremeref04_Wrap x0_ = some r) (H : St w0 w (HP.sl rByte p1 c1 x0_ :: l)) :
  Calls Tryd.prog 71 [.slice p1 (x0_).length c1].toArray w (fun e w' => ∃ v, e = .returned v ∧ ∃ (p2 : Option Addr) (c2 : Nat), v = .tuple [.slice p2 (r.1).length c2, .int .i64 (r.2)].toArray ∧ St w0 w' (HP.sl rByte p2 c2 r.1 :: l)) := by
 unfold m_triremeref04_Wrap at hm
 refine x_enter Tryd.func71 rfl rfl rfl ?_
 intro a F
 refine sr (bk [0, 0] F H rfl trivial ?_); clear F; intro a F
 refine nl (sr (bk [0, 0, 0] F H rfl ⟨⟨_, Tryd.underlying33⟩, trivial⟩ ?_)); clear F; intro a F
 refine nl (sq (sr (bk [0, 0] F H rfl trivial ?_))); clear F; intro a F
 refine nl (cP F rfl (fun hg3 => ?_) (fun hg3 => ?_))
 · replace hm := ifT hg3 hm
   refine sr (s_build0O (R := rByte) wkP F rfl rfl rfl elem33 rfl H ?_); clear F H; intro b4 w a H F
   refine bk [0, 0] F H rfl trivial ?_; clear F; intro a F
   replace H := H.nf 2 rfl
   refine nl (wr (tr ?_))
   replace H := H.frz 0 rfl
   cases hm
   refine x_ret2 F rfl rfl rfl ?_
   exact ⟨_, rfl, (some ⟨b4, 0, none⟩), 0, rfl, (H.pm 2 [0] rfl:)⟩
 · replace hm := ifF hg3 hm
   refine sk (ct (sr (bk [0] F H rfl trivial ?_))); clear F; intro a F
   obtain ⟨x5, ex5, hm⟩ := ob hm
   refine s_val wkP F rfl rfl rfl rfl (i_quo F rfl rfl rfl ex5) ?_; clear F; intro a F
   refine bk [1, 0] F H rfl ⟨Tryd.underlying3, Tryd.underlying5, trivial⟩ ?_; clear F; intro a F
   obtain ⟨x6, ex6, hm⟩ := ob hm
   refine s_val wkP F rfl rfl rfl rfl (i_rem F rfl rfl rfl ex6) ?_; clear F; intro a F
   refine bk [1] F H rfl ⟨Tryd.underlying3, Tryd.underlying5, trivial⟩ ?_; clear F; intro a F
   obtain ⟨x8, ex8, hm⟩ := ob hm
   obtain ⟨x9, ex9, hm⟩ := ob hm
   obtain ⟨x10, ex10, hm⟩ := ob hm
   refine s_buildC wkP F rfl rfl rfl elem33 zero5 rfl rfl rfl rfl (by simp [Value.cells]) (by decide) H ?_; clear F H; intro b7 w a H F
   replace H : St w0 w (HP.ow rByte 5 (some ⟨b7, 0, none⟩) (([x8, x9, x10]).length) ([x8, x9, x10]) :: HP.sl rByte p1 c1 x0_ :: l) := H.blkOw (R := rByte) 0 rfl (fun gg => ⟨[[.int .u8 (66)], [.int .u8 (IntKind.u8.wrap (x5))], [.int .u8 (IntKind.u8.wrap (x6))]], rfl, (congrArg (fun z => [Value.int .u8 z]) (u8O_some ex8).symm), (congrArg (fun z => [Value.int .u8 z]) (u8O_some ex9).symm), (congrArg (fun z => [Value.int .u8 z]) (u8O_some ex10).symm), trivial⟩) (by simp)
   refine bk [0] F H rfl trivial ?_; clear F; intro a F
   obtain ⟨x12, ex12, hm⟩ := ob hm
   refine s_app wkP F rfl rfl rfl rfl rfl rfl elem33 rfl ex12 H 0 1 rfl rfl ?_; clear F H; intro p11 c11 w a H F
   replace H := H.frz 0 rfl
   obtain ⟨x13, ex13, hm⟩ := ob hm
   refine sc wkP F rfl ent81 (w_m_triremeref04_pad ex13 (H.pm 2 [0, 0, 1] rfl:):) ?_; clear F H; rintro _ w a ⟨p14, c14, rfl, H⟩ F
   refine bk [0, 0] F H rfl trivial ?_; clear F; intro a F
   replace H := H.nf 3 rfl
   refine nl (wr ?_)
   cases hm
   refine x_ret2 F rfl rfl rfl ?_
   exact ⟨_, rfl, p14, c14, rfl, (H.pm 3 [0] rfl:)⟩
set_option maxRecDepth 100000 in
set_option maxHeartbeats 4000000 in
theorem w_m_triremeref04_Unwrap {x0_ : List UInt8} {p1 : Option Addr} {c1 : Nat} {w0 w : World} {l : List HP}  {r : (List UInt8) × Int} (hm : m_triremeref04_Unwrap x0_ = some r) (H : St w0 w (HP.sl rByte p1 c1 x0_ :: l)) :
  Calls Tryd.prog 48 [.slice p1 (x0_).length c1].toArray w (fun e w' => ∃ v, e = .returned v ∧ ∃ (p2 : Option Addr) (c2 : Nat), v = .tuple [.slice p2 (r.1).length c2, .int .i64 (r.2)].toArray ∧ St w0 w' (HP.sl rByte p2 c2 r.1 :: l)) := by
 unfold m_triremeref04_Unwrap at hm
 refine x_enter Tryd.func48 rfl rfl rfl ?_
 intro a F
 refine sr (bk [0, 0] F H rfl trivial ?_); clear F; intro a F
 refine nl (sq (sr (bk [0, 0, 0, 0] F H rfl ⟨⟨_, Tryd.underlying33⟩, trivial⟩ ?_))); clear F; intro a F
 by_cases hg3 : ((x0_).length : Int) = 512
 · replace hm := ifT hg3 hm
   replace F := F.nT 9 hg3 rfl
   refine bk [0] F H rfl trivial ?_; clear F; intro a F
   refine g_onP F rfl rfl rfl rfl ?_
   obtain ⟨x4, ex4, hm⟩ := ob hm
   obtain ⟨b5, o5, hp5⟩ := H.slP 0 rfl (idxO_some ex4).2
   obtain ⟨cs6, hcl6, H⟩ := H.slEl 0 rfl hp5 (idxO_some ex4).2
   obtain rfl := H.rcB 1 rfl
   replace H := H.dp 1 rfl
   clear hcl6
   refine s_val wkP F rfl rfl rfl rfl (y_idxS F elem33 rfl rfl rfl hp5 ex4) ?_; clear F; intro a F
   refine bk [0, 0, 0] F H rfl ⟨rfl, plain5, trivial⟩ ?_; clear F; intro a F
   refine nl (cN F rfl (fun hg7 => ?_) (fun hg7 => ?_))
   · replace hm := ifF hg7 hm
     refine sr (s_build0O (R := rByte) wkP F rfl rfl rfl elem33 rfl H ?_); clear F H; intro b8 w a H F
     refine bk [0, 0] F H rfl trivial ?_; clear F; intro a F
     replace H := H.nf 3 rfl
     refine nl (wr (tr ?_))
     replace H := H.frz 0 rfl
     cases hm
     refine x_ret2 F rfl rfl rfl ?_
     exact ⟨_, rfl, (some ⟨b8, 0, none⟩), 0, rfl, (H.pm 3 [0] rfl:)⟩
   · replace hm := ifT hg7 hm
     refine sk (ct (sq ?_))
     obtain ⟨x9, ex9, hm⟩ := ob hm
     obtain ⟨cs10, hcl10, H⟩ := H.slEl 1 rfl hp5 (idxO_some ex9).2
     obtain rfl := H.rcB 1 rfl
     replace H := H.dp 1 rfl
     clear hcl10
     obtain ⟨x11, ex11, hm⟩ := ob hm
     obtain ⟨cs12, hcl12, H⟩ := H.slEl 2 rfl hp5 (idxO_some ex11).2
     obtain rfl := H.rcB 1 rfl
     replace H := H.dp 1 rfl
     clear hcl12
     refine qr H (by kernel_rfl) (by kernel_rfl) ?_
     refine qbk [0] F rfl trivial ?_; clear F; intro a F
     refine q_val F rfl rfl rfl (fun u hu => y_idxS F elem33 rfl rfl rfl hp5 ex9) ?_; clear F; intro a F
     refine qbk [1000, 0, 0, 0] F rfl ⟨rfl, plain5, Tryd.underlying5, Tryd.underlying3, trivial⟩ ?_; clear F; intro a F
     refine q_val F rfl rfl rfl (fun u hu => y_idxS F elem33 rfl rfl rfl hp5 ex11) ?_; clear F; intro a F
     refine qbk [0, 0, 0, 0] F rfl ⟨rfl, plain5, Tryd.underlying5, Tryd.underlying3, trivial⟩ ?_; clear F; intro a F
     refine q_nil ?_; clear H; intro w H
     refine ct (sq (sr (bk [0, 0] F H rfl trivial ?_))); clear F; intro a F
     refine nl (cP F rfl (fun hg13 => ?_) (fun hg13 => ?_))
     · replace hm := ifT hg13 hm
       refine sr (s_build0O (R := rByte) wkP F rfl rfl rfl elem33 rfl H ?_); clear F H; intro b14 w a H F
       refine bk [0, 0] F H rfl trivial ?_; clear F; intro a F
       replace H := H.nf 5 rfl
       refine nl (wr (tr ?_))
       replace H := H.frz 0 rfl
       cases hm
       refine x_ret2 F rfl rfl rfl ?_
       exact ⟨_, rfl, (some ⟨b14, 0, none⟩), 0, rfl, (H.pm 5 [0] rfl:)⟩
     · replace hm := ifF hg13 hm
       refine sk (ct (sq (sr (bk [0, 0, 0] F H rfl trivial ?_)))); clear F; intro a F
       refine nl ?_
       obtain ⟨o33, eo33, hm33⟩ := ob hm; clear hm; revert eo33; intro hm
       refine x_mid (fun aa ww => ∃ r33, o33 = Sum.inl r33 ∧ Fr ⟨47, []⟩ aa [(0, .slice p1 (x0_).length c1), (4, .int .i64 (IntKind.i64.wrap ((IntKind.i64.wrap (256 * (IntKind.i64.wrap (((x9).toNat : Int))))) + (IntKind.i64.wrap (((x11).toNat : Int))))))] ∧ St w0 ww (HP.row b5 (o5 + (2 : Int).toNat * 1) ([.int .u8 (((x11).toNat : Int))]) :: HP.row b5 (o5 + (1 : Int).toNat * 1) ([.int .u8 (((x9).toNat : Int))]) :: HP.row b5 (o5 + (0 : Int).toNat * 1) ([.int .u8 (((x4).toNat : Int))]) :: HP.sl rByte p1 c1 x0_ :: l)) ?_ ?_
       · skip
         refine bl ?_
         refine x_loopO _ (fun (s45 : Int) aa ww => Fr ⟨47, []⟩ aa [(0, .slice p1 (x0_).length c1), (4, .int .i64 (IntKind.i64.wrap ((IntKind.i64.wrap (256 * (IntKind.i64.wrap (((x9).toNat : Int))))) + (IntKind.i64.wrap (((x11).toNat : Int)))))), (5, .int .i64 (s45))] ∧ St w0 ww (HP.row b5 (o5 + (2 : Int).toNat * 1) ([.int .u8 (((x11).toNat : Int))]) :: HP.row b5 (o5 + (1 : Int).toNat * 1) ([.int .u8 (((x9).toNat : Int))]) :: HP.row b5 (o5 + (0 : Int).toNat * 1) ([.int .u8 (((x4).toNat : Int))]) :: HP.sl rByte p1 c1 x0_ :: l)) hm ⟨F.sl rfl, H⟩ ?_
         clear F H hm
         rintro s45 a w o ⟨F, H⟩ hm
         refine sq (sr (bk [0, 0] F H rfl trivial ?_)); clear F; intro a F
         refine nl (cP F rfl (fun hg46 => ?_) (fun hg46 => ?_))
         · replace hm := ifT hg46 hm
           refine sk (ct (sq (bl (sr (bk [0, 0] F H rfl trivial ?_))))); clear F; intro a F
           obtain ⟨x47, ex47, hm⟩ := ob hm
           obtain ⟨b48, o48, hp48⟩ := H.slP 3 rfl (idxO_some ex47).2
           obtain ⟨cs49, hcl49, H⟩ := H.slEl 3 rfl hp48 (idxO_some ex47).2
           obtain rfl := H.rcB 1 rfl
           replace H := H.dp 1 rfl
           clear hcl49
           refine s_val wkP F rfl rfl rfl rfl (y_idxS F elem33 rfl rfl rfl hp48 ex47) ?_; clear F; intro a F
           refine bk [0, 0] F H rfl ⟨rfl, plain5, trivial⟩ ?_; clear F; intro a F
           refine nl (cN F rfl (fun hg50 => ?_) (fun hg50 => ?_))
           · replace hm := ifF hg50 hm
             refine sr (s_build0O (R := rByte) wkP F rfl rfl rfl elem33 rfl H ?_); clear F H; intro b51 w a H F
             refine bk [0, 0] F H rfl trivial ?_; clear F; intro a F
             replace H := H.nf 6 rfl
             refine nl (wr (br (tr (tr ?_)))); cases hm; refine ⟨_, rfl, ?_⟩; rintro rfl
             refine br (tr ?_)
             replace hm := elimR hm33
             refine tr ?_
             replace H := H.frz 0 rfl
             cases hm
             refine x_ret2 F rfl rfl rfl ?_
             exact ⟨_, rfl, (some ⟨b51, 0, none⟩), 0, rfl, (H.pm 6 [0] rfl:)⟩
           · replace hm := ifT hg50 hm
             refine sk (bn (ct (rl (bk [0, 0, 0] F H rfl trivial ?_)))); clear F; intro a F
             refine lz (ct ?_); cases hm
             exact ⟨_, rfl, ⟨F.sl rfl, (H.pm 5 [1, 2, 3, 4] rfl:)⟩⟩
         · replace hm := ifF hg46 hm
           refine ex (cx (cx ?_)); cases hm; refine ⟨_, rfl, ?_⟩; rintro rfl
           refine ch (ct ?_)
           exact ⟨_, rfl, F.sl rfl, H⟩
       · skip
         clear F H hm
         rintro a w ⟨r33, rfl, F, H⟩; have hm := elimL hm33; clear hm33
         refine ct (sr (s_build0O (R := rByte) wkP F rfl rfl rfl elem33 rfl H ?_)); clear F H; intro b52 w a H F
         refine bk [0, 0, 0] F H rfl trivial ?_; clear F; intro a F
         obtain ⟨x54, ex54, hm⟩ := ob hm
         have hc53 := H.slCap 4 rfl
         replace H := H.slSubN 1 rfl 4 rfl ex54
         refine s_val wkP F rfl rfl rfl rfl (y_slLH F elem33 rfl rfl rfl rfl ex54 hc53) ?_; clear F; intro a F
         obtain ⟨x56, ex56, hm⟩ := ob hm
         refine s_app wkP F rfl rfl rfl rfl rfl rfl elem33 rfl ex56 H 1 0 rfl rfl ?_; clear F H; intro p55 c55 w a H F
         refine bk [0, 0] F H rfl trivial ?_; clear F; intro a F
         replace H := H.nf 6 rfl
         refine nl (wr ?_)
         replace H := H.frz 1 rfl
         cases hm
         refine x_ret2 F rfl rfl rfl ?_
         exact ⟨_, rfl, p55, c55, rfl, (H.pm 6 [0] rfl:)⟩
 · replace hm := ifF hg3 hm
   replace F := F.nF 9 hg3 rfl
   refine bk (List.replicate 5 0) F H rfl trivial ?_; clear F; intro a F
   refine nl (cT F rfl ?_)
   refine sr (s_build0O (R := rByte) wkP F rfl rfl rfl elem33 rfl H ?_); clear F H; intro b57 w a H F
   refine bk [0, 0] F H rfl trivial ?_; clear F; intro a F
   replace H := H.nf 2 rfl
   refine nl (wr (tr ?_))
   replace H := H.frz 0 rfl
   cases hm
   refine x_ret2 F rfl rfl rfl ?_
   exact ⟨_, rfl, (some ⟨b57, 0, none⟩), 0, rfl, (H.pm 2 [0] rfl:)⟩
set_option maxRecDepth 100000 in
set_option maxHeartbeats 4000000 in
theorem w_m_triremeref01_floor {x0_ : Int} {x1_ : Int}  {w0 w : World} {l : List HP}  {r : Int × Int} (hm : m_triremeref01_floor x0_ x1_ = some r) (H : St w0 w (l)) :
  Calls Tryd.prog 49 [.int .i64 (x0_), .int .i64 (x1_)].toArray w (fun e w' => ∃ v, e = .returned v ∧ v = .tuple [.int .i64 (r.1), .int .i64 (r.2)].toArray ∧ St w0 w' (l)) := by
 unfold m_triremeref01_floor at hm
 refine x_enter Tryd.func49 rfl rfl rfl ?_
 intro a F
 refine sr (bk [0, 0] F H rfl trivial ?_); clear F; intro a F
 refine nl (sq ?_)
 obtain ⟨x1, ex1, hm⟩ := ob hm
 obtain ⟨x2, ex2, hm⟩ := ob hm
 refine qr H (by kernel_rfl) (by kernel_rfl) ?_
 refine qbk [0, 0] F rfl trivial ?_; clear F; intro a F
 refine q_val F rfl rfl rfl (fun u hu => i_quo F rfl rfl rfl ex1) ?_; clear F; intro a F
 refine qbk [0, 0] F rfl trivial ?_; clear F; intro a F
 refine q_val F rfl rfl rfl (fun u hu => i_rem F rfl rfl rfl ex2) ?_; clear F; intro a F
 refine qbk [0, 0] F rfl trivial ?_; clear F; intro a F
 refine q_nil ?_; clear H; intro w H
 refine ct (sq (sr (bk [0, 0] F H rfl trivial ?_))); clear F; intro a F
 refine nl (cP F rfl (fun hg3 => ?_) (fun hg3 => ?_))
 · replace hm := ifT hg3 hm
   refine sr (bk (List.replicate 7 0) F H rfl trivial ?_); clear F; intro a F
   refine nl (wr (tr ?_))
   cases hm
   refine x_ret2 F rfl rfl rfl ?_
   exact ⟨_, rfl, rfl, H⟩
 · replace hm := ifF hg3 hm
   refine sk (ct (sr (bk [0, 0, 0, 0] F H rfl trivial ?_))); clear F; intro a F
   refine nl (wr ?_)
   cases hm
   refine x_ret2 F rfl rfl rfl ?_
   exact ⟨_, rfl, rfl, H⟩
set_option maxRecDepth 100000 in
set_option maxHeartbeats 4000000 in
theorem w_m_triremeref05_Less {x0_ : List UInt8} {x1_ : List UInt8}  {w0 w : World} {l : List HP} (hl1 : (x0_).length = 32) (hl2 : (x1_).length = 32) {r : Bool} (hm : m_triremeref05_Less x0_ x1_ = some r) (H : St w0 w (l)) :
  Calls Tryd.prog 74 [.agg (bcells x0_).toArray, .agg (bcells x1_).toArray].toArray w (fun e w' => ∃ v, e = .returned v ∧ v = .bool (r) ∧ St w0 w' (l)) := by
 unfold m_triremeref05_Less at hm
 refine x_enter Tryd.func74 rfl rfl rfl ?_
 intro a F
 refine sr (s_boxA wkP F rfl rfl rfl rfl rfl H ?_); clear F H; intro b3 w a H F
 refine s_boxA wkP F rfl rfl rfl rfl rfl H ?_; clear F H; intro b4 w a H F
 refine bk [0] F H rfl trivial ?_; clear F; intro a F
 replace H := H.nf 2 rfl
 refine nl (sq (sr (bk [0] F H rfl trivial ?_))); clear F; intro a F
 refine nl ?_
 obtain ⟨o24, eo24, hm24⟩ := ob hm; clear hm; revert eo24; intro hm
 refine x_mid (fun aa ww => ∃ r24, o24 = Sum.inl r24 ∧ Fr ⟨24, []⟩ aa [] ∧ St w0 ww (HP.blk b4 (bcells x1_) 35 :: HP.blk b3 (bcells x0_) 35 :: l)) ?_ ?_
 · skip
   refine bl (x_loopO _ (fun (s37 : Int) aa ww => Fr ⟨24, []⟩ aa [(2, .pointer (some ⟨b3, 0, none⟩)), (3, .pointer (some ⟨b4, 0, none⟩)), (5, .int .i64 (s37))] ∧ St w0 ww (HP.blk b4 (bcells x1_) 35 :: HP.blk b3 (bcells x0_) 35 :: l)) hm ⟨F.sl rfl, H⟩ ?_)
   clear F H hm
   rintro s37 a w o ⟨F, H⟩ hm
   refine sq (sr (bk [0, 0] F H rfl trivial ?_)); clear F; intro a F
   refine nl (cP F rfl (fun hg38 => ?_) (fun hg38 => ?_))
   · replace hm := ifT hg38 hm
     refine sk (ct (sq (bl (sq ?_))))
     obtain ⟨x39, ex39, hm⟩ := ob hm
     obtain ⟨x40, ex40, hm⟩ := ob hm
     refine qr H (by kernel_rfl) (by kernel_rfl) ?_
     refine qbk [0] F rfl trivial ?_; clear F; intro a F
     refine q_val F rfl rfl rfl (fun u hu => y_idxA F arr35 rfl rfl rfl ex39 hl1) ?_; clear F; intro a F
     refine q_val F rfl rfl rfl (fun u hu => y_load1 F plain5 rfl rfl (row_ix ((hu.blk 1 rfl).row) (bcells_idx ex39))) ?_; clear F; intro a F
     refine qbk [0] F rfl trivial ?_; clear F; intro a F
     refine q_val F rfl rfl rfl (fun u hu => y_idxA F arr35 rfl rfl rfl ex40 hl2) ?_; clear F; intro a F
     refine q_val F rfl rfl rfl (fun u hu => y_load1 F plain5 rfl rfl (row_ix ((hu.blk 0 rfl).row) (bcells_idx ex40))) ?_; clear F; intro a F
     refine qbk [0] F rfl trivial ?_; clear F; intro a F
     refine q_nil ?_; clear H; intro w H
     refine ct (cN F rfl (fun hg41 => ?_) (fun hg41 => ?_))
     · replace hm := ifF hg41 hm
       refine sq ?_
       obtain ⟨x42, ex42, hm⟩ := ob hm
       obtain ⟨x43, ex43, hm⟩ := ob hm
       refine qr H (by kernel_rfl) (by kernel_rfl) ?_
       refine qbk [0] F rfl trivial ?_; clear F; intro a F
       refine q_val F rfl rfl rfl (fun u hu => y_idxA F arr35 rfl rfl rfl ex42 hl1) ?_; clear F; intro a F
       refine q_val F rfl rfl rfl (fun u hu => y_load1 F plain5 rfl rfl (row_ix ((hu.blk 1 rfl).row) (bcells_idx ex42))) ?_; clear F; intro a F
       refine qbk [0] F rfl trivial ?_; clear F; intro a F
       refine q_val F rfl rfl rfl (fun u hu => y_idxA F arr35 rfl rfl rfl ex43 hl2) ?_; clear F; intro a F
       refine q_val F rfl rfl rfl (fun u hu => y_load1 F plain5 rfl rfl (row_ix ((hu.blk 0 rfl).row) (bcells_idx ex43))) ?_; clear F; intro a F
       refine qbk [0, 0] F rfl trivial ?_; clear F; intro a F
       refine q_nil ?_; clear H; intro w H
       refine ct (wr (br (tr (tr ?_)))); cases hm; refine ⟨_, rfl, ?_⟩; rintro rfl
       refine br (tr ?_)
       replace hm := elimR hm24
       refine tr ?_
       cases hm
       refine x_ret1 F rfl rfl ?_
       exact ⟨_, rfl, rfl, (H.pm 2 [] rfl:)⟩
     · replace hm := ifT hg41 hm
       refine sk (bn (ct (rl (bk [0, 0, 0] F H rfl trivial ?_)))); clear F; intro a F
       refine lz (ct ?_); cases hm
       exact ⟨_, rfl, ⟨F.sl rfl, H⟩⟩
   · replace hm := ifF hg38 hm
     refine ex (cx (cx ?_)); cases hm; refine ⟨_, rfl, ?_⟩; rintro rfl
     refine ch (ct ?_)
     exact ⟨_, rfl, F.cut _ trivial, H⟩
 · skip
   clear F H hm
   rintro a w ⟨r24, rfl, F, H⟩; have hm := elimL hm24; clear hm24
   refine ct (sr (bk [0] F H rfl trivial ?_)); clear F; intro a F
   refine nl (wr ?_)
   cases hm
   refine x_ret1 F rfl rfl ?_
   exact ⟨_, rfl, rfl, (H.pm 2 [] rfl:)⟩
theorem elem32 : ElemT Tryd.prog 32 35 32 32 (.agg [.int .u8 0, .int .u8 0, .int .u8 0, .int .u8 0, .int .u8 0, .int .u8 0, .int .u8 0, .int .u8 0, .int .u8 0, .int .u8 0, .int .u8 0, .int .u8 0, .int .u8 0, .int .u8 0, .int .u8 0, .int .u8 0, .int .u8 0, .int .u8 0, .int .u8 0, .int .u8 0, .int .u8 0, .int .u8 0, .int .u8 0, .int .u8 0, .int .u8 0, .int .u8 0, .int .u8 0, .int .u8 0, .int .u8 0, .int .u8 0, .int .u8 0, .int .u8 0].toArray) := ⟨Tryd.underlying32, by kernel_rfl, by kernel_rfl, by decide⟩
theorem key35 : KeyA Tryd.prog 35 32 := KeyA.make (by kernel_rfl) (by kernel_rfl) Tryd.underlying35 Tryd.underlying5 (by kernel_rfl) (by kernel_rfl) (by kernel_rfl)
set_option maxRecDepth 100000 in
set_option maxHeartbeats 4000000 in
theorem w_m_triremeref05_Same {x0_ : List (List UInt8)} {x1_ : List (List UInt8)} {p1 : Option Addr} {c1 : Nat} {p2 : Option Addr} {c2 : Nat} {w0 w : World} {l : List HP}  {r : Bool} (hm : m_triremeref05_Same x0_ x1_ = some r) (H : St w0 w (HP.sl (rBytesN 32) p1 c1 x0_ :: HP.sl (rBytesN 32) p2 c2 x1_ :: l)) :
  Calls Tryd.prog 28 [.slice p1 (x0_).length c1, .slice p2 (x1_).length c2].toArray w (fun e w' => ∃ v, e = .returned v ∧ v = .bool (r) ∧ St w0 w' (l)) := by
 unfold m_triremeref05_Same at hm
 refine x_enter Tryd.func28 rfl rfl rfl ?_
 intro a F
 refine sr (bk [0] F H rfl trivial ?_); clear F; intro a F
 refine nl (sq (sr (bk (List.replicate 5 0) F H rfl ⟨⟨_, Tryd.underlying32⟩, ⟨_, Tryd.underlying32⟩, trivial⟩ ?_))); clear F; intro a F
 refine nl (cN F rfl (fun hg3 => ?_) (fun hg3 => ?_))
 · replace hm := ifF hg3 hm
   refine sr (bk [0] F H rfl trivial ?_); clear F; intro a F
   refine nl (wr (tr ?_))
   cases hm
   refine x_ret1 F rfl rfl ?_
   exact ⟨_, rfl, rfl, (H.pm 2 [] rfl:)⟩
 · replace hm := ifT hg3 hm
   refine sk (ct (sq (sr (bk [0] F H rfl trivial ?_)))); clear F; intro a F
   refine nl ?_
   obtain ⟨o35, eo35, hm35⟩ := ob hm; clear hm; revert eo35; intro hm
   refine x_mid (fun aa ww => ∃ r35, o35 = Sum.inl r35 ∧ Fr ⟨26, []⟩ aa [] ∧ St w0 ww (l)) ?_ ?_
   · skip
     refine bl (x_loopO _ (fun (s56 : Int) aa ww => Fr ⟨26, []⟩ aa [(0, .slice p1 (x0_).length c1), (1, .slice p2 (x1_).length c2), (5, .int .i64 (s56))] ∧ St w0 ww (HP.sl (rBytesN 32) p1 c1 x0_ :: HP.sl (rBytesN 32) p2 c2 x1_ :: l)) hm ⟨F.sl rfl, H⟩ ?_)
     clear F H hm
     rintro s56 a w o ⟨F, H⟩ hm
     refine sq (sr (bk [0, 0, 0, 0] F H rfl ⟨⟨_, Tryd.underlying32⟩, trivial⟩ ?_)); clear F; intro a F
     refine nl (cP F rfl (fun hg57 => ?_) (fun hg57 => ?_))
     · replace hm := ifT hg57 hm
       refine sk (ct (sq (bl (sq ?_))))
       obtain ⟨x58, ex58, hm⟩ := ob hm
       obtain ⟨b59, o59, hp59⟩ := H.slP 0 rfl (idxO_some ex58).2
       obtain ⟨cs60, hcl60, H⟩ := H.slEl 0 rfl hp59 (idxO_some ex58).2
       obtain ⟨rfl, hl61⟩ := H.rcBN 1 rfl
       replace H := H.dp 1 rfl
       clear hcl60
       obtain ⟨x62, ex62, hm⟩ := ob hm
       obtain ⟨b63, o63, hp63⟩ := H.slP 2 rfl (idxO_some ex62).2
       obtain ⟨cs64, hcl64, H⟩ := H.slEl 2 rfl hp63 (idxO_some ex62).2
       obtain ⟨rfl, hl65⟩ := H.rcBN 1 rfl
       replace H := H.dp 1 rfl
       clear hcl64
       refine qr H (by kernel_rfl) (by kernel_rfl) ?_
       refine qbk [0, 0] F rfl trivial ?_; clear F; intro a F
       refine q_val F rfl rfl rfl (fun u hu => y_idxS F elem32 rfl rfl rfl hp59 ex58) ?_; clear F; intro a F
       refine qbk [1999, 0, 0] F rfl ⟨rfl, (aggn agg35 ((bcells_length _).trans hl61)), trivial⟩ ?_; clear F; intro a F
       refine q_val F rfl rfl rfl (fun u hu => y_idxS F elem32 rfl rfl rfl hp63 ex62) ?_; clear F; intro a F
       refine qbk [999] F rfl ⟨rfl, (aggn agg35 ((bcells_length _).trans hl65)), trivial⟩ ?_; clear F; intro a F
       refine q_val F rfl rfl rfl (fun u hu => y_neqA F key35 rfl rfl rfl hl61 hl65) ?_; clear F; intro a F
       refine q_nil ?_; clear H; intro w H
       refine ct (cN F rfl (fun hg66 => ?_) (fun hg66 => ?_))
       · replace hm := ifF hg66 hm
         refine sr (bk [0] F H rfl trivial ?_); clear F; intro a F
         refine nl (wr (br (tr (tr ?_)))); cases hm; refine ⟨_, rfl, ?_⟩; rintro rfl
         refine br (tr ?_)
         replace hm := elimR hm35
         refine tr ?_
         cases hm
         refine x_ret1 F rfl rfl ?_
         exact ⟨_, rfl, rfl, (H.pm 4 [] rfl:)⟩
       · replace hm := ifT hg66 hm
         refine sk (bn (ct (rl (bk [0, 0, 0] F H rfl trivial ?_)))); clear F; intro a F
         refine lz (ct ?_); cases hm
         exact ⟨_, rfl, ⟨F.sl rfl, (H.pm 4 [2, 3] rfl:)⟩⟩
     · replace hm := ifF hg57 hm
       refine ex (cx (cx ?_)); cases hm; refine ⟨_, rfl, ?_⟩; rintro rfl
       refine ch (ct ?_)
       exact ⟨_, rfl, F.cut _ trivial, (H.pm 2 [] rfl:)⟩
   · skip
     clear F H hm
     rintro a w ⟨r35, rfl, F, H⟩; have hm := elimL hm35; clear hm35
     refine ct (sr (bk [0] F H rfl trivial ?_)); clear F; intro a F
     refine nl (wr ?_)
     cases hm
     refine x_ret1 F rfl rfl ?_
     exact ⟨_, rfl, rfl, H⟩
theorem ent74 : ∀ args w, (callFunc 74 args).run Tryd.prog w = .ok (.enter 74 args) w := enters Tryd.func74 (by kernel_rfl) rfl
set_option maxRecDepth 100000 in
set_option maxHeartbeats 4000000 in
theorem w_m_triremeref05_Sorted {x0_ : List (List UInt8)} {p1 : Option Addr} {c1 : Nat} {w0 w : World} {l : List HP}  {r : (List (List UInt8))} (hm : m_triremeref05_Sorted x0_ = some r) (H : St w0 w (HP.sl (rBytesN 32) p1 c1 x0_ :: l)) :
  Calls Tryd.prog 55 [.slice p1 (x0_).length c1].toArray w (fun e w' => ∃ v, e = .returned v ∧ ∃ (p2 : Option Addr) (c2 : Nat), v = .slice p2 (r).length c2 ∧ St w0 w' (HP.sl (rBytesN 32) p2 c2 r :: l)) := by
 unfold m_triremeref05_Sorted at hm
 refine x_enter Tryd.func55 rfl rfl rfl ?_
 intro a F
 refine sr (bk [0] F H rfl trivial ?_); clear F; intro a F
 refine nl (sr (s_build0O (R := (rBytesN 32)) wkP F rfl rfl rfl elem32 rfl H ?_)); clear F H; intro b3 w a H F
 refine bk [0] F H rfl trivial ?_; clear F; intro a F
 replace H := H.nf 2 rfl
 refine nl (sq (sr (bk [0] F H rfl trivial ?_))); clear F; intro a F
 refine nl ?_
 obtain ⟨r1769, er1769, hm1769⟩ := ob hm; clear hm; revert er1769; intro hm
 refine x_mid (fun aa ww => ∃ (p1770 : Option Addr) (c1770 : Nat), Fr ⟨80, []⟩ aa [(3, .slice p1770 (r1769).length c1770)] ∧ St w0 ww (HP.ow (rBytesN 32) 35 p1770 c1770 r1769 :: l)) ?_ ?_
 · skip
   refine bl (x_loopO _ (fun (s2947 : (List (List UInt8)) × Int) aa ww => ∃ (p2948 : Option Addr) (c2948 : Nat), Fr ⟨80, []⟩ aa [(0, .slice p1 (x0_).length c1), (3, .slice p2948 (s2947.1).length c2948), (4, .int .i64 (s2947.2))] ∧ St w0 ww (HP.sl (rBytesN 32) p1 c1 x0_ :: HP.ow (rBytesN 32) 35 p2948 c2948 s2947.1 :: l)) hm ⟨(some ⟨b3, 0, none⟩), 0, F.sl rfl, (H.pm 2 [1, 0] rfl:)⟩ ?_)
   clear F H hm
   rintro s2947 a w o ⟨p2948, c2948, F, H⟩ hm
   refine sq (sr (bk [0, 0, 0, 0] F H rfl ⟨⟨_, Tryd.underlying32⟩, trivial⟩ ?_)); clear F; intro a F
   refine nl (cP F rfl (fun hg2949 => ?_) (fun hg2949 => ?_))
   · replace hm := ifT hg2949 hm
     refine sk (ct (sq ?_))
     obtain ⟨r3242, er3242, hm3242⟩ := ob hm; clear hm; revert er3242; intro hm
     refine x_mid (fun aa ww => ∃ (p3243 : Option Addr) (c3243 : Nat), Fr ⟨80, []⟩ aa [(0, .slice p1 (x0_).length c1), (3, .slice p3243 (r3242).length c3243), (4, .int .i64 (s2947.2))] ∧ St w0 ww (HP.sl (rBytesN 32) p1 c1 x0_ :: HP.ow (rBytesN 32) 35 p3243 c3243 r3242 :: l)) ?_ ?_
     · skip
       refine bl (sr (bk [0] F H rfl trivial ?_)); clear F; intro a F
       refine nl (sq ?_)
       obtain ⟨r3278, er3278, hm3278⟩ := ob hm; clear hm; revert er3278; intro hm
       refine x_mid (fun aa ww => Fr ⟨80, []⟩ aa [(0, .slice p1 (x0_).length c1), (3, .slice p2948 (s2947.1).length c2948), (4, .int .i64 (s2947.2)), (5, .int .i64 (r3278))] ∧ St w0 ww (HP.sl (rBytesN 32) p1 c1 x0_ :: HP.ow (rBytesN 32) 35 p2948 c2948 s2947.1 :: l)) ?_ ?_
       · skip
         refine bl (x_loopO _ (fun (s3301 : Int) aa ww => Fr ⟨80, []⟩ aa [(0, .slice p1 (x0_).length c1), (3, .slice p2948 (s2947.1).length c2948), (4, .int .i64 (s2947.2)), (5, .int .i64 (s3301))] ∧ St w0 ww (HP.sl (rBytesN 32) p1 c1 x0_ :: HP.ow (rBytesN 32) 35 p2948 c2948 s2947.1 :: l)) hm ⟨F.sl rfl, H⟩ ?_)
         clear F H hm
         rintro s3301 a w o ⟨F, H⟩ hm
         refine sq (sq ?_)
         by_cases hg3302 : s3301 < ((s2947.1).length : Int)
         · replace hm := ifT hg3302 hm
           obtain ⟨x3303, ex3303, hm⟩ := ob hm
           obtain ⟨b3304, hp3304⟩ := H.owP 1 rfl (idxO_some ex3303).2
           obtain ⟨css3305, H⟩ := H.oxOpen 1 rfl
           obtain ⟨cs3305, hcs3305, hcl3305, H⟩ := H.oxEl 1 rfl (idxO_some ex3303).2
           obtain ⟨rfl, hl3306⟩ := H.rcBN 0 rfl
           replace H := H.dp 0 rfl
           obtain ⟨x3307, ex3307, hm⟩ := ob hm
           obtain ⟨b3308, o3308, hp3308⟩ := H.slP 0 rfl (idxO_some ex3307).2
           obtain ⟨cs3309, hcl3309, H⟩ := H.slEl 0 rfl hp3308 (idxO_some ex3307).2
           obtain ⟨rfl, hl3310⟩ := H.rcBN 1 rfl
           replace H := H.dp 1 rfl
           clear hcl3309
           obtain ⟨x3311, ex3311, hm⟩ := ob hm
           refine qr H (by kernel_rfl) (by kernel_rfl) ?_
           refine qbk (List.replicate 5 0) F rfl ⟨⟨_, Tryd.underlying32⟩, trivial⟩ ?_; clear F; intro a F
           replace F := F.bT 19 hg3302 rfl
           refine qbk [0, 0] F rfl trivial ?_; clear F; intro a F
           refine qg_on F rfl rfl rfl rfl ?_
           refine q_val F rfl rfl rfl (fun u hu => y_idxS F elem32 rfl rfl rfl hp3304 ex3303) ?_; clear F; intro a F
           refine qg_on F rfl rfl rfl rfl ?_
           refine q_val F rfl rfl rfl (fun u hu => y_loadA F agg35 rfl rfl (hu.oxRow 2 rfl hp3304 hcs3305 hcl3305) ((bcells_length _).trans hl3306)) ?_; clear F; intro a F
           refine qbk [0, 0] F rfl trivial ?_; clear F; intro a F
           refine qg_on F rfl rfl rfl rfl ?_
           refine q_val F rfl rfl rfl (fun u hu => y_idxS F elem32 rfl rfl rfl hp3308 ex3307) ?_; clear F; intro a F
           refine qbk [999] F rfl ⟨rfl, (aggn agg35 ((bcells_length _).trans hl3310)), trivial⟩ ?_; clear F; intro a F
           refine qg_on F rfl rfl rfl rfl ?_
           refine q_call F rfl rfl rfl (fun u hu => y_call F rfl rfl ent74) (fun u hu => (w_m_triremeref05_Less hl3306 hl3310 ex3311 hu).mono fun e u2 he => by obtain ⟨v, rfl, rfl, H⟩ := he; exact ⟨rfl, H⟩) ?_; clear F; intro a F
           refine qbk [0] F rfl trivial ?_; clear F; intro a F
           refine q_nil ?_; clear H; intro w H
           replace H := H.oxShut 2 rfl
           refine ct (cB F rfl (fun hg3312 => ?_) (fun hg3312 => ?_))
           · replace hm := ifT hg3312 hm
             refine sk (ct (bl (rl (bk [0, 0, 0] F H rfl trivial ?_)))); clear F; intro a F
             replace H := H.nf 3 rfl
             refine lz (bn (ct ?_)); cases hm
             exact ⟨_, rfl, ⟨F.sl rfl, (H.pm 3 [1, 2] rfl:)⟩⟩
           · replace hm := ifF (nT hg3312) hm
             refine ex (cx (cx ?_)); cases hm; refine ⟨_, rfl, ?_⟩; rintro rfl
             refine ch (ct ?_)
             exact ⟨F.sl rfl, (H.pm 3 [1, 2] rfl:)⟩
         · replace hm := ifF hg3302 hm
           refine qr H (by kernel_rfl) (by kernel_rfl) ?_
           refine qbk (List.replicate 5 0) F rfl ⟨⟨_, Tryd.underlying32⟩, trivial⟩ ?_; clear F; intro a F
           replace F := F.bF 19 hg3302 rfl
           refine qbk (List.replicate 10 0) F rfl trivial ?_; clear F; intro a F
           refine q_nil ?_; clear H; intro w H
           refine ct (cF F rfl ?_)
           refine ex (cx (cx ?_)); cases hm; refine ⟨_, rfl, ?_⟩; rintro rfl
           refine ch (ct ?_)
           exact ⟨F.sl rfl, H⟩
       · skip
         clear F H hm
         rintro a w ⟨F, H⟩; have hm := hm3278; clear hm3278
         refine ct (sq (sq ?_))
         by_cases hg3313 : r3278 < ((s2947.1).length : Int)
         · replace hm := ifT hg3313 hm
           obtain ⟨x3314, ex3314, hm⟩ := ob hm
           obtain ⟨b3315, hp3315⟩ := H.owP 1 rfl (idxO_some ex3314).2
           obtain ⟨css3316, H⟩ := H.oxOpen 1 rfl
           obtain ⟨cs3316, hcs3316, hcl3316, H⟩ := H.oxEl 1 rfl (idxO_some ex3314).2
           obtain ⟨rfl, hl3317⟩ := H.rcBN 0 rfl
           replace H := H.dp 0 rfl
           obtain ⟨x3318, ex3318, hm⟩ := ob hm
           obtain ⟨b3319, o3319, hp3319⟩ := H.slP 0 rfl (idxO_some ex3318).2
           obtain ⟨cs3320, hcl3320, H⟩ := H.slEl 0 rfl hp3319 (idxO_some ex3318).2
           obtain ⟨rfl, hl3321⟩ := H.rcBN 1 rfl
           replace H := H.dp 1 rfl
           clear hcl3320
           refine qr H (by kernel_rfl) (by kernel_rfl) ?_
           refine qbk (List.replicate 5 0) F rfl ⟨⟨_, Tryd.underlying32⟩, trivial⟩ ?_; clear F; intro a F
           replace F := F.bT 36 hg3313 rfl
           refine qbk [0, 0] F rfl trivial ?_; clear F; intro a F
           refine qg_on F rfl rfl rfl rfl ?_
           refine q_val F rfl rfl rfl (fun u hu => y_idxS F elem32 rfl rfl rfl hp3315 ex3314) ?_; clear F; intro a F
           refine qg_on F rfl rfl rfl rfl ?_
           refine q_val F rfl rfl rfl (fun u hu => y_loadA F agg35 rfl rfl (hu.oxRow 2 rfl hp3315 hcs3316 hcl3316) ((bcells_length _).trans hl3317)) ?_; clear F; intro a F
           refine qbk [0, 0] F rfl trivial ?_; clear F; intro a F
           refine qg_on F rfl rfl rfl rfl ?_
           refine q_val F rfl rfl rfl (fun u hu => y_idxS F elem32 rfl rfl rfl hp3319 ex3318) ?_; clear F; intro a F
           refine qbk [999] F rfl ⟨rfl, (aggn agg35 ((bcells_length _).trans hl3321)), trivial⟩ ?_; clear F; intro a F
           refine qg_on F rfl rfl rfl rfl ?_
           refine q_val F rfl rfl rfl (fun u hu => y_eqlA F key35 rfl rfl rfl hl3317 hl3321) ?_; clear F; intro a F
           refine qbk [0] F rfl trivial ?_; clear F; intro a F
           refine q_nil ?_; clear H; intro w H
           replace H := H.oxShut 2 rfl
           refine ct (cP F rfl (fun hg3322 => ?_) (fun hg3322 => ?_))
           · replace hm := ifT hg3322 hm
             refine ex (cx (ch ?_))
             cases hm
             refine ct ?_
             exact ⟨p2948, c2948, F.sl rfl, (H.pm 3 [1, 2] rfl:)⟩
           · replace hm := ifF hg3322 hm
             refine sk (ct (sr (bk [0, 0, 0] F H rfl trivial ?_))); clear F; intro a F
             obtain ⟨x3323, ex3323, hm⟩ := ob hm
             obtain ⟨cs3324, hcl3324, H⟩ := H.slEl 1 rfl hp3319 (idxO_some ex3323).2
             obtain ⟨rfl, hl3325⟩ := H.rcBN 1 rfl
             replace H := H.dp 1 rfl
             clear hcl3324
             refine s_val wkP F rfl rfl rfl rfl (y_idxS F elem32 rfl rfl rfl hp3319 ex3323) ?_; clear F; intro a F
             refine bk [999] F H rfl ⟨rfl, (aggn agg35 ((bcells_length _).trans hl3325)), trivial⟩ ?_; clear F; intro a F
             refine s_build1 wkP F rfl rfl rfl agg35 elem32 rfl rfl ((bcells_length _).trans hl3325) (by decide) H ?_; clear F H; intro b3326 w a H F
             replace H : St w0 w (HP.ow (rBytesN 32) 35 (some ⟨b3326, 0, none⟩) (([x3323]).length) ([x3323]) :: HP.row b3319 (o3319 + (s2947.2 : Int).toNat * 32) (bcells x3323) :: HP.row b3319 (o3319 + (s2947.2 : Int).toNat * 32) (bcells x3318) :: HP.sl (rBytesN 32) p1 c1 x0_ :: HP.ow (rBytesN 32) 35 p2948 c2948 s2947.1 :: l) := H.blkOw (R := (rBytesN 32)) 0 rfl (fun gg => ⟨[bcells x3323], by simp, ⟨rfl, hl3325⟩, trivial⟩) (by simp)
             replace H := H.frz 0 rfl
             obtain ⟨x3328, ex3328, hm⟩ := ob hm
             refine s_app wkP F rfl rfl rfl rfl rfl rfl elem32 rfl ex3328 H 4 0 rfl rfl ?_; clear F H; intro p3327 c3327 w a H F
             refine bk [0] F H rfl trivial ?_; clear F; intro a F
             replace H := H.nf 5 rfl
             refine nl (sr (bk [0, 0, 0, 0] F H rfl ⟨⟨_, Tryd.underlying32⟩, trivial⟩ ?_)); clear F; intro a F
             refine nl ?_
             obtain ⟨r3378, er3378, hm3378⟩ := ob hm; clear hm; revert er3378; intro hm
             refine x_mid (fun aa ww => ∃ (p3379 : Option Addr) (c3379 : Nat), Fr ⟨80, []⟩ aa [(0, .slice p1 (x0_).length c1), (3, .slice p3379 (r3378).length c3379), (4, .int .i64 (s2947.2))] ∧ St w0 ww (HP.row b3319 (o3319 + (s2947.2 : Int).toNat * 32) (bcells x3323) :: HP.row b3319 (o3319 + (s2947.2 : Int).toNat * 32) (bcells x3318) :: HP.sl (rBytesN 32) p1 c1 x0_ :: HP.ow (rBytesN 32) 35 p3379 c3379 r3378 :: l)) ?_ ?_
             · skip
               refine bl ?_
               refine x_loopO _ (fun (s3412 : (List (List UInt8)) × Int) aa ww => ∃ (p3413 : Option Addr) (c3413 : Nat), Fr ⟨80, []⟩ aa [(0, .slice p1 (x0_).length c1), (3, .slice p3413 (s3412.1).length c3413), (4, .int .i64 (s2947.2)), (5, .int .i64 (r3278)), (6, .int .i64 (s3412.2))] ∧ St w0 ww (HP.row b3319 (o3319 + (s2947.2 : Int).toNat * 32) (bcells x3323) :: HP.row b3319 (o3319 + (s2947.2 : Int).toNat * 32) (bcells x3318) :: HP.sl (rBytesN 32) p1 c1 x0_ :: HP.ow (rBytesN 32) 35 p3413 c3413 s3412.1 :: l)) hm ⟨p3327, c3327, F.sl rfl, (H.pm 5 [1, 2, 3, 4] rfl:)⟩ ?_
               clear F H hm
               rintro s3412 a w o ⟨p3413, c3413, F, H⟩ hm
               refine sq (sr (bk [0, 0, 0] F H rfl trivial ?_)); clear F; intro a F
               refine nl (cP F rfl (fun hg3414 => ?_) (fun hg3414 => ?_))
               · replace hm := ifT hg3414 hm
                 refine sk (ct (sq (bl (sr (bk [0, 0] F H rfl trivial ?_))))); clear F; intro a F
                 obtain ⟨x3415, ex3415, hm⟩ := ob hm
                 obtain ⟨b3416, hp3416⟩ := H.owP 3 rfl (idxO_some ex3415).2
                 obtain ⟨css3417, H⟩ := H.oxOpen 3 rfl
                 obtain ⟨cs3417, hcs3417, hcl3417, H⟩ := H.oxEl 3 rfl (idxO_some ex3415).2
                 obtain ⟨rfl, hl3418⟩ := H.rcBN 0 rfl
                 replace H := H.dp 0 rfl
                 refine s_val wkP F rfl rfl rfl rfl (y_idxS F elem32 rfl rfl rfl hp3416 ex3415) ?_; clear F; intro a F
                 refine s_val wkP F rfl rfl rfl rfl (y_loadA F agg35 rfl rfl (H.oxRow 3 rfl hp3416 hcs3417 hcl3417) ((bcells_length _).trans hl3418)) ?_; clear F; intro a F
                 refine s_allocA wkP F rfl rfl rfl agz35 rfl H ?_; clear F H; intro b3419 w a H F
                 refine s_storeA wkP F rfl rfl agg35 rfl rfl rfl H 0 rfl ((bcells_length _).trans hl3418) ((bcells_length _).trans (List.length_replicate (n := 32))) (bcells_flat _) ?_; clear H; intro w H
                 replace H := H.nf 5 rfl
                 refine nl ?_
                 replace H := H.oxShut 4 rfl
                 refine sr (bk (List.replicate 5 0) F H rfl trivial ?_); clear F; intro a F
                 obtain ⟨x3420, ex3420, hm⟩ := ob hm
                 obtain ⟨css3421, H⟩ := H.oxOpen 4 rfl
                 obtain ⟨cs3421, hcs3421, hcl3421, H⟩ := H.oxEl 4 rfl (idxO_some ex3420).2
                 obtain ⟨rfl, hl3422⟩ := H.rcBN 0 rfl
                 replace H := H.dp 0 rfl
                 refine s_val wkP F rfl rfl rfl rfl (y_idxS F elem32 rfl rfl rfl hp3416 ex3420) ?_; clear F; intro a F
                 refine s_val wkP F rfl rfl rfl rfl (y_loadA F agg35 rfl rfl (H.oxRow 4 rfl hp3416 hcs3421 hcl3421) ((bcells_length _).trans hl3422)) ?_; clear F; intro a F
                 obtain ⟨x3423, ex3423, hm⟩ := ob hm
                 obtain ⟨cs3424, hcs3424, hcl3424, H⟩ := H.oxEl 4 rfl (idxO_some ex3423).2
                 obtain ⟨rfl, hl3425⟩ := H.rcBN 0 rfl
                 replace H := H.dp 0 rfl
                 refine s_val wkP F rfl rfl rfl rfl (y_idxS F elem32 rfl rfl rfl hp3416 ex3423) ?_; clear F; intro a F
                 replace H := H.oxShut 4 rfl
                 refine s_owSetA wkP F rfl rfl agg35 rfl rfl rfl rfl H 4 rfl hp3416 ex3423 (zz := x3420) (fun gg => ⟨rfl, hl3422⟩) (bcells_flat _) ((bcells_length _).trans hl3422) ?_; clear H; intro w H
                 replace H : St w0 w (HP.blk b3419 (bcells x3415) 35 :: HP.row b3319 (o3319 + (s2947.2 : Int).toNat * 32) (bcells x3323) :: HP.row b3319 (o3319 + (s2947.2 : Int).toNat * 32) (bcells x3318) :: HP.sl (rBytesN 32) p1 c1 x0_ :: HP.ow (rBytesN 32) 35 p3413 c3413 ((s3412.1).set (s3412.2 : Int).toNat x3420) :: l) := (by have h := H; first | exact h | (simp only [List.length_set] at h ⊢; exact h))
                 replace F := F.bool (k := 3) (u := .slice p3413 ((s3412.1).set (s3412.2 : Int).toNat x3420).length c3413) rfl (by simp only [List.length_set])
                 replace F := F.bool (k := 62) (u := .slice p3413 ((s3412.1).set (s3412.2 : Int).toNat x3420).length c3413) rfl (by simp only [List.length_set])
                 replace F := F.bool (k := 66) (u := .slice p3413 ((s3412.1).set (s3412.2 : Int).toNat x3420).length c3413) rfl (by simp only [List.length_set])
                 replace F := F.bool (k := 68) (u := .slice p3413 ((s3412.1).set (s3412.2 : Int).toNat x3420).length c3413) rfl (by simp only [List.length_set])
                 refine nl (rl (bk [0, 0, 0, 999] F H rfl ⟨rfl, (aggn agg35 ((bcells_length _).trans hl3418)), trivial⟩ ?_)); clear F; intro a F
                 obtain ⟨x3426, ex3426, hm⟩ := ob hm
                 obtain ⟨css3427, H⟩ := H.oxOpen 4 rfl
                 obtain ⟨cs3427, hcs3427, hcl3427, H⟩ := H.oxEl 4 rfl (idxO_some ex3426).2
                 obtain ⟨rfl, hl3428⟩ := H.rcBN 0 rfl
                 replace H := H.dp 0 rfl
                 refine s_val wkP F rfl rfl rfl rfl (y_idxS F elem32 rfl rfl rfl hp3416 ex3426) ?_; clear F; intro a F
                 replace H := H.oxShut 4 rfl
                 refine s_owSetA wkP F rfl rfl agg35 rfl rfl rfl rfl H 4 rfl hp3416 ex3426 (zz := x3415) (fun gg => ⟨rfl, hl3418⟩) (bcells_flat _) ((bcells_length _).trans hl3418) ?_; clear H; intro w H
                 replace H : St w0 w (HP.blk b3419 (bcells x3415) 35 :: HP.row b3319 (o3319 + (s2947.2 : Int).toNat * 32) (bcells x3323) :: HP.row b3319 (o3319 + (s2947.2 : Int).toNat * 32) (bcells x3318) :: HP.sl (rBytesN 32) p1 c1 x0_ :: HP.ow (rBytesN 32) 35 p3413 c3413 (((s3412.1).set (s3412.2 : Int).toNat x3420).set (IntKind.i64.wrap (s3412.2 - 1) : Int).toNat x3415) :: l) := (by have h := H; first | exact h | (simp only [List.length_set] at h ⊢; exact h))
                 replace F := F.bool (k := 3) (u := .slice p3413 (((s3412.1).set (s3412.2 : Int).toNat x3420).set (IntKind.i64.wrap (s3412.2 - 1) : Int).toNat x3415).length c3413) rfl (by simp only [List.length_set])
                 replace F := F.bool (k := 62) (u := .slice p3413 (((s3412.1).set (s3412.2 : Int).toNat x3420).set (IntKind.i64.wrap (s3412.2 - 1) : Int).toNat x3415).length c3413) rfl (by simp only [List.length_set])
                 replace F := F.bool (k := 66) (u := .slice p3413 (((s3412.1).set (s3412.2 : Int).toNat x3420).set (IntKind.i64.wrap (s3412.2 - 1) : Int).toNat x3415).length c3413) rfl (by simp only [List.length_set])
                 replace F := F.bool (k := 68) (u := .slice p3413 (((s3412.1).set (s3412.2 : Int).toNat x3420).set (IntKind.i64.wrap (s3412.2 - 1) : Int).toNat x3415).length c3413) rfl (by simp only [List.length_set])
                 replace F := F.bool (k := 74) (u := .slice p3413 (((s3412.1).set (s3412.2 : Int).toNat x3420).set (IntKind.i64.wrap (s3412.2 - 1) : Int).toNat x3415).length c3413) rfl (by simp only [List.length_set])
                 refine lz (bn (ct (rl (bk [0, 0, 0] F H rfl trivial ?_)))); clear F; intro a F
                 refine lz (ct ?_); cases hm
                 exact ⟨_, rfl, ⟨p3413, c3413, F.sl rfl, (H.pm 5 [1, 2, 3, 4] rfl:)⟩⟩
               · replace hm := ifF hg3414 hm
                 refine ex (cx (cx ?_)); cases hm; refine ⟨_, rfl, ?_⟩; rintro rfl
                 refine ch (ct ?_)
                 exact ⟨p3413, c3413, F.sl rfl, H⟩
             · skip
               clear F H hm
               rintro a w ⟨p3379, c3379, F, H⟩; have hm := hm3378; clear hm3378
               refine bn ?_
               cases hm
               refine ct ?_
               exact ⟨p3379, c3379, F.sl rfl, (H.pm 4 [2, 3] rfl:)⟩
         · replace hm := ifF hg3313 hm
           refine qr H (by kernel_rfl) (by kernel_rfl) ?_
           refine qbk (List.replicate 5 0) F rfl ⟨⟨_, Tryd.underlying32⟩, trivial⟩ ?_; clear F; intro a F
           replace F := F.bF 36 hg3313 rfl
           refine qbk (List.replicate 10 0) F rfl trivial ?_; clear F; intro a F
           refine q_nil ?_; clear H; intro w H
           refine ct (cF F rfl ?_)
           refine sk (ct (sr (bk [0, 0, 0] F H rfl trivial ?_))); clear F; intro a F
           obtain ⟨x3429, ex3429, hm⟩ := ob hm
           obtain ⟨b3430, o3430, hp3430⟩ := H.slP 0 rfl (idxO_some ex3429).2
           obtain ⟨cs3431, hcl3431, H⟩ := H.slEl 0 rfl hp3430 (idxO_some ex3429).2
           obtain ⟨rfl, hl3432⟩ := H.rcBN 1 rfl
           replace H := H.dp 1 rfl
           clear hcl3431
           refine s_val wkP F rfl rfl rfl rfl (y_idxS F elem32 rfl rfl rfl hp3430 ex3429) ?_; clear F; intro a F
           refine bk [999] F H rfl ⟨rfl, (aggn agg35 ((bcells_length _).trans hl3432)), trivial⟩ ?_; clear F; intro a F
           refine s_build1 wkP F rfl rfl rfl agg35 elem32 rfl rfl ((bcells_length _).trans hl3432) (by decide) H ?_; clear F H; intro b3433 w a H F
           replace H : St w0 w (HP.ow (rBytesN 32) 35 (some ⟨b3433, 0, none⟩) (([x3429]).length) ([x3429]) :: HP.row b3430 (o3430 + (s2947.2 : Int).toNat * 32) (bcells x3429) :: HP.sl (rBytesN 32) p1 c1 x0_ :: HP.ow (rBytesN 32) 35 p2948 c2948 s2947.1 :: l) := H.blkOw (R := (rBytesN 32)) 0 rfl (fun gg => ⟨[bcells x3429], by simp, ⟨rfl, hl3432⟩, trivial⟩) (by simp)
           replace H := H.frz 0 rfl
           obtain ⟨x3435, ex3435, hm⟩ := ob hm
           refine s_app wkP F rfl rfl rfl rfl rfl rfl elem32 rfl ex3435 H 3 0 rfl rfl ?_; clear F H; intro p3434 c3434 w a H F
           refine bk [0] F H rfl trivial ?_; clear F; intro a F
           replace H := H.nf 4 rfl
           refine nl (sr (bk [0, 0, 0, 0] F H rfl ⟨⟨_, Tryd.underlying32⟩, trivial⟩ ?_)); clear F; intro a F
           refine nl ?_
           obtain ⟨r3485, er3485, hm3485⟩ := ob hm; clear hm; revert er3485; intro hm
           refine x_mid (fun aa ww => ∃ (p3486 : Option Addr) (c3486 : Nat), Fr ⟨80, []⟩ aa [(0, .slice p1 (x0_).length c1), (3, .slice p3486 (r3485).length c3486), (4, .int .i64 (s2947.2))] ∧ St w0 ww (HP.row b3430 (o3430 + (s2947.2 : Int).toNat * 32) (bcells x3429) :: HP.sl (rBytesN 32) p1 c1 x0_ :: HP.ow (rBytesN 32) 35 p3486 c3486 r3485 :: l)) ?_ ?_
           · skip
             refine bl ?_
             refine x_loopO _ (fun (s3519 : (List (List UInt8)) × Int) aa ww => ∃ (p3520 : Option Addr) (c3520 : Nat), Fr ⟨80, []⟩ aa [(0, .slice p1 (x0_).length c1), (3, .slice p3520 (s3519.1).length c3520), (4, .int .i64 (s2947.2)), (5, .int .i64 (r3278)), (6, .int .i64 (s3519.2))] ∧ St w0 ww (HP.row b3430 (o3430 + (s2947.2 : Int).toNat * 32) (bcells x3429) :: HP.sl (rBytesN 32) p1 c1 x0_ :: HP.ow (rBytesN 32) 35 p3520 c3520 s3519.1 :: l)) hm ⟨p3434, c3434, F.sl rfl, (H.pm 4 [1, 2, 3] rfl:)⟩ ?_
             clear F H hm
             rintro s3519 a w o ⟨p3520, c3520, F, H⟩ hm
             refine sq (sr (bk [0, 0, 0] F H rfl trivial ?_)); clear F; intro a F
             refine nl (cP F rfl (fun hg3521 => ?_) (fun hg3521 => ?_))
             · replace hm := ifT hg3521 hm
               refine sk (ct (sq (bl (sr (bk [0, 0] F H rfl trivial ?_))))); clear F; intro a F
               obtain ⟨x3522, ex3522, hm⟩ := ob hm
               obtain ⟨b3523, hp3523⟩ := H.owP 2 rfl (idxO_some ex3522).2
               obtain ⟨css3524, H⟩ := H.oxOpen 2 rfl
               obtain ⟨cs3524, hcs3524, hcl3524, H⟩ := H.oxEl 2 rfl (idxO_some ex3522).2
               obtain ⟨rfl, hl3525⟩ := H.rcBN 0 rfl
               replace H := H.dp 0 rfl
               refine s_val wkP F rfl rfl rfl rfl (y_idxS F elem32 rfl rfl rfl hp3523 ex3522) ?_; clear F; intro a F
               refine s_val wkP F rfl rfl rfl rfl (y_loadA F agg35 rfl rfl (H.oxRow 2 rfl hp3523 hcs3524 hcl3524) ((bcells_length _).trans hl3525)) ?_; clear F; intro a F
               refine s_allocA wkP F rfl rfl rfl agz35 rfl H ?_; clear F H; intro b3526 w a H F
               refine s_storeA wkP F rfl rfl agg35 rfl rfl rfl H 0 rfl ((bcells_length _).trans hl3525) ((bcells_length _).trans (List.length_replicate (n := 32))) (bcells_flat _) ?_; clear H; intro w H
               replace H := H.nf 4 rfl
               refine nl ?_
               replace H := H.oxShut 3 rfl
               refine sr (bk (List.replicate 5 0) F H rfl trivial ?_); clear F; intro a F
               obtain ⟨x3527, ex3527, hm⟩ := ob hm
               obtain ⟨css3528, H⟩ := H.oxOpen 3 rfl
               obtain ⟨cs3528, hcs3528, hcl3528, H⟩ := H.oxEl 3 rfl (idxO_some ex3527).2
               obtain ⟨rfl, hl3529⟩ := H.rcBN 0 rfl
               replace H := H.dp 0 rfl
               refine s_val wkP F rfl rfl rfl rfl (y_idxS F elem32 rfl rfl rfl hp3523 ex3527) ?_; clear F; intro a F
               refine s_val wkP F rfl rfl rfl rfl (y_loadA F agg35 rfl rfl (H.oxRow 3 rfl hp3523 hcs3528 hcl3528) ((bcells_length _).trans hl3529)) ?_; clear F; intro a F
               obtain ⟨x3530, ex3530, hm⟩ := ob hm
               obtain ⟨cs3531, hcs3531, hcl3531, H⟩ := H.oxEl 3 rfl (idxO_some ex3530).2
               obtain ⟨rfl, hl3532⟩ := H.rcBN 0 rfl
               replace H := H.dp 0 rfl
               refine s_val wkP F rfl rfl rfl rfl (y_idxS F elem32 rfl rfl rfl hp3523 ex3530) ?_; clear F; intro a F
               replace H := H.oxShut 3 rfl
               refine s_owSetA wkP F rfl rfl agg35 rfl rfl rfl rfl H 3 rfl hp3523 ex3530 (zz := x3527) (fun gg => ⟨rfl, hl3529⟩) (bcells_flat _) ((bcells_length _).trans hl3529) ?_; clear H; intro w H
               replace H : St w0 w (HP.blk b3526 (bcells x3522) 35 :: HP.row b3430 (o3430 + (s2947.2 : Int).toNat * 32) (bcells x3429) :: HP.sl (rBytesN 32) p1 c1 x0_ :: HP.ow (rBytesN 32) 35 p3520 c3520 ((s3519.1).set (s3519.2 : Int).toNat x3527) :: l) := (by have h := H; first | exact h | (simp only [List.length_set] at h ⊢; exact h))
               replace F := F.bool (k := 3) (u := .slice p3520 ((s3519.1).set (s3519.2 : Int).toNat x3527).length c3520) rfl (by simp only [List.length_set])
               replace F := F.bool (k := 62) (u := .slice p3520 ((s3519.1).set (s3519.2 : Int).toNat x3527).length c3520) rfl (by simp only [List.length_set])
               replace F := F.bool (k := 66) (u := .slice p3520 ((s3519.1).set (s3519.2 : Int).toNat x3527).length c3520) rfl (by simp only [List.length_set])
               replace F := F.bool (k := 68) (u := .slice p3520 ((s3519.1).set (s3519.2 : Int).toNat x3527).length c3520) rfl (by simp only [List.length_set])
               refine nl (rl (bk [0, 0, 0, 999] F H rfl ⟨rfl, (aggn agg35 ((bcells_length _).trans hl3525)), trivial⟩ ?_)); clear F; intro a F
               obtain ⟨x3533, ex3533, hm⟩ := ob hm
               obtain ⟨css3534, H⟩ := H.oxOpen 3 rfl
               obtain ⟨cs3534, hcs3534, hcl3534, H⟩ := H.oxEl 3 rfl (idxO_some ex3533).2
               obtain ⟨rfl, hl3535⟩ := H.rcBN 0 rfl
               replace H := H.dp 0 rfl
               refine s_val wkP F rfl rfl rfl rfl (y_idxS F elem32 rfl rfl rfl hp3523 ex3533) ?_; clear F; intro a F
               replace H := H.oxShut 3 rfl
               refine s_owSetA wkP F rfl rfl agg35 rfl rfl rfl rfl H 3 rfl hp3523 ex3533 (zz := x3522) (fun gg => ⟨rfl, hl3525⟩) (bcells_flat _) ((bcells_length _).trans hl3525) ?_; clear H; intro w H
               replace H : St w0 w (HP.blk b3526 (bcells x3522) 35 :: HP.row b3430 (o3430 + (s2947.2 : Int).toNat * 32) (bcells x3429) :: HP.sl (rBytesN 32) p1 c1 x0_ :: HP.ow (rBytesN 32) 35 p3520 c3520 (((s3519.1).set (s3519.2 : Int).toNat x3527).set (IntKind.i64.wrap (s3519.2 - 1) : Int).toNat x3522) :: l) := (by have h := H; first | exact h | (simp only [List.length_set] at h ⊢; exact h))
               replace F := F.bool (k := 3) (u := .slice p3520 (((s3519.1).set (s3519.2 : Int).toNat x3527).set (IntKind.i64.wrap (s3519.2 - 1) : Int).toNat x3522).length c3520) rfl (by simp only [List.length_set])
               replace F := F.bool (k := 62) (u := .slice p3520 (((s3519.1).set (s3519.2 : Int).toNat x3527).set (IntKind.i64.wrap (s3519.2 - 1) : Int).toNat x3522).length c3520) rfl (by simp only [List.length_set])
               replace F := F.bool (k := 66) (u := .slice p3520 (((s3519.1).set (s3519.2 : Int).toNat x3527).set (IntKind.i64.wrap (s3519.2 - 1) : Int).toNat x3522).length c3520) rfl (by simp only [List.length_set])
               replace F := F.bool (k := 68) (u := .slice p3520 (((s3519.1).set (s3519.2 : Int).toNat x3527).set (IntKind.i64.wrap (s3519.2 - 1) : Int).toNat x3522).length c3520) rfl (by simp only [List.length_set])
               replace F := F.bool (k := 74) (u := .slice p3520 (((s3519.1).set (s3519.2 : Int).toNat x3527).set (IntKind.i64.wrap (s3519.2 - 1) : Int).toNat x3522).length c3520) rfl (by simp only [List.length_set])
               refine lz (bn (ct (rl (bk [0, 0, 0] F H rfl trivial ?_)))); clear F; intro a F
               refine lz (ct ?_); cases hm
               exact ⟨_, rfl, ⟨p3520, c3520, F.sl rfl, (H.pm 4 [1, 2, 3] rfl:)⟩⟩
             · replace hm := ifF hg3521 hm
               refine ex (cx (cx ?_)); cases hm; refine ⟨_, rfl, ?_⟩; rintro rfl
               refine ch (ct ?_)
               exact ⟨p3520, c3520, F.sl rfl, H⟩
           · skip
             clear F H hm
             rintro a w ⟨p3486, c3486, F, H⟩; have hm := hm3485; clear hm3485
             refine bn ?_
             cases hm
             refine ct ?_
             exact ⟨p3486, c3486, F.sl rfl, (H.pm 3 [1, 2] rfl:)⟩
     · skip
       clear F H hm
       rintro a w ⟨p3243, c3243, F, H⟩; have hm := hm3242; clear hm3242
       refine ct (rl (bk [0, 0, 0] F H rfl trivial ?_)); clear F; intro a F
       refine lz (ct ?_); cases hm
       exact ⟨_, rfl, ⟨p3243, c3243, F.sl rfl, H⟩⟩
   · replace hm := ifF hg2949 hm
     refine ex (cx (cx ?_)); cases hm; refine ⟨_, rfl, ?_⟩; rintro rfl
     refine ch (ct ?_)
     exact ⟨p2948, c2948, F.sl rfl, (H.pm 2 [1] rfl:)⟩
 · skip
   clear F H hm
   rintro a w ⟨p1770, c1770, F, H⟩; have hm := hm1769; clear hm1769
   refine ct (sr (bk [0, 0] F H rfl trivial ?_)); clear F; intro a F
   refine nl (wr ?_)
   replace H := H.frz 0 rfl
   cases hm
   refine x_ret1 F rfl rfl ?_
   exact ⟨_, rfl, p1770, c1770, rfl, H⟩
theorem ent12 : ∀ args w, (callFunc 12 args).run Tryd.prog w = .ok (.enter 12 args) w := enters Tryd.func12 (by kernel_rfl) rfl
set_option maxRecDepth 100000 in
set_option maxHeartbeats 4000000 in
theorem w_lawDigests {list : List (List UInt8)} {p1 : Option Addr} {c1 : Nat} {w0 w : World} {l : List HP}  {r : (List (List UInt8))} (hm : lawDigests list = some r) (H : St w0 w (HP.sl (rSl rByte) p1 c1 list :: l)) :
  Calls Tryd.prog 51 [.slice p1 (list).length c1].toArray w (fun e w' => ∃ v, e = .returned v ∧ ∃ (p2 : Option Addr) (c2 : Nat), v = .slice p2 (r).length c2 ∧ St w0 w' (HP.ow (rBytesN 32) 35 p2 c2 r :: l)) := by
 unfold lawDigests at hm
 refine x_enter Tryd.func51 rfl rfl rfl ?_
 intro a F
 refine sr (bk [0] F H rfl trivial ?_); clear F; intro a F
 refine nl (sr (s_build0O (R := (rBytesN 32)) wkP F rfl rfl rfl elem32 rfl H ?_)); clear F H; intro b3 w a H F
 refine bk [0] F H rfl trivial ?_; clear F; intro a F
 replace H := H.nf 2 rfl
 refine nl (sq (sr (bk [0, 0, 0] F H rfl ⟨⟨_, Tryd.underlying22⟩, trivial⟩ ?_))); clear F; intro a F
 refine nl ?_
 obtain ⟨r38, er38, hm38⟩ := ob hm; clear hm; revert er38; intro hm
 refine x_mid (fun aa ww => ∃ (p39 : Option Addr) (c39 : Nat), Fr ⟨20, []⟩ aa [(3, .slice p39 (r38).length c39)] ∧ St w0 ww (HP.ow (rBytesN 32) 35 p39 c39 r38 :: l)) ?_ ?_
 · skip
   refine bl ?_
   refine x_loopO _ (fun (s62 : (List (List UInt8)) × Int) aa ww => ∃ (p63 : Option Addr) (c63 : Nat), Fr ⟨20, []⟩ aa [(3, .slice p63 (s62.1).length c63), (7, .slice p1 (list).length c1), (8, .int .i64 (((list).length : Int))), (9, .int .i64 (s62.2))] ∧ St w0 ww (HP.sl (rSl rByte) p1 c1 list :: HP.ow (rBytesN 32) 35 p63 c63 s62.1 :: l)) hm ⟨(some ⟨b3, 0, none⟩), 0, F.sl rfl, (H.pm 2 [1, 0] rfl:)⟩ ?_
   clear F H hm
   rintro s62 a w o ⟨p63, c63, F, H⟩ hm
   refine sr (bk [0] F H rfl trivial ?_); clear F; intro a F
   refine nl (sq (cP F rfl (fun hg64 => ?_) (fun hg64 => ?_)))
   · replace hm := ifT hg64 hm
     refine sk (ct (sq (bl (sr ?_))))
     obtain ⟨x65, ex65, hm⟩ := ob hm
     obtain ⟨b66, o66, hp66⟩ := H.slP 0 rfl (idxO_some ex65).2
     obtain ⟨cs67, hcl67, H⟩ := H.slEl 0 rfl hp66 (idxO_some ex65).2
     obtain ⟨p68, c68, rfl, H⟩ := H.rcSl 1 rfl
     replace H := H.dp 2 rfl
     clear hcl67
     refine s_val wkP F rfl rfl rfl rfl (y_idxS F elem22 rfl rfl rfl hp66 ex65) ?_; clear F; intro a F
     refine bk [1000, 0] F H rfl ⟨rfl, plain33, trivial⟩ ?_; clear F; intro a F
     refine nl (rl (bk [0, 0] F H rfl trivial ?_)); clear F; intro a F
     obtain ⟨x69, ex69, hm⟩ := ob hm
     refine sc wkP F rfl ent12 (w_rSum ex69 (H.pm 4 [0, 0, 1, 2, 3] rfl:):) ?_; clear F H; rintro _ w a ⟨rfl, hl70, H⟩ F
     refine s_build1 wkP F rfl rfl rfl agg35 elem32 rfl rfl ((bcells_length _).trans hl70) (by decide) H ?_; clear F H; intro b71 w a H F
     replace H : St w0 w (HP.ow (rBytesN 32) 35 (some ⟨b71, 0, none⟩) (([x69]).length) ([x69]) :: HP.sl rByte p68 c68 x65 :: HP.row b66 (o66 + (s62.2 : Int).toNat * 1) ([.slice p68 (x65).length c68]) :: HP.sl (rSl rByte) p1 c1 list :: HP.ow (rBytesN 32) 35 p63 c63 s62.1 :: l) := H.blkOw (R := (rBytesN 32)) 0 rfl (fun gg => ⟨[bcells x69], by simp, ⟨rfl, hl70⟩, trivial⟩) (by simp)
     replace H := H.frz 0 rfl
     obtain ⟨x73, ex73, hm⟩ := ob hm
     refine s_app wkP F rfl rfl rfl rfl rfl rfl elem32 rfl ex73 H 4 0 rfl rfl ?_; clear F H; intro p72 c72 w a H F
     refine bk [0] F H rfl trivial ?_; clear F; intro a F
     replace H := H.nf 5 rfl
     refine lz (bn (ct (rl (bk [0, 0] F H rfl trivial ?_)))); clear F; intro a F
     refine lz (ct ?_); cases hm
     exact ⟨_, rfl, ⟨p72, c72, F.sl rfl, (H.pm 5 [3, 4] rfl:)⟩⟩
   · replace hm := ifF hg64 hm
     refine ex (cx (cx ?_)); cases hm; refine ⟨_, rfl, ?_⟩; rintro rfl
     refine ch (ct ?_)
     exact ⟨p63, c63, F.sl rfl, (H.pm 2 [1] rfl:)⟩
 · skip
   clear F H hm
   rintro a w ⟨p39, c39, F, H⟩; have hm := hm38; clear hm38
   refine ct (sr (bk [0, 0] F H rfl trivial ?_)); clear F; intro a F
   refine nl (wr ?_)
   cases hm
   refine x_ret1 F rfl rfl ?_
   exact ⟨_, rfl, p39, c39, rfl, H⟩
end Go.Proofs.YtfepdfjhejkemaaDoor
