/- the statement -/
import Derived.Test.YtfepdfjhejkemaaDoorLawA
import Derived.Test.YtfepdfjhejkemaaDoorD17
set_option linter.unusedSimpArgs false
set_option linter.unusedVariables false
namespace Go.Proofs.YtfepdfjhejkemaaDoor
open Go.RowKit Go.Tri
theorem ent8 : ∀ args w, (callFunc 8 args).run Tryd.prog w = .ok (.enter 8 args) w := enters Tryd.func8 (by kernel_rfl) rfl
theorem ent13 : ∀ args w, (callFunc 13 args).run Tryd.prog w = .ok (.enter 13 args) w := enters Tryd.func13 (by kernel_rfl) rfl
theorem ent15 : ∀ args w, (callFunc 15 args).run Tryd.prog w = .ok (.enter 15 args) w := enters Tryd.func15 (by kernel_rfl) rfl
theorem ent16 : ∀ args w, (callFunc 16 args).run Tryd.prog w = .ok (.enter 16 args) w := enters Tryd.func16 (by kernel_rfl) rfl
set_option maxRecDepth 100000 in
set_option maxHeartbeats 4000000 in
theorem w_m_triremelaw05_StoreKeeps (x0_ : List (List UInt8)) (x1_ : List (List UInt8)) (x2_ : List Int) (p1 : Option Addr) (c1 : Nat) (p2 : Option Addr) (c2 : Nat) (p3 : Option Addr) (c3 : Nat) (w0 w : World) (l : List HP)  (r : Bool) (hm : m_triremelaw05_StoreKeeps x0_ x1_ x2_ = some r) (H : St w0 w (HP.row 0 (0) (icells .u32 shaStart) :: HP.row 2 (0) (icells .u32 shaRounds) :: HP.sl (rSl rByte) p1 c1 x0_ :: HP.sl (rSl rByte) p2 c2 x1_ :: HP.sl (rInt .i64) p3 c3 x2_ :: l)) :
  Calls Tryd.prog 3 [.slice p1 (x0_).length c1, .slice p2 (x1_).length c2, .slice p3 (x2_).length c3].toArray w (fun e w' => ∃ v, e = .returned v ∧ v = .bool (r) ∧ St w0 w' (l)) := by
 unfold m_triremelaw05_StoreKeeps at hm
 refine x_enter Tryd.func3 rfl rfl rfl ?_
 intro a F
 replace F : Fr ⟨140, []⟩ a [(0, .slice p1 (x0_).length c1), (1, .slice p2 (x1_).length c2), (2, .slice p3 (x2_).length c3)] := F
 refine wp_seq ?_
 refine r_lit ?_
 refine s_val wkP F rfl rfl rfl rfl (y_assign F rfl rfl) ?_; clear F; intro a F
 refine wpList_nil ?_
 refine c_then ?_
 refine wp_seq ?_
 refine wp_seq ?_
 refine r_lit ?_
 obtain ⟨x4, ex4, hn⟩ := ob hm; clear hm; revert hn; intro hm
 refine s_call wkP F rfl rfl rfl rfl (y_call F rfl rfl ent8) (w_m_triremelaw05_speaks  w0 _ _  _ ex4 ((H.cp 1 rfl pers_row).cp 1 rfl pers_row)) ?_; clear F H; rintro _ w a ⟨rfl, H⟩ F
 replace H : St w0 w (HP.row 0 (0) (icells .u32 shaStart) :: HP.row 2 (0) (icells .u32 shaRounds) :: HP.sl (rSl rByte) p1 c1 x0_ :: HP.sl (rSl rByte) p2 c2 x1_ :: HP.sl (rInt .i64) p3 c3 x2_ :: l) := H
 refine s_val wkP F rfl rfl rfl rfl (y_not F rfl rfl) ?_; clear F; intro a F
 refine wpList_nil ?_
 refine c_then ?_
 refine x_cond F rfl (fun hg5 => ?_) (fun hg5 => ?_)
 · replace hm := ifT hg5 hm
   refine wp_seq ?_
   refine r_lit ?_
   refine s_val wkP F rfl rfl rfl rfl (y_assign F rfl rfl) ?_; clear F; intro a F
   refine wpList_nil ?_
   refine c_then ?_
   refine wp_ret ?_
   refine c_thenR ?_
   obtain rfl := Option.some.inj hm
   refine x_ret1 F rfl rfl ?_
   exact ⟨_, rfl, rfl, (H.keep 0 5)⟩
 · replace hm := ifF (nT hg5) hm
   refine wp_skip ?_
   refine c_then ?_
   refine wp_seq ?_
   refine wp_seq ?_
   refine r_lit ?_
   refine s_val wkP F rfl rfl rfl rfl (y_move F rfl rfl) ?_; clear F; intro a F
   refine s_val wkP F rfl rfl rfl rfl (y_lenS F rfl Tryd.underlying22 rfl) ?_; clear F; intro a F
   refine s_val wkP F rfl rfl rfl rfl (y_gtr F rfl rfl rfl) ?_; clear F; intro a F
   refine s_val wkP F rfl rfl rfl rfl (y_move F rfl rfl) ?_; clear F; intro a F
   by_cases hg6 : 10 < ((x0_).length : Int)
   · replace hm := ifT hg6 hm
     replace F := F.bool (k := 30) (u := .bool true) rfl (congrArg (fun b => Value.bool b) (decide_eq_true hg6))
     refine g_off wkP F rfl rfl rfl rfl rfl rfl rfl ?_; clear F; intro a F
     refine g_off wkP F rfl rfl rfl rfl rfl rfl rfl ?_; clear F; intro a F
     refine g_off wkP F rfl rfl rfl rfl rfl rfl rfl ?_; clear F; intro a F
     refine s_val wkP F rfl rfl rfl rfl (y_pickT F rfl rfl rfl) ?_; clear F; intro a F
     refine wpList_nil ?_
     refine c_then ?_
     refine x_condT F rfl ?_
     refine wp_seq ?_
     refine r_lit ?_
     refine s_val wkP F rfl rfl rfl rfl (y_assign F rfl rfl) ?_; clear F; intro a F
     refine wpList_nil ?_
     refine c_then ?_
     refine wp_ret ?_
     refine c_thenR ?_
     obtain rfl := Option.some.inj hm
     refine x_ret1 F rfl rfl ?_
     exact ⟨_, rfl, rfl, (H.keep 0 5)⟩
   · replace hm := ifF hg6 hm
     replace F := F.bool (k := 30) (u := .bool false) rfl (congrArg (fun b => Value.bool b) (decide_eq_false hg6))
     refine g_onP F rfl rfl rfl rfl ?_
     refine s_val wkP F rfl rfl rfl rfl (y_move F rfl rfl) ?_; clear F; intro a F
     refine g_onP F rfl rfl rfl rfl ?_
     refine s_val wkP F rfl rfl rfl rfl (y_lenS F rfl Tryd.underlying22 rfl) ?_; clear F; intro a F
     refine g_onP F rfl rfl rfl rfl ?_
     refine s_val wkP F rfl rfl rfl rfl (y_gtr F rfl rfl rfl) ?_; clear F; intro a F
     refine s_val wkP F rfl rfl rfl rfl (y_pickF F rfl rfl rfl) ?_; clear F; intro a F
     refine wpList_nil ?_
     refine c_then ?_
     refine x_condP F rfl (fun hg7 => ?_) (fun hg7 => ?_)
     · replace hm := ifT hg7 hm
       refine wp_seq ?_
       refine r_lit ?_
       refine s_val wkP F rfl rfl rfl rfl (y_assign F rfl rfl) ?_; clear F; intro a F
       refine wpList_nil ?_
       refine c_then ?_
       refine wp_ret ?_
       refine c_thenR ?_
       obtain rfl := Option.some.inj hm
       refine x_ret1 F rfl rfl ?_
       exact ⟨_, rfl, rfl, (H.keep 0 5)⟩
     · replace hm := ifF hg7 hm
       refine wp_skip ?_
       refine c_then ?_
       refine wp_seq ?_
       refine r_lit ?_
       obtain ⟨x8, ex8, hn⟩ := ob hm; clear hm; revert hn; intro hm
       refine s_call wkP F rfl rfl rfl rfl (y_call F rfl rfl ent9) (w_diskNew 16 w0 _ _  _ ex8 H) ?_; clear F H; rintro _ w a ⟨b9, p10, c10, p11, c11, rfl, H⟩ F
       replace H : St w0 w (HP.blk b9 ([.slice p10 (x8.1.1).length c10, .slice p11 (x8.1.2.1).length c11, .int .i64 (x8.1.2.2.1), .bool (x8.1.2.2.2)]) 71 :: HP.ow (rSl rByte) 33 p10 c10 x8.1.1 :: HP.ow (rPair (rInt .i64) (rSl rByte)) 88 p11 c11 x8.1.2.1 :: HP.row 0 (0) (icells .u32 shaStart) :: HP.row 2 (0) (icells .u32 shaRounds) :: HP.sl (rSl rByte) p1 c1 x0_ :: HP.sl (rSl rByte) p2 c2 x1_ :: HP.sl (rInt .i64) p3 c3 x2_ :: l) := H
       refine s_val wkP F rfl rfl rfl rfl (y_move F rfl rfl) ?_; clear F; intro a F
       refine s_val wkP F rfl rfl rfl rfl (y_extract F rfl rfl rfl) ?_; clear F; intro a F
       refine s_val wkP F rfl rfl rfl rfl (y_extract F rfl rfl rfl) ?_; clear F; intro a F
       refine s_val wkP F rfl rfl rfl rfl (y_assign F rfl rfl) ?_; clear F; intro a F
       refine s_val wkP F rfl rfl rfl rfl (y_assign F rfl rfl) ?_; clear F; intro a F
       refine wpList_nil ?_
       refine c_then ?_
       refine wp_seq ?_
       refine wp_seq ?_
       refine r_lit ?_
       refine s_val wkP F rfl rfl rfl rfl (y_move F rfl rfl) ?_; clear F; intro a F
       refine s_val wkP F rfl rfl rfl rfl (y_eqlPN F rfl rfl rfl Tryd.underlying25) ?_; clear F; intro a F
       refine wpList_nil ?_
       refine c_then ?_
       refine x_condF F rfl ?_
       refine wp_skip ?_
       refine c_then ?_
       refine wp_seq ?_
       refine r_lit ?_
       refine s_val wkP F rfl rfl rfl rfl (y_move F rfl rfl) ?_; clear F; intro a F
       obtain ⟨x12, ex12, hn⟩ := ob hm; clear hm; revert hn; intro hm
       refine s_call wkP F rfl rfl rfl rfl (y_call F rfl rfl ent10) (w_stOpen (x8.1.1, x8.1.2.1, x8.1.2.2.1, x8.1.2.2.2) b9 p10 c10 p11 c11 w0 _ _  _ ex12 (((((H.mv 2 rfl).mv 2 rfl).mv 2 rfl).cp 4 rfl pers_row).cp 4 rfl pers_row)) ?_; clear F H; rintro _ w a ⟨b13, m14, m15, m16, rfl, H⟩ F
       replace H : St w0 w (HP.blk b13 ([.pointer (some ⟨b9, 0, none⟩), .map (some m14), .map (some m15), .map (some m16)]) 75 :: HP.mm (some m14) hv false (rInt .i64) (fun l => l.length = 32) x12.1.1 :: HP.mm (some m15) (Value.int .i64) true (rBytesN 32) (fun _ => True) x12.1.2.1 :: HP.mm (some m16) hv false (rInt .i64) (fun l => l.length = 32) x12.1.2.2 :: HP.blk b9 ([.slice p10 (x8.1.1).length c10, .slice p11 (x8.1.2.1).length c11, .int .i64 (x8.1.2.2.1), .bool (x8.1.2.2.2)]) 71 :: HP.ow (rSl rByte) 33 p10 c10 x8.1.1 :: HP.ow (rPair (rInt .i64) (rSl rByte)) 88 p11 c11 x8.1.2.1 :: HP.row 0 (0) (icells .u32 shaStart) :: HP.row 2 (0) (icells .u32 shaRounds) :: HP.sl (rSl rByte) p1 c1 x0_ :: HP.sl (rSl rByte) p2 c2 x1_ :: HP.sl (rInt .i64) p3 c3 x2_ :: l) := H
       refine s_val wkP F rfl rfl rfl rfl (y_move F rfl rfl) ?_; clear F; intro a F
       refine s_val wkP F rfl rfl rfl rfl (y_extract F rfl rfl rfl) ?_; clear F; intro a F
       refine s_val wkP F rfl rfl rfl rfl (y_extract F rfl rfl rfl) ?_; clear F; intro a F
       refine s_val wkP F rfl rfl rfl rfl (y_assign F rfl rfl) ?_; clear F; intro a F
       refine s_val wkP F rfl rfl rfl rfl (y_assign F rfl rfl) ?_; clear F; intro a F
       refine wpList_nil ?_
       refine c_then ?_
       refine wp_seq ?_
       refine wp_seq ?_
       refine r_lit ?_
       refine s_val wkP F rfl rfl rfl rfl (y_move F rfl rfl) ?_; clear F; intro a F
       refine s_val wkP F rfl rfl rfl rfl (y_eqlPN F rfl rfl rfl Tryd.underlying29) ?_; clear F; intro a F
       refine wpList_nil ?_
       refine c_then ?_
       refine x_condF F rfl ?_
       refine wp_skip ?_
       refine c_then ?_
       refine wp_seq ?_
       refine r_lit ?_
       refine s_build0O (R := (rBytesN 32)) wkP F rfl rfl rfl elem32 rfl H ?_; clear F H; intro b17 w a H F
       replace H : St w0 w (HP.ow (rBytesN 32) 35 (some ⟨b17, 0, none⟩) 0 ([] : List (List UInt8)) :: HP.blk b13 ([.pointer (some ⟨b9, 0, none⟩), .map (some m14), .map (some m15), .map (some m16)]) 75 :: HP.mm (some m14) hv false (rInt .i64) (fun l => l.length = 32) x12.1.1 :: HP.mm (some m15) (Value.int .i64) true (rBytesN 32) (fun _ => True) x12.1.2.1 :: HP.mm (some m16) hv false (rInt .i64) (fun l => l.length = 32) x12.1.2.2 :: HP.blk b9 ([.slice p10 (x8.1.1).length c10, .slice p11 (x8.1.2.1).length c11, .int .i64 (x8.1.2.2.1), .bool (x8.1.2.2.2)]) 71 :: HP.ow (rSl rByte) 33 p10 c10 x8.1.1 :: HP.ow (rPair (rInt .i64) (rSl rByte)) 88 p11 c11 x8.1.2.1 :: HP.row 0 (0) (icells .u32 shaStart) :: HP.row 2 (0) (icells .u32 shaRounds) :: HP.sl (rSl rByte) p1 c1 x0_ :: HP.sl (rSl rByte) p2 c2 x1_ :: HP.sl (rInt .i64) p3 c3 x2_ :: l) := H
       refine s_val wkP F rfl rfl rfl rfl (y_assign F rfl rfl) ?_; clear F; intro a F
       refine wpList_nil ?_
       refine c_then ?_
       refine wp_seq ?_
       refine wp_seq ?_
       refine r_lit ?_
       refine s_val wkP F rfl rfl rfl rfl (y_move F rfl rfl) ?_; clear F; intro a F
       refine s_val wkP F rfl rfl rfl rfl (y_lenS F rfl Tryd.underlying22 rfl) ?_; clear F; intro a F
       refine s_val wkP F rfl rfl rfl rfl (y_move F rfl rfl) ?_; clear F; intro a F
       refine wpList_nil ?_
       refine c_then ?_
       obtain ⟨o100, eo100, hm100⟩ := ob hm; clear hm; revert eo100; intro hm
       refine x_mid (fun aa ww => ∃ r100, o100 = Sum.inl r100 ∧ ∃ (m101 : Nat) (m102 : Nat) (m103 : Nat) (p104 : Option Addr) (c104 : Nat) (p105 : Option Addr) (c105 : Nat) (p106 : Option Addr) (c106 : Nat), Fr ⟨140, []⟩ aa [(0, .slice p1 (x0_).length c1), (1, .slice p2 (x1_).length c2), (2, .slice p3 (x2_).length c3), (7, .pointer (some ⟨b9, 0, none⟩)), (9, .pointer (some ⟨b13, 0, none⟩)), (11, .slice p106 (r100.2.2).length c106)] ∧ St w0 ww (HP.blk b13 ([.pointer (some ⟨b9, 0, none⟩), .map (some m101), .map (some m102), .map (some m103)]) 75 :: HP.blk b9 ([.slice p104 (r100.2.1.1).length c104, .slice p105 (r100.2.1.2.1).length c105, .int .i64 (r100.2.1.2.2.1), .bool (r100.2.1.2.2.2)]) 71 :: HP.row 0 (0) (icells .u32 shaStart) :: HP.row 2 (0) (icells .u32 shaRounds) :: HP.sl (rSl rByte) p1 c1 x0_ :: HP.sl (rSl rByte) p2 c2 x1_ :: HP.sl (rInt .i64) p3 c3 x2_ :: HP.mm (some m101) hv false (rInt .i64) (fun l => l.length = 32) r100.1.1 :: HP.mm (some m102) (Value.int .i64) true (rBytesN 32) (fun _ => True) r100.1.2.1 :: HP.mm (some m103) hv false (rInt .i64) (fun l => l.length = 32) r100.1.2.2 :: HP.ow (rSl rByte) 33 p104 c104 r100.2.1.1 :: HP.ow (rPair (rInt .i64) (rSl rByte)) 88 p105 c105 r100.2.1.2.1 :: HP.ow (rBytesN 32) 35 p106 c106 r100.2.2 :: l)) ?_ ?_
       · skip
         refine wp_block ?_
         refine x_loopO _ (fun (s161 : (((List UInt8) → Option Int) × (Int → Option (List UInt8)) × ((List UInt8) → Option Int)) × ((List (List UInt8)) × (List (Int × (List UInt8))) × Int × Bool) × (List (List UInt8)) × Int) aa ww => ∃ (m162 : Nat) (m163 : Nat) (m164 : Nat) (p165 : Option Addr) (c165 : Nat) (p166 : Option Addr) (c166 : Nat) (p167 : Option Addr) (c167 : Nat), Fr ⟨140, []⟩ aa [(0, .slice p1 (x0_).length c1), (1, .slice p2 (x1_).length c2), (2, .slice p3 (x2_).length c3), (7, .pointer (some ⟨b9, 0, none⟩)), (9, .pointer (some ⟨b13, 0, none⟩)), (11, .slice p167 (s161.2.2.1).length c167), (49, .slice p1 (x0_).length c1), (50, .int .i64 (((x0_).length : Int))), (51, .int .i64 (s161.2.2.2))] ∧ St w0 ww (HP.blk b13 ([.pointer (some ⟨b9, 0, none⟩), .map (some m162), .map (some m163), .map (some m164)]) 75 :: HP.blk b9 ([.slice p165 (s161.2.1.1).length c165, .slice p166 (s161.2.1.2.1).length c166, .int .i64 (s161.2.1.2.2.1), .bool (s161.2.1.2.2.2)]) 71 :: HP.row 0 (0) (icells .u32 shaStart) :: HP.row 2 (0) (icells .u32 shaRounds) :: HP.sl (rSl rByte) p1 c1 x0_ :: HP.sl (rSl rByte) p2 c2 x1_ :: HP.sl (rInt .i64) p3 c3 x2_ :: HP.mm (some m162) hv false (rInt .i64) (fun l => l.length = 32) s161.1.1 :: HP.mm (some m163) (Value.int .i64) true (rBytesN 32) (fun _ => True) s161.1.2.1 :: HP.mm (some m164) hv false (rInt .i64) (fun l => l.length = 32) s161.1.2.2 :: HP.ow (rSl rByte) 33 p165 c165 s161.2.1.1 :: HP.ow (rPair (rInt .i64) (rSl rByte)) 88 p166 c166 s161.2.1.2.1 :: HP.ow (rBytesN 32) 35 p167 c167 s161.2.2.1 :: l)) hm ⟨m14, m15, m16, p10, c10, p11, c11, (some ⟨b17, 0, none⟩), 0, F.cut _ ⟨rfl, rfl, rfl, rfl, rfl, rfl, rfl, rfl, rfl, trivial⟩, ((((((((((((((H.mv 0 rfl).mv 7 rfl).mv 7 rfl).mv 6 rfl).mv 6 rfl).mv 6 rfl).cp 12 rfl pers_sl).cp 12 rfl pers_sl).cp 12 rfl pers_sl).cp 12 rfl pers_row).cp 12 rfl pers_row).mv 12 rfl).mv 12 rfl).keep 13 5)⟩ ?_
         clear F H hm
         rintro s161 a w o ⟨m162, m163, m164, p165, c165, p166, c166, p167, c167, F, H⟩ hm
         refine wp_seq ?_
         refine r_lit ?_
         refine s_val wkP F rfl rfl rfl rfl (y_lss F rfl rfl rfl) ?_; clear F; intro a F
         refine wpList_nil ?_
         refine c_then ?_
         refine wp_seq ?_
         refine x_condP F rfl (fun hg168 => ?_) (fun hg168 => ?_)
         · replace hm := ifT hg168 hm
           refine wp_skip ?_
           refine c_then ?_
           refine wp_seq ?_
           refine wp_block ?_
           refine wp_seq ?_
           refine r_lit ?_
           obtain ⟨x169, ex169, hn⟩ := ob hm; clear hm; revert hn; intro hm
           obtain ⟨b170, o170, hp170⟩ := H.slP 4 rfl (idxO_some ex169).2
           obtain ⟨cs171, hcl171, H⟩ := H.slEl 4 rfl hp170 (idxO_some ex169).2
           obtain ⟨p172, c172, rfl, H⟩ := H.rcSl 1 rfl
           replace H := H.dp 2 rfl
           clear hcl171
           refine s_val wkP F rfl rfl rfl rfl (y_idxS F elem22 rfl rfl rfl hp170 ex169) ?_; clear F; intro a F
           refine s_val wkP F rfl rfl rfl rfl (y_load1 F plain33 rfl rfl ((H.rowAt 1 rfl) 0 _ rfl)) ?_; clear F; intro a F
           refine s_val wkP F rfl rfl rfl rfl (y_assign F rfl rfl) ?_; clear F; intro a F
           refine wpList_nil ?_
           refine c_then ?_
           refine wp_seq ?_
           refine wp_seq ?_
           refine r_lit ?_
           refine s_val wkP F rfl rfl rfl rfl (y_move F rfl rfl) ?_; clear F; intro a F
           refine s_val wkP F rfl rfl rfl rfl (y_lenS F rfl Tryd.underlying33 rfl) ?_; clear F; intro a F
           refine s_val wkP F rfl rfl rfl rfl (y_gtr F rfl rfl rfl) ?_; clear F; intro a F
           refine wpList_nil ?_
           refine c_then ?_
           refine x_condP F rfl (fun hg173 => ?_) (fun hg173 => ?_)
           · replace hm := ifT hg173 hm
             refine wp_seq ?_
             refine r_lit ?_
             refine s_val wkP F rfl rfl rfl rfl (y_assign F rfl rfl) ?_; clear F; intro a F
             refine wpList_nil ?_
             refine c_then ?_
             refine wp_ret ?_
             refine c_thenR ?_
             refine c_blkR ?_
             refine c_thenR ?_
             refine c_thenR ?_; obtain rfl := Option.some.inj hm; refine ⟨_, rfl, ?_⟩; rintro rfl
             refine c_blkR ?_
             refine c_thenR ?_
             replace hm := elimR hm100
             refine c_thenR ?_
             obtain rfl := Option.some.inj hm
             refine x_ret1 F rfl rfl ?_
             exact ⟨_, rfl, rfl, (H.keep 0 15)⟩
           · replace hm := ifF hg173 hm
             refine wp_skip ?_
             refine c_then ?_
             refine wp_seq ?_
             refine r_lit ?_
             refine s_val wkP F rfl rfl rfl rfl (y_move F rfl rfl) ?_; clear F; intro a F
             refine s_val wkP F rfl rfl rfl rfl (y_move F rfl rfl) ?_; clear F; intro a F
             obtain ⟨x174, ex174, hn⟩ := ob hm; clear hm; revert hn; intro hm
             refine s_call wkP F rfl rfl rfl rfl (y_call F rfl rfl ent11) (w_stPut ((s161.2.1.1, s161.2.1.2.1, s161.2.1.2.2.1, s161.2.1.2.2.2), s161.1.1, s161.1.2.1, s161.1.2.2) x169 b13 b9 p165 c165 p166 c166 m162 m163 m164 p172 c172 w0 _ _  _ ex174 ((((((((((H.cp 0 rfl pers_sl).mv 12 rfl).mv 12 rfl).mv 12 rfl).mv 14 rfl).mv 14 rfl).mv 9 rfl).mv 9 rfl).cp 11 rfl pers_row).cp 11 rfl pers_row)) ?_; clear F H; rintro _ w a ⟨p176, c176, p177, c177, m178, m179, m180, rfl, hl175, H⟩ F
             replace H : St w0 w (HP.blk b13 ([.pointer (some ⟨b9, 0, none⟩), .map (some m178), .map (some m179), .map (some m180)]) 75 :: HP.blk b9 ([.slice p176 (x174.2.2.1.1).length c176, .slice p177 (x174.2.2.1.2.1).length c177, .int .i64 (x174.2.2.1.2.2.1), .bool (x174.2.2.1.2.2.2)]) 71 :: HP.ow (rSl rByte) 33 p176 c176 x174.2.2.1.1 :: HP.ow (rPair (rInt .i64) (rSl rByte)) 88 p177 c177 x174.2.2.1.2.1 :: HP.mm (some m178) hv false (rInt .i64) (fun l => l.length = 32) x174.2.2.2.1 :: HP.mm (some m179) (Value.int .i64) true (rBytesN 32) (fun _ => True) x174.2.2.2.2.1 :: HP.mm (some m180) hv false (rInt .i64) (fun l => l.length = 32) x174.2.2.2.2.2 :: HP.sl rByte p172 c172 x169 :: HP.row b170 (o170 + (s161.2.2.2 : Int).toNat * 1) ([.slice p172 (x169).length c172]) :: HP.row 0 (0) (icells .u32 shaStart) :: HP.row 2 (0) (icells .u32 shaRounds) :: HP.sl (rSl rByte) p1 c1 x0_ :: HP.sl (rSl rByte) p2 c2 x1_ :: HP.sl (rInt .i64) p3 c3 x2_ :: HP.ow (rBytesN 32) 35 p167 c167 s161.2.2.1 :: l) := H
             refine s_val wkP F rfl rfl rfl rfl (y_move F rfl rfl) ?_; clear F; intro a F
             refine s_val wkP F rfl rfl rfl rfl (y_extract F rfl rfl rfl) ?_; clear F; intro a F
             refine s_val wkP F rfl rfl rfl rfl (y_extract F rfl rfl rfl) ?_; clear F; intro a F
             refine s_allocA wkP F rfl rfl rfl agz35 rfl H ?_; clear F H; intro b181 w a H F
             replace H : St w0 w (HP.blk b181 (bcells (List.replicate 32 0)) 35 :: HP.blk b13 ([.pointer (some ⟨b9, 0, none⟩), .map (some m178), .map (some m179), .map (some m180)]) 75 :: HP.blk b9 ([.slice p176 (x174.2.2.1.1).length c176, .slice p177 (x174.2.2.1.2.1).length c177, .int .i64 (x174.2.2.1.2.2.1), .bool (x174.2.2.1.2.2.2)]) 71 :: HP.ow (rSl rByte) 33 p176 c176 x174.2.2.1.1 :: HP.ow (rPair (rInt .i64) (rSl rByte)) 88 p177 c177 x174.2.2.1.2.1 :: HP.mm (some m178) hv false (rInt .i64) (fun l => l.length = 32) x174.2.2.2.1 :: HP.mm (some m179) (Value.int .i64) true (rBytesN 32) (fun _ => True) x174.2.2.2.2.1 :: HP.mm (some m180) hv false (rInt .i64) (fun l => l.length = 32) x174.2.2.2.2.2 :: HP.sl rByte p172 c172 x169 :: HP.row b170 (o170 + (s161.2.2.2 : Int).toNat * 1) ([.slice p172 (x169).length c172]) :: HP.row 0 (0) (icells .u32 shaStart) :: HP.row 2 (0) (icells .u32 shaRounds) :: HP.sl (rSl rByte) p1 c1 x0_ :: HP.sl (rSl rByte) p2 c2 x1_ :: HP.sl (rInt .i64) p3 c3 x2_ :: HP.ow (rBytesN 32) 35 p167 c167 s161.2.2.1 :: l) := H
             refine s_storeA wkP F rfl rfl agg35 rfl rfl rfl H 0 rfl ((bcells_length _).trans hl175) ((bcells_length _).trans (List.length_replicate (n := 32))) (bcells_flat _) ?_; clear H; intro w H
             replace H : St w0 w (HP.blk b181 (bcells x174.1) 35 :: HP.blk b13 ([.pointer (some ⟨b9, 0, none⟩), .map (some m178), .map (some m179), .map (some m180)]) 75 :: HP.blk b9 ([.slice p176 (x174.2.2.1.1).length c176, .slice p177 (x174.2.2.1.2.1).length c177, .int .i64 (x174.2.2.1.2.2.1), .bool (x174.2.2.1.2.2.2)]) 71 :: HP.ow (rSl rByte) 33 p176 c176 x174.2.2.1.1 :: HP.ow (rPair (rInt .i64) (rSl rByte)) 88 p177 c177 x174.2.2.1.2.1 :: HP.mm (some m178) hv false (rInt .i64) (fun l => l.length = 32) x174.2.2.2.1 :: HP.mm (some m179) (Value.int .i64) true (rBytesN 32) (fun _ => True) x174.2.2.2.2.1 :: HP.mm (some m180) hv false (rInt .i64) (fun l => l.length = 32) x174.2.2.2.2.2 :: HP.sl rByte p172 c172 x169 :: HP.row b170 (o170 + (s161.2.2.2 : Int).toNat * 1) ([.slice p172 (x169).length c172]) :: HP.row 0 (0) (icells .u32 shaStart) :: HP.row 2 (0) (icells .u32 shaRounds) :: HP.sl (rSl rByte) p1 c1 x0_ :: HP.sl (rSl rByte) p2 c2 x1_ :: HP.sl (rInt .i64) p3 c3 x2_ :: HP.ow (rBytesN 32) 35 p167 c167 s161.2.2.1 :: l) := H
             refine s_val wkP F rfl rfl rfl rfl (y_assign F rfl rfl) ?_; clear F; intro a F
             refine wpList_nil ?_
             refine c_then ?_
             refine wp_seq ?_
             refine wp_seq ?_
             by_cases hg182 : x174.2.1 = 0
             · replace hm := ifT hg182 hm
               obtain ⟨x183, ex183, hn⟩ := ob hm; clear hm; revert hn; intro hm
               have hl184 : (x183).length = 32 := by obtain ⟨_, _, _, _, _, hx, _⟩ := calls_ex (w_rSum x169 p172 c172 w0 _ _  _ ex183 (H.cp 8 rfl pers_sl)); exact hx
               refine q_region (fun u => St w0 u (HP.blk b181 (bcells x174.1) 35 :: HP.blk b13 ([.pointer (some ⟨b9, 0, none⟩), .map (some m178), .map (some m179), .map (some m180)]) 75 :: HP.blk b9 ([.slice p176 (x174.2.2.1.1).length c176, .slice p177 (x174.2.2.1.2.1).length c177, .int .i64 (x174.2.2.1.2.2.1), .bool (x174.2.2.1.2.2.2)]) 71 :: HP.ow (rSl rByte) 33 p176 c176 x174.2.2.1.1 :: HP.ow (rPair (rInt .i64) (rSl rByte)) 88 p177 c177 x174.2.2.1.2.1 :: HP.mm (some m178) hv false (rInt .i64) (fun l => l.length = 32) x174.2.2.2.1 :: HP.mm (some m179) (Value.int .i64) true (rBytesN 32) (fun _ => True) x174.2.2.2.2.1 :: HP.mm (some m180) hv false (rInt .i64) (fun l => l.length = 32) x174.2.2.2.2.2 :: HP.sl rByte p172 c172 x169 :: HP.row b170 (o170 + (s161.2.2.2 : Int).toNat * 1) ([.slice p172 (x169).length c172]) :: HP.row 0 (0) (icells .u32 shaStart) :: HP.row 2 (0) (icells .u32 shaRounds) :: HP.sl (rSl rByte) p1 c1 x0_ :: HP.sl (rSl rByte) p2 c2 x1_ :: HP.sl (rInt .i64) p3 c3 x2_ :: HP.ow (rBytesN 32) 35 p167 c167 s161.2.2.1 :: l)) (by kernel_rfl) (by kernel_rfl) H.drew ?_
               refine q_val F rfl rfl rfl (fun u hu => y_move F rfl rfl) ?_; clear F; intro a F
               refine q_val F rfl rfl rfl (fun u hu => y_neq F rfl rfl rfl) ?_; clear F; intro a F
               refine q_val F rfl rfl rfl (fun u hu => y_move F rfl rfl) ?_; clear F; intro a F
               replace F := F.bool (k := 66) (u := .bool false) rfl (congrArg (fun b => Value.bool (!b)) (decide_eq_true hg182))
               refine qg_on F rfl rfl rfl rfl ?_
               refine q_val F rfl rfl rfl (fun u hu => y_loadA F agg35 rfl rfl ((hu.blk 0 rfl).row) ((bcells_length _).trans hl175)) ?_; clear F; intro a F
               refine qg_on F rfl rfl rfl rfl ?_
               refine q_val F rfl rfl rfl (fun u hu => y_move F rfl rfl) ?_; clear F; intro a F
               refine qg_on F rfl rfl rfl rfl ?_
               refine q_call F rfl rfl rfl (fun u hu => y_call F rfl rfl ent12) (fun u hu => (w_rSum x169 p172 c172 w0 _ _  _ ex183 (hu.cp 8 rfl pers_sl)).mono fun e u2 he => by obtain ⟨v, rfl, rfl, _, H⟩ := he; exact ⟨rfl, H⟩) ?_; clear F; intro a F
               refine qg_on F rfl rfl rfl rfl ?_
               refine q_val F rfl rfl rfl (fun u hu => y_neqA F key35 rfl rfl rfl hl175 hl184) ?_; clear F; intro a F
               refine q_val F rfl rfl rfl (fun u hu => y_pickF F rfl rfl rfl) ?_; clear F; intro a F
               refine q_nil ?_; clear H; intro w H
               refine c_then ?_
               refine x_condN F rfl (fun hg185 => ?_) (fun hg185 => ?_)
               · replace hm := ifF hg185 hm
                 refine wp_seq ?_
                 refine r_lit ?_
                 refine s_val wkP F rfl rfl rfl rfl (y_assign F rfl rfl) ?_; clear F; intro a F
                 refine wpList_nil ?_
                 refine c_then ?_
                 refine wp_ret ?_
                 refine c_thenR ?_
                 refine c_blkR ?_
                 refine c_thenR ?_
                 refine c_thenR ?_; obtain rfl := Option.some.inj hm; refine ⟨_, rfl, ?_⟩; rintro rfl
                 refine c_blkR ?_
                 refine c_thenR ?_
                 replace hm := elimR hm100
                 refine c_thenR ?_
                 obtain rfl := Option.some.inj hm
                 refine x_ret1 F rfl rfl ?_
                 exact ⟨_, rfl, rfl, (H.keep 0 16)⟩
               · replace hm := ifT hg185 hm
                 refine wp_skip ?_
                 refine c_then ?_
                 refine r_lit ?_
                 refine s_val wkP F rfl rfl rfl rfl (y_move F rfl rfl) ?_; clear F; intro a F
                 refine s_val wkP F rfl rfl rfl rfl (y_loadA F agg35 rfl rfl ((H.blk 0 rfl).row) ((bcells_length _).trans hl175)) ?_; clear F; intro a F
                 refine s_build1 wkP F rfl rfl rfl agg35 elem32 rfl rfl ((bcells_length _).trans hl175) (by decide) H ?_; clear F H; intro b186 w a H F
                 replace H : St w0 w (HP.blk b186 (bcells x174.1) 35 :: HP.blk b181 (bcells x174.1) 35 :: HP.blk b13 ([.pointer (some ⟨b9, 0, none⟩), .map (some m178), .map (some m179), .map (some m180)]) 75 :: HP.blk b9 ([.slice p176 (x174.2.2.1.1).length c176, .slice p177 (x174.2.2.1.2.1).length c177, .int .i64 (x174.2.2.1.2.2.1), .bool (x174.2.2.1.2.2.2)]) 71 :: HP.ow (rSl rByte) 33 p176 c176 x174.2.2.1.1 :: HP.ow (rPair (rInt .i64) (rSl rByte)) 88 p177 c177 x174.2.2.1.2.1 :: HP.mm (some m178) hv false (rInt .i64) (fun l => l.length = 32) x174.2.2.2.1 :: HP.mm (some m179) (Value.int .i64) true (rBytesN 32) (fun _ => True) x174.2.2.2.2.1 :: HP.mm (some m180) hv false (rInt .i64) (fun l => l.length = 32) x174.2.2.2.2.2 :: HP.sl rByte p172 c172 x169 :: HP.row b170 (o170 + (s161.2.2.2 : Int).toNat * 1) ([.slice p172 (x169).length c172]) :: HP.row 0 (0) (icells .u32 shaStart) :: HP.row 2 (0) (icells .u32 shaRounds) :: HP.sl (rSl rByte) p1 c1 x0_ :: HP.sl (rSl rByte) p2 c2 x1_ :: HP.sl (rInt .i64) p3 c3 x2_ :: HP.ow (rBytesN 32) 35 p167 c167 s161.2.2.1 :: l) := H
                 replace H : St w0 w (HP.ow (rBytesN 32) 35 (some ⟨b186, 0, none⟩) (([x174.1]).length) ([x174.1]) :: HP.blk b181 (bcells x174.1) 35 :: HP.blk b13 ([.pointer (some ⟨b9, 0, none⟩), .map (some m178), .map (some m179), .map (some m180)]) 75 :: HP.blk b9 ([.slice p176 (x174.2.2.1.1).length c176, .slice p177 (x174.2.2.1.2.1).length c177, .int .i64 (x174.2.2.1.2.2.1), .bool (x174.2.2.1.2.2.2)]) 71 :: HP.ow (rSl rByte) 33 p176 c176 x174.2.2.1.1 :: HP.ow (rPair (rInt .i64) (rSl rByte)) 88 p177 c177 x174.2.2.1.2.1 :: HP.mm (some m178) hv false (rInt .i64) (fun l => l.length = 32) x174.2.2.2.1 :: HP.mm (some m179) (Value.int .i64) true (rBytesN 32) (fun _ => True) x174.2.2.2.2.1 :: HP.mm (some m180) hv false (rInt .i64) (fun l => l.length = 32) x174.2.2.2.2.2 :: HP.sl rByte p172 c172 x169 :: HP.row b170 (o170 + (s161.2.2.2 : Int).toNat * 1) ([.slice p172 (x169).length c172]) :: HP.row 0 (0) (icells .u32 shaStart) :: HP.row 2 (0) (icells .u32 shaRounds) :: HP.sl (rSl rByte) p1 c1 x0_ :: HP.sl (rSl rByte) p2 c2 x1_ :: HP.sl (rInt .i64) p3 c3 x2_ :: HP.ow (rBytesN 32) 35 p167 c167 s161.2.2.1 :: l) := H.blkOw (R := (rBytesN 32)) 0 rfl (fun gg => ⟨[bcells x174.1], by simp, ⟨rfl, hl175⟩, trivial⟩) (by simp)
                 replace H : St w0 w (HP.sl (rBytesN 32) (some ⟨b186, 0, none⟩) (([x174.1]).length) ([x174.1]) :: HP.blk b181 (bcells x174.1) 35 :: HP.blk b13 ([.pointer (some ⟨b9, 0, none⟩), .map (some m178), .map (some m179), .map (some m180)]) 75 :: HP.blk b9 ([.slice p176 (x174.2.2.1.1).length c176, .slice p177 (x174.2.2.1.2.1).length c177, .int .i64 (x174.2.2.1.2.2.1), .bool (x174.2.2.1.2.2.2)]) 71 :: HP.ow (rSl rByte) 33 p176 c176 x174.2.2.1.1 :: HP.ow (rPair (rInt .i64) (rSl rByte)) 88 p177 c177 x174.2.2.1.2.1 :: HP.mm (some m178) hv false (rInt .i64) (fun l => l.length = 32) x174.2.2.2.1 :: HP.mm (some m179) (Value.int .i64) true (rBytesN 32) (fun _ => True) x174.2.2.2.2.1 :: HP.mm (some m180) hv false (rInt .i64) (fun l => l.length = 32) x174.2.2.2.2.2 :: HP.sl rByte p172 c172 x169 :: HP.row b170 (o170 + (s161.2.2.2 : Int).toNat * 1) ([.slice p172 (x169).length c172]) :: HP.row 0 (0) (icells .u32 shaStart) :: HP.row 2 (0) (icells .u32 shaRounds) :: HP.sl (rSl rByte) p1 c1 x0_ :: HP.sl (rSl rByte) p2 c2 x1_ :: HP.sl (rInt .i64) p3 c3 x2_ :: HP.ow (rBytesN 32) 35 p167 c167 s161.2.2.1 :: l) := H.frz 0 rfl
                 obtain ⟨x188, ex188, hn⟩ := ob hm; clear hm; revert hn; intro hm
                 refine s_app wkP F rfl rfl rfl rfl rfl rfl elem32 rfl ex188 H 16 0 rfl rfl ?_; clear F H; intro p187 c187 w a H F
                 replace H : St w0 w (HP.sl (rBytesN 32) (some ⟨b186, 0, none⟩) (([x174.1]).length) ([x174.1]) :: HP.blk b181 (bcells x174.1) 35 :: HP.blk b13 ([.pointer (some ⟨b9, 0, none⟩), .map (some m178), .map (some m179), .map (some m180)]) 75 :: HP.blk b9 ([.slice p176 (x174.2.2.1.1).length c176, .slice p177 (x174.2.2.1.2.1).length c177, .int .i64 (x174.2.2.1.2.2.1), .bool (x174.2.2.1.2.2.2)]) 71 :: HP.ow (rSl rByte) 33 p176 c176 x174.2.2.1.1 :: HP.ow (rPair (rInt .i64) (rSl rByte)) 88 p177 c177 x174.2.2.1.2.1 :: HP.mm (some m178) hv false (rInt .i64) (fun l => l.length = 32) x174.2.2.2.1 :: HP.mm (some m179) (Value.int .i64) true (rBytesN 32) (fun _ => True) x174.2.2.2.2.1 :: HP.mm (some m180) hv false (rInt .i64) (fun l => l.length = 32) x174.2.2.2.2.2 :: HP.sl rByte p172 c172 x169 :: HP.row b170 (o170 + (s161.2.2.2 : Int).toNat * 1) ([.slice p172 (x169).length c172]) :: HP.row 0 (0) (icells .u32 shaStart) :: HP.row 2 (0) (icells .u32 shaRounds) :: HP.sl (rSl rByte) p1 c1 x0_ :: HP.sl (rSl rByte) p2 c2 x1_ :: HP.sl (rInt .i64) p3 c3 x2_ :: HP.ow (rBytesN 32) 35 p187 c187 x188 :: l) := H
                 refine s_val wkP F rfl rfl rfl rfl (y_assign F rfl rfl) ?_; clear F; intro a F
                 refine wpList_nil ?_
                 refine c_blkN ?_
                 refine c_then ?_
                 refine r_lit ?_
                 refine s_val wkP F rfl rfl rfl rfl (i_add F rfl rfl rfl) ?_; clear F; intro a F
                 refine s_val wkP F rfl rfl rfl rfl (y_move F rfl rfl) ?_; clear F; intro a F
                 refine wpList_nil ?_
                 refine c_then ?_; obtain rfl := Option.some.inj hm
                 exact ⟨_, rfl, ⟨m178, m179, m180, p176, c176, p177, c177, p187, c187, F.cut _ ⟨rfl, rfl, rfl, rfl, rfl, rfl, rfl, rfl, rfl, trivial⟩, ((((((((((((((H.mv 16 rfl).mv 6 rfl).mv 6 rfl).mv 9 rfl).mv 9 rfl).mv 9 rfl).cp 16 rfl pers_sl).cp 16 rfl pers_sl).cp 16 rfl pers_sl).cp 16 rfl pers_row).cp 16 rfl pers_row).mv 14 rfl).mv 14 rfl).keep 13 9)⟩⟩
             · replace hm := ifF hg182 hm
               refine q_region (fun u => St w0 u (HP.blk b181 (bcells x174.1) 35 :: HP.blk b13 ([.pointer (some ⟨b9, 0, none⟩), .map (some m178), .map (some m179), .map (some m180)]) 75 :: HP.blk b9 ([.slice p176 (x174.2.2.1.1).length c176, .slice p177 (x174.2.2.1.2.1).length c177, .int .i64 (x174.2.2.1.2.2.1), .bool (x174.2.2.1.2.2.2)]) 71 :: HP.ow (rSl rByte) 33 p176 c176 x174.2.2.1.1 :: HP.ow (rPair (rInt .i64) (rSl rByte)) 88 p177 c177 x174.2.2.1.2.1 :: HP.mm (some m178) hv false (rInt .i64) (fun l => l.length = 32) x174.2.2.2.1 :: HP.mm (some m179) (Value.int .i64) true (rBytesN 32) (fun _ => True) x174.2.2.2.2.1 :: HP.mm (some m180) hv false (rInt .i64) (fun l => l.length = 32) x174.2.2.2.2.2 :: HP.sl rByte p172 c172 x169 :: HP.row b170 (o170 + (s161.2.2.2 : Int).toNat * 1) ([.slice p172 (x169).length c172]) :: HP.row 0 (0) (icells .u32 shaStart) :: HP.row 2 (0) (icells .u32 shaRounds) :: HP.sl (rSl rByte) p1 c1 x0_ :: HP.sl (rSl rByte) p2 c2 x1_ :: HP.sl (rInt .i64) p3 c3 x2_ :: HP.ow (rBytesN 32) 35 p167 c167 s161.2.2.1 :: l)) (by kernel_rfl) (by kernel_rfl) H.drew ?_
               refine q_val F rfl rfl rfl (fun u hu => y_move F rfl rfl) ?_; clear F; intro a F
               refine q_val F rfl rfl rfl (fun u hu => y_neq F rfl rfl rfl) ?_; clear F; intro a F
               refine q_val F rfl rfl rfl (fun u hu => y_move F rfl rfl) ?_; clear F; intro a F
               replace F := F.bool (k := 66) (u := .bool true) rfl (congrArg (fun b => Value.bool (!b)) (decide_eq_false hg182))
               refine qg_off F rfl rfl rfl rfl rfl rfl rfl ?_; clear F; intro a F
               refine qg_off F rfl rfl rfl rfl rfl rfl rfl ?_; clear F; intro a F
               refine qg_off F rfl rfl rfl rfl rfl rfl rfl ?_; clear F; intro a F
               refine qg_off F rfl rfl rfl rfl rfl rfl rfl ?_; clear F; intro a F
               refine q_val F rfl rfl rfl (fun u hu => y_pickT F rfl rfl rfl) ?_; clear F; intro a F
               refine q_nil ?_; clear H; intro w H
               refine c_then ?_
               refine x_condT F rfl ?_
               refine wp_seq ?_
               refine r_lit ?_
               refine s_val wkP F rfl rfl rfl rfl (y_assign F rfl rfl) ?_; clear F; intro a F
               refine wpList_nil ?_
               refine c_then ?_
               refine wp_ret ?_
               refine c_thenR ?_
               refine c_blkR ?_
               refine c_thenR ?_
               refine c_thenR ?_; obtain rfl := Option.some.inj hm; refine ⟨_, rfl, ?_⟩; rintro rfl
               refine c_blkR ?_
               refine c_thenR ?_
               replace hm := elimR hm100
               refine c_thenR ?_
               obtain rfl := Option.some.inj hm
               refine x_ret1 F rfl rfl ?_
               exact ⟨_, rfl, rfl, (H.keep 0 16)⟩
         · replace hm := ifF hg168 hm
           refine wp_exit ?_
           refine c_thenX ?_
           refine c_thenX ?_; obtain rfl := Option.some.inj hm; refine ⟨_, rfl, ?_⟩; rintro rfl
           refine c_hit ?_
           refine c_then ?_
           exact ⟨_, rfl, m162, m163, m164, p165, c165, p166, c166, p167, c167, F.cut _ ⟨rfl, rfl, rfl, rfl, rfl, rfl, trivial⟩, ((((((((((((((H.mv 12 rfl).mv 12 rfl).mv 12 rfl).mv 12 rfl).mv 12 rfl).mv 12 rfl).cp 12 rfl pers_sl).cp 12 rfl pers_sl).cp 12 rfl pers_sl).cp 12 rfl pers_row).cp 12 rfl pers_row).mv 12 rfl).mv 12 rfl).keep 13 5)⟩
       · skip
         clear F H hm
         rintro a w ⟨r100, rfl, m101, m102, m103, p104, c104, p105, c105, p106, c106, F, H⟩; have hm := elimL hm100; clear hm100
         refine c_then ?_
         refine wp_seq ?_
         refine r_lit ?_
         refine s_val wkP F rfl rfl rfl rfl (y_move F rfl rfl) ?_; clear F; intro a F
         obtain ⟨x189, ex189, hn⟩ := ob hm; clear hm; revert hn; intro hm
         refine s_call wkP F rfl rfl rfl rfl (y_call F rfl rfl ent13) (w_diskFlush (r100.2.1.1, r100.2.1.2.1, r100.2.1.2.2.1, r100.2.1.2.2.2) b9 p104 c104 p105 c105 w0 _ _  _ ex189 (((H.mv 11 rfl).mv 11 rfl).mv 3 rfl)) ?_; clear F H; rintro _ w a ⟨p190, c190, p191, c191, rfl, H⟩ F
         replace H : St w0 w (HP.blk b9 ([.slice p190 (x189.2.1).length c190, .slice p191 (x189.2.2.1).length c191, .int .i64 (x189.2.2.2.1), .bool (x189.2.2.2.2)]) 71 :: HP.ow (rSl rByte) 33 p190 c190 x189.2.1 :: HP.ow (rPair (rInt .i64) (rSl rByte)) 88 p191 c191 x189.2.2.1 :: HP.blk b13 ([.pointer (some ⟨b9, 0, none⟩), .map (some m101), .map (some m102), .map (some m103)]) 75 :: HP.row 0 (0) (icells .u32 shaStart) :: HP.row 2 (0) (icells .u32 shaRounds) :: HP.sl (rSl rByte) p1 c1 x0_ :: HP.sl (rSl rByte) p2 c2 x1_ :: HP.sl (rInt .i64) p3 c3 x2_ :: HP.mm (some m101) hv false (rInt .i64) (fun l => l.length = 32) r100.1.1 :: HP.mm (some m102) (Value.int .i64) true (rBytesN 32) (fun _ => True) r100.1.2.1 :: HP.mm (some m103) hv false (rInt .i64) (fun l => l.length = 32) r100.1.2.2 :: HP.ow (rBytesN 32) 35 p106 c106 r100.2.2 :: l) := H
         refine wpList_nil ?_
         refine c_then ?_
         refine wp_seq ?_
         refine r_lit ?_
         refine s_val wkP F rfl rfl rfl rfl (y_move F rfl rfl) ?_; clear F; intro a F
         refine s_val wkP F rfl rfl rfl rfl (y_move F rfl rfl) ?_; clear F; intro a F
         replace H : St w0 w (HP.sl (rBytesN 32) p106 c106 r100.2.2 :: HP.blk b9 ([.slice p190 (x189.2.1).length c190, .slice p191 (x189.2.2.1).length c191, .int .i64 (x189.2.2.2.1), .bool (x189.2.2.2.2)]) 71 :: HP.ow (rSl rByte) 33 p190 c190 x189.2.1 :: HP.ow (rPair (rInt .i64) (rSl rByte)) 88 p191 c191 x189.2.2.1 :: HP.blk b13 ([.pointer (some ⟨b9, 0, none⟩), .map (some m101), .map (some m102), .map (some m103)]) 75 :: HP.row 0 (0) (icells .u32 shaStart) :: HP.row 2 (0) (icells .u32 shaRounds) :: HP.sl (rSl rByte) p1 c1 x0_ :: HP.sl (rSl rByte) p2 c2 x1_ :: HP.sl (rInt .i64) p3 c3 x2_ :: HP.mm (some m101) hv false (rInt .i64) (fun l => l.length = 32) r100.1.1 :: HP.mm (some m102) (Value.int .i64) true (rBytesN 32) (fun _ => True) r100.1.2.1 :: HP.mm (some m103) hv false (rInt .i64) (fun l => l.length = 32) r100.1.2.2 :: l) := H.frz 12 rfl
         obtain ⟨x192, ex192, hn⟩ := ob hm; clear hm; revert hn; intro hm
         refine s_call wkP F rfl rfl rfl rfl (y_call F rfl rfl ent14) (w_stHold ((x189.2.1, x189.2.2.1, x189.2.2.2.1, x189.2.2.2.2), r100.1.1, r100.1.2.1, r100.1.2.2) r100.2.2 b13 b9 p190 c190 p191 c191 m101 m102 m103 p106 c106 w0 _ _  _ ex192 ((((((((H.cp 0 rfl pers_sl).mv 13 rfl).mv 13 rfl).mv 13 rfl).mv 7 rfl).mv 7 rfl).mv 7 rfl).mv 8 rfl)) ?_; clear F H; rintro _ w a ⟨p193, c193, p194, c194, m195, m196, m197, rfl, H⟩ F
         replace H : St w0 w (HP.blk b13 ([.pointer (some ⟨b9, 0, none⟩), .map (some m195), .map (some m196), .map (some m197)]) 75 :: HP.blk b9 ([.slice p193 (x192.1.1).length c193, .slice p194 (x192.1.2.1).length c194, .int .i64 (x192.1.2.2.1), .bool (x192.1.2.2.2)]) 71 :: HP.ow (rSl rByte) 33 p193 c193 x192.1.1 :: HP.ow (rPair (rInt .i64) (rSl rByte)) 88 p194 c194 x192.1.2.1 :: HP.mm (some m195) hv false (rInt .i64) (fun l => l.length = 32) x192.2.1 :: HP.mm (some m196) (Value.int .i64) true (rBytesN 32) (fun _ => True) x192.2.2.1 :: HP.mm (some m197) hv false (rInt .i64) (fun l => l.length = 32) x192.2.2.2 :: HP.sl (rBytesN 32) p106 c106 r100.2.2 :: HP.row 0 (0) (icells .u32 shaStart) :: HP.row 2 (0) (icells .u32 shaRounds) :: HP.sl (rSl rByte) p1 c1 x0_ :: HP.sl (rSl rByte) p2 c2 x1_ :: HP.sl (rInt .i64) p3 c3 x2_ :: l) := H
         refine wpList_nil ?_
         refine c_then ?_
         refine wp_seq ?_
         refine wp_seq ?_
         refine r_lit ?_
         refine s_val wkP F rfl rfl rfl rfl (y_move F rfl rfl) ?_; clear F; intro a F
         refine s_val wkP F rfl rfl rfl rfl (y_lenS F rfl Tryd.underlying22 rfl) ?_; clear F; intro a F
         refine s_val wkP F rfl rfl rfl rfl (y_move F rfl rfl) ?_; clear F; intro a F
         refine wpList_nil ?_
         refine c_then ?_
         obtain ⟨r250, er250, hm250⟩ := ob hm; clear hm; revert er250; intro hm
         refine x_mid (fun aa ww => ∃ (m251 : Nat) (m252 : Nat) (m253 : Nat) (p254 : Option Addr) (c254 : Nat) (p255 : Option Addr) (c255 : Nat), Fr ⟨140, []⟩ aa [(0, .slice p1 (x0_).length c1), (2, .slice p3 (x2_).length c3), (7, .pointer (some ⟨b9, 0, none⟩)), (11, .slice p106 (r100.2.2).length c106)] ∧ St w0 ww (HP.blk b13 ([.pointer (some ⟨b9, 0, none⟩), .map (some m251), .map (some m252), .map (some m253)]) 75 :: HP.blk b9 ([.slice p254 (r250.2.1).length c254, .slice p255 (r250.2.2.1).length c255, .int .i64 (r250.2.2.2.1), .bool (r250.2.2.2.2)]) 71 :: HP.sl (rBytesN 32) p106 c106 r100.2.2 :: HP.row 0 (0) (icells .u32 shaStart) :: HP.row 2 (0) (icells .u32 shaRounds) :: HP.sl (rSl rByte) p1 c1 x0_ :: HP.sl (rInt .i64) p3 c3 x2_ :: HP.mm (some m251) hv false (rInt .i64) (fun l => l.length = 32) r250.1.1 :: HP.mm (some m252) (Value.int .i64) true (rBytesN 32) (fun _ => True) r250.1.2.1 :: HP.mm (some m253) hv false (rInt .i64) (fun l => l.length = 32) r250.1.2.2 :: HP.ow (rSl rByte) 33 p254 c254 r250.2.1 :: HP.ow (rPair (rInt .i64) (rSl rByte)) 88 p255 c255 r250.2.2.1 :: l)) ?_ ?_
         · skip
           refine wp_block ?_
           refine x_loopO _ (fun (s290 : (((List UInt8) → Option Int) × (Int → Option (List UInt8)) × ((List UInt8) → Option Int)) × ((List (List UInt8)) × (List (Int × (List UInt8))) × Int × Bool) × Int) aa ww => ∃ (m291 : Nat) (m292 : Nat) (m293 : Nat) (p294 : Option Addr) (c294 : Nat) (p295 : Option Addr) (c295 : Nat), Fr ⟨140, []⟩ aa [(0, .slice p1 (x0_).length c1), (2, .slice p3 (x2_).length c3), (7, .pointer (some ⟨b9, 0, none⟩)), (9, .pointer (some ⟨b13, 0, none⟩)), (11, .slice p106 (r100.2.2).length c106), (82, .slice p2 (x1_).length c2), (83, .int .i64 (((x1_).length : Int))), (84, .int .i64 (s290.2.2))] ∧ St w0 ww (HP.blk b13 ([.pointer (some ⟨b9, 0, none⟩), .map (some m291), .map (some m292), .map (some m293)]) 75 :: HP.blk b9 ([.slice p294 (s290.2.1.1).length c294, .slice p295 (s290.2.1.2.1).length c295, .int .i64 (s290.2.1.2.2.1), .bool (s290.2.1.2.2.2)]) 71 :: HP.sl (rBytesN 32) p106 c106 r100.2.2 :: HP.row 0 (0) (icells .u32 shaStart) :: HP.row 2 (0) (icells .u32 shaRounds) :: HP.sl (rSl rByte) p1 c1 x0_ :: HP.sl (rSl rByte) p2 c2 x1_ :: HP.sl (rInt .i64) p3 c3 x2_ :: HP.mm (some m291) hv false (rInt .i64) (fun l => l.length = 32) s290.1.1 :: HP.mm (some m292) (Value.int .i64) true (rBytesN 32) (fun _ => True) s290.1.2.1 :: HP.mm (some m293) hv false (rInt .i64) (fun l => l.length = 32) s290.1.2.2 :: HP.ow (rSl rByte) 33 p294 c294 s290.2.1.1 :: HP.ow (rPair (rInt .i64) (rSl rByte)) 88 p295 c295 s290.2.1.2.1 :: l)) hm ⟨m195, m196, m197, p193, c193, p194, c194, F.cut _ ⟨rfl, rfl, rfl, rfl, rfl, rfl, rfl, rfl, trivial⟩, ((((((((((((((H.mv 3 rfl).mv 3 rfl).mv 6 rfl).mv 6 rfl).mv 6 rfl).cp 12 rfl pers_sl).cp 12 rfl pers_sl).cp 12 rfl pers_sl).cp 12 rfl pers_row).cp 12 rfl pers_row).cp 12 rfl pers_sl).mv 12 rfl).mv 12 rfl).keep 13 6)⟩ ?_
           clear F H hm
           rintro s290 a w o ⟨m291, m292, m293, p294, c294, p295, c295, F, H⟩ hm
           refine wp_seq ?_
           refine r_lit ?_
           refine s_val wkP F rfl rfl rfl rfl (y_lss F rfl rfl rfl) ?_; clear F; intro a F
           refine wpList_nil ?_
           refine c_then ?_
           refine wp_seq ?_
           refine x_condP F rfl (fun hg296 => ?_) (fun hg296 => ?_)
           · replace hm := ifT hg296 hm
             refine wp_skip ?_
             refine c_then ?_
             refine wp_seq ?_
             refine wp_block ?_
             refine wp_seq ?_
             refine r_lit ?_
             obtain ⟨x297, ex297, hn⟩ := ob hm; clear hm; revert hn; intro hm
             obtain ⟨b298, o298, hp298⟩ := H.slP 6 rfl (idxO_some ex297).2
             obtain ⟨cs299, hcl299, H⟩ := H.slEl 6 rfl hp298 (idxO_some ex297).2
             obtain ⟨p300, c300, rfl, H⟩ := H.rcSl 1 rfl
             replace H := H.dp 2 rfl
             clear hcl299
             refine s_val wkP F rfl rfl rfl rfl (y_idxS F elem22 rfl rfl rfl hp298 ex297) ?_; clear F; intro a F
             refine s_val wkP F rfl rfl rfl rfl (y_load1 F plain33 rfl rfl ((H.rowAt 1 rfl) 0 _ rfl)) ?_; clear F; intro a F
             refine s_val wkP F rfl rfl rfl rfl (y_assign F rfl rfl) ?_; clear F; intro a F
             refine wpList_nil ?_
             refine c_then ?_
             refine r_lit ?_
             refine s_val wkP F rfl rfl rfl rfl (y_move F rfl rfl) ?_; clear F; intro a F
             refine s_val wkP F rfl rfl rfl rfl (y_move F rfl rfl) ?_; clear F; intro a F
             obtain ⟨x301, ex301, hn⟩ := ob hm; clear hm; revert hn; intro hm
             refine s_call wkP F rfl rfl rfl rfl (y_call F rfl rfl ent11) (w_stPut ((s290.2.1.1, s290.2.1.2.1, s290.2.1.2.2.1, s290.2.1.2.2.2), s290.1.1, s290.1.2.1, s290.1.2.2) x297 b13 b9 p294 c294 p295 c295 m291 m292 m293 p300 c300 w0 _ _  _ ex301 ((((((((((H.cp 0 rfl pers_sl).mv 13 rfl).mv 13 rfl).mv 13 rfl).mv 15 rfl).mv 15 rfl).mv 9 rfl).mv 9 rfl).cp 12 rfl pers_row).cp 12 rfl pers_row)) ?_; clear F H; rintro _ w a ⟨p303, c303, p304, c304, m305, m306, m307, rfl, hl302, H⟩ F
             replace H : St w0 w (HP.blk b13 ([.pointer (some ⟨b9, 0, none⟩), .map (some m305), .map (some m306), .map (some m307)]) 75 :: HP.blk b9 ([.slice p303 (x301.2.2.1.1).length c303, .slice p304 (x301.2.2.1.2.1).length c304, .int .i64 (x301.2.2.1.2.2.1), .bool (x301.2.2.1.2.2.2)]) 71 :: HP.ow (rSl rByte) 33 p303 c303 x301.2.2.1.1 :: HP.ow (rPair (rInt .i64) (rSl rByte)) 88 p304 c304 x301.2.2.1.2.1 :: HP.mm (some m305) hv false (rInt .i64) (fun l => l.length = 32) x301.2.2.2.1 :: HP.mm (some m306) (Value.int .i64) true (rBytesN 32) (fun _ => True) x301.2.2.2.2.1 :: HP.mm (some m307) hv false (rInt .i64) (fun l => l.length = 32) x301.2.2.2.2.2 :: HP.sl rByte p300 c300 x297 :: HP.row b298 (o298 + (s290.2.2 : Int).toNat * 1) ([.slice p300 (x297).length c300]) :: HP.sl (rBytesN 32) p106 c106 r100.2.2 :: HP.row 0 (0) (icells .u32 shaStart) :: HP.row 2 (0) (icells .u32 shaRounds) :: HP.sl (rSl rByte) p1 c1 x0_ :: HP.sl (rSl rByte) p2 c2 x1_ :: HP.sl (rInt .i64) p3 c3 x2_ :: l) := H
             refine wpList_nil ?_
             refine c_blkN ?_
             refine c_then ?_
             refine r_lit ?_
             refine s_val wkP F rfl rfl rfl rfl (i_add F rfl rfl rfl) ?_; clear F; intro a F
             refine s_val wkP F rfl rfl rfl rfl (y_move F rfl rfl) ?_; clear F; intro a F
             refine wpList_nil ?_
             refine c_then ?_; obtain rfl := Option.some.inj hm
             exact ⟨_, rfl, ⟨m305, m306, m307, p303, c303, p304, c304, F.cut _ ⟨rfl, rfl, rfl, rfl, rfl, rfl, rfl, rfl, trivial⟩, ((((((((((((((H.mv 3 rfl).mv 3 rfl).mv 6 rfl).mv 6 rfl).mv 6 rfl).cp 14 rfl pers_sl).cp 14 rfl pers_sl).cp 14 rfl pers_sl).cp 14 rfl pers_row).cp 14 rfl pers_row).cp 14 rfl pers_sl).mv 12 rfl).mv 12 rfl).keep 13 8)⟩⟩
           · replace hm := ifF hg296 hm
             refine wp_exit ?_
             refine c_thenX ?_
             refine c_thenX ?_; obtain rfl := Option.some.inj hm; refine ⟨_, rfl, ?_⟩; rintro rfl
             refine c_hit ?_
             refine c_then ?_
             exact ⟨m291, m292, m293, p294, c294, p295, c295, F.cut _ ⟨rfl, rfl, rfl, rfl, trivial⟩, (((((((((((((H.mv 12 rfl).mv 12 rfl).mv 12 rfl).mv 12 rfl).mv 12 rfl).cp 12 rfl pers_sl).cp 11 rfl pers_sl).cp 11 rfl pers_row).cp 11 rfl pers_row).cp 11 rfl pers_sl).mv 11 rfl).mv 11 rfl).keep 12 6)⟩
         · skip
           clear F H hm
           rintro a w ⟨m251, m252, m253, p254, c254, p255, c255, F, H⟩; have hm := hm250; clear hm250
           refine c_then ?_
           refine wp_seq ?_
           refine r_lit ?_
           refine s_val wkP F rfl rfl rfl rfl (y_move F rfl rfl) ?_; clear F; intro a F
           refine s_val wkP F rfl rfl rfl rfl (y_move F rfl rfl) ?_; clear F; intro a F
           obtain ⟨x308, ex308, hn⟩ := ob hm; clear hm; revert hn; intro hm
           refine s_call wkP F rfl rfl rfl rfl (y_call F rfl rfl ent15) (w_diskCrash (r250.2.1, r250.2.2.1, r250.2.2.2.1, r250.2.2.2.2) x2_ b9 p254 c254 p255 c255 p3 c3 w0 _ _  _ ex308 ((((H.cp 6 rfl pers_sl).mv 12 rfl).mv 12 rfl).mv 4 rfl)) ?_; clear F H; rintro _ w a ⟨b309, p310, c310, p311, c311, rfl, H⟩ F
           replace H : St w0 w (HP.blk b309 ([.slice p310 (x308.1).length c310, .slice p311 (x308.2.1).length c311, .int .i64 (x308.2.2.1), .bool (x308.2.2.2)]) 71 :: HP.ow (rSl rByte) 33 p310 c310 x308.1 :: HP.ow (rPair (rInt .i64) (rSl rByte)) 88 p311 c311 x308.2.1 :: HP.blk b9 ([.slice p254 (r250.2.1).length c254, .slice p255 (r250.2.2.1).length c255, .int .i64 (r250.2.2.2.1), .bool (r250.2.2.2.2)]) 71 :: HP.ow (rSl rByte) 33 p254 c254 r250.2.1 :: HP.ow (rPair (rInt .i64) (rSl rByte)) 88 p255 c255 r250.2.2.1 :: HP.blk b13 ([.pointer (some ⟨b9, 0, none⟩), .map (some m251), .map (some m252), .map (some m253)]) 75 :: HP.sl (rBytesN 32) p106 c106 r100.2.2 :: HP.row 0 (0) (icells .u32 shaStart) :: HP.row 2 (0) (icells .u32 shaRounds) :: HP.sl (rSl rByte) p1 c1 x0_ :: HP.sl (rInt .i64) p3 c3 x2_ :: HP.mm (some m251) hv false (rInt .i64) (fun l => l.length = 32) r250.1.1 :: HP.mm (some m252) (Value.int .i64) true (rBytesN 32) (fun _ => True) r250.1.2.1 :: HP.mm (some m253) hv false (rInt .i64) (fun l => l.length = 32) r250.1.2.2 :: l) := H
           refine s_val wkP F rfl rfl rfl rfl (y_assign F rfl rfl) ?_; clear F; intro a F
           refine wpList_nil ?_
           refine c_then ?_
           refine wp_seq ?_
           refine wp_seq ?_
           refine r_lit ?_
           refine s_val wkP F rfl rfl rfl rfl (y_move F rfl rfl) ?_; clear F; intro a F
           refine s_val wkP F rfl rfl rfl rfl (y_eqlPN F rfl rfl rfl Tryd.underlying25) ?_; clear F; intro a F
           refine wpList_nil ?_
           refine c_then ?_
           refine x_condF F rfl ?_
           refine wp_skip ?_
           refine c_then ?_
           refine wp_seq ?_
           refine r_lit ?_
           refine s_val wkP F rfl rfl rfl rfl (y_move F rfl rfl) ?_; clear F; intro a F
           obtain ⟨x312, ex312, hn⟩ := ob hm; clear hm; revert hn; intro hm
           refine s_call wkP F rfl rfl rfl rfl (y_call F rfl rfl ent10) (w_stOpen (x308.1, x308.2.1, x308.2.2.1, x308.2.2.2) b309 p310 c310 p311 c311 w0 _ _  _ ex312 (((((H.mv 2 rfl).mv 2 rfl).mv 2 rfl).cp 9 rfl pers_row).cp 9 rfl pers_row)) ?_; clear F H; rintro _ w a ⟨b313, m314, m315, m316, rfl, H⟩ F
           replace H : St w0 w (HP.blk b313 ([.pointer (some ⟨b309, 0, none⟩), .map (some m314), .map (some m315), .map (some m316)]) 75 :: HP.mm (some m314) hv false (rInt .i64) (fun l => l.length = 32) x312.1.1 :: HP.mm (some m315) (Value.int .i64) true (rBytesN 32) (fun _ => True) x312.1.2.1 :: HP.mm (some m316) hv false (rInt .i64) (fun l => l.length = 32) x312.1.2.2 :: HP.blk b309 ([.slice p310 (x308.1).length c310, .slice p311 (x308.2.1).length c311, .int .i64 (x308.2.2.1), .bool (x308.2.2.2)]) 71 :: HP.ow (rSl rByte) 33 p310 c310 x308.1 :: HP.ow (rPair (rInt .i64) (rSl rByte)) 88 p311 c311 x308.2.1 :: HP.blk b9 ([.slice p254 (r250.2.1).length c254, .slice p255 (r250.2.2.1).length c255, .int .i64 (r250.2.2.2.1), .bool (r250.2.2.2.2)]) 71 :: HP.ow (rSl rByte) 33 p254 c254 r250.2.1 :: HP.ow (rPair (rInt .i64) (rSl rByte)) 88 p255 c255 r250.2.2.1 :: HP.blk b13 ([.pointer (some ⟨b9, 0, none⟩), .map (some m251), .map (some m252), .map (some m253)]) 75 :: HP.sl (rBytesN 32) p106 c106 r100.2.2 :: HP.row 0 (0) (icells .u32 shaStart) :: HP.row 2 (0) (icells .u32 shaRounds) :: HP.sl (rSl rByte) p1 c1 x0_ :: HP.sl (rInt .i64) p3 c3 x2_ :: HP.mm (some m251) hv false (rInt .i64) (fun l => l.length = 32) r250.1.1 :: HP.mm (some m252) (Value.int .i64) true (rBytesN 32) (fun _ => True) r250.1.2.1 :: HP.mm (some m253) hv false (rInt .i64) (fun l => l.length = 32) r250.1.2.2 :: l) := H
           refine s_val wkP F rfl rfl rfl rfl (y_move F rfl rfl) ?_; clear F; intro a F
           refine s_val wkP F rfl rfl rfl rfl (y_extract F rfl rfl rfl) ?_; clear F; intro a F
           refine s_val wkP F rfl rfl rfl rfl (y_extract F rfl rfl rfl) ?_; clear F; intro a F
           refine s_val wkP F rfl rfl rfl rfl (y_assign F rfl rfl) ?_; clear F; intro a F
           refine s_val wkP F rfl rfl rfl rfl (y_assign F rfl rfl) ?_; clear F; intro a F
           refine wpList_nil ?_
           refine c_then ?_
           refine wp_seq ?_
           refine wp_seq ?_
           refine r_lit ?_
           refine s_val wkP F rfl rfl rfl rfl (y_move F rfl rfl) ?_; clear F; intro a F
           refine s_val wkP F rfl rfl rfl rfl (y_eqlPN F rfl rfl rfl Tryd.underlying29) ?_; clear F; intro a F
           refine s_val wkP F rfl rfl rfl rfl (y_move F rfl rfl) ?_; clear F; intro a F
           refine g_onP F rfl rfl rfl rfl ?_
           refine s_val wkP F rfl rfl rfl rfl (y_move F rfl rfl) ?_; clear F; intro a F
           refine g_onP F rfl rfl rfl rfl ?_
           refine s_val wkP F rfl rfl rfl rfl (y_neq F rfl rfl rfl) ?_; clear F; intro a F
           refine s_val wkP F rfl rfl rfl rfl (y_pickF F rfl rfl rfl) ?_; clear F; intro a F
           refine wpList_nil ?_
           refine c_then ?_
           refine x_condN F rfl (fun hg317 => ?_) (fun hg317 => ?_)
           · replace hm := ifF hg317 hm
             refine wp_seq ?_
             refine r_lit ?_
             refine s_val wkP F rfl rfl rfl rfl (y_assign F rfl rfl) ?_; clear F; intro a F
             refine wpList_nil ?_
             refine c_then ?_
             refine wp_ret ?_
             refine c_thenR ?_
             obtain rfl := Option.some.inj hm
             refine x_ret1 F rfl rfl ?_
             exact ⟨_, rfl, rfl, (H.keep 0 19)⟩
           · replace hm := ifT hg317 hm
             refine wp_skip ?_
             refine c_then ?_
             refine wp_seq ?_
             refine wp_seq ?_
             refine r_lit ?_
             refine s_val wkP F rfl rfl rfl rfl (y_move F rfl rfl) ?_; clear F; intro a F
             refine s_val wkP F rfl rfl rfl rfl (y_lenS F rfl Tryd.underlying32 rfl) ?_; clear F; intro a F
             refine s_val wkP F rfl rfl rfl rfl (y_move F rfl rfl) ?_; clear F; intro a F
             refine wpList_nil ?_
             refine c_then ?_
             obtain ⟨o370, eo370, hm370⟩ := ob hm; clear hm; revert eo370; intro hm
             refine x_mid (fun aa ww => ∃ r370, o370 = Sum.inl r370 ∧ Fr ⟨140, []⟩ aa [] ∧ St w0 ww (HP.blk b313 ([.pointer (some ⟨b309, 0, none⟩), .map (some m314), .map (some m315), .map (some m316)]) 75 :: HP.mm (some m314) hv false (rInt .i64) (fun l => l.length = 32) x312.1.1 :: HP.mm (some m315) (Value.int .i64) true (rBytesN 32) (fun _ => True) x312.1.2.1 :: HP.mm (some m316) hv false (rInt .i64) (fun l => l.length = 32) x312.1.2.2 :: HP.blk b309 ([.slice p310 (x308.1).length c310, .slice p311 (x308.2.1).length c311, .int .i64 (x308.2.2.1), .bool (x308.2.2.2)]) 71 :: HP.ow (rSl rByte) 33 p310 c310 x308.1 :: HP.ow (rPair (rInt .i64) (rSl rByte)) 88 p311 c311 x308.2.1 :: HP.blk b9 ([.slice p254 (r250.2.1).length c254, .slice p255 (r250.2.2.1).length c255, .int .i64 (r250.2.2.2.1), .bool (r250.2.2.2.2)]) 71 :: HP.ow (rSl rByte) 33 p254 c254 r250.2.1 :: HP.ow (rPair (rInt .i64) (rSl rByte)) 88 p255 c255 r250.2.2.1 :: HP.blk b13 ([.pointer (some ⟨b9, 0, none⟩), .map (some m251), .map (some m252), .map (some m253)]) 75 :: HP.row 0 (0) (icells .u32 shaStart) :: HP.row 2 (0) (icells .u32 shaRounds) :: HP.mm (some m251) hv false (rInt .i64) (fun l => l.length = 32) r250.1.1 :: HP.mm (some m252) (Value.int .i64) true (rBytesN 32) (fun _ => True) r250.1.2.1 :: HP.mm (some m253) hv false (rInt .i64) (fun l => l.length = 32) r250.1.2.2 :: l)) ?_ ?_
             · skip
               refine wp_block ?_
               refine x_loopO _ (fun (s405 : Int) aa ww => Fr ⟨140, []⟩ aa [(0, .slice p1 (x0_).length c1), (19, .pointer (some ⟨b313, 0, none⟩)), (108, .slice p106 (r100.2.2).length c106), (109, .int .i64 (((r100.2.2).length : Int))), (110, .int .i64 (s405))] ∧ St w0 ww (HP.blk b313 ([.pointer (some ⟨b309, 0, none⟩), .map (some m314), .map (some m315), .map (some m316)]) 75 :: HP.mm (some m314) hv false (rInt .i64) (fun l => l.length = 32) x312.1.1 :: HP.mm (some m315) (Value.int .i64) true (rBytesN 32) (fun _ => True) x312.1.2.1 :: HP.mm (some m316) hv false (rInt .i64) (fun l => l.length = 32) x312.1.2.2 :: HP.blk b309 ([.slice p310 (x308.1).length c310, .slice p311 (x308.2.1).length c311, .int .i64 (x308.2.2.1), .bool (x308.2.2.2)]) 71 :: HP.ow (rSl rByte) 33 p310 c310 x308.1 :: HP.ow (rPair (rInt .i64) (rSl rByte)) 88 p311 c311 x308.2.1 :: HP.blk b9 ([.slice p254 (r250.2.1).length c254, .slice p255 (r250.2.2.1).length c255, .int .i64 (r250.2.2.2.1), .bool (r250.2.2.2.2)]) 71 :: HP.ow (rSl rByte) 33 p254 c254 r250.2.1 :: HP.ow (rPair (rInt .i64) (rSl rByte)) 88 p255 c255 r250.2.2.1 :: HP.blk b13 ([.pointer (some ⟨b9, 0, none⟩), .map (some m251), .map (some m252), .map (some m253)]) 75 :: HP.sl (rBytesN 32) p106 c106 r100.2.2 :: HP.row 0 (0) (icells .u32 shaStart) :: HP.row 2 (0) (icells .u32 shaRounds) :: HP.sl (rSl rByte) p1 c1 x0_ :: HP.mm (some m251) hv false (rInt .i64) (fun l => l.length = 32) r250.1.1 :: HP.mm (some m252) (Value.int .i64) true (rBytesN 32) (fun _ => True) r250.1.2.1 :: HP.mm (some m253) hv false (rInt .i64) (fun l => l.length = 32) r250.1.2.2 :: l)) hm ⟨F.cut _ ⟨rfl, rfl, rfl, rfl, rfl, trivial⟩, (((((((((((((((((((H.mv 18 rfl).mv 18 rfl).mv 18 rfl).cp 17 rfl pers_sl).cp 17 rfl pers_row).cp 17 rfl pers_row).cp 17 rfl pers_sl).mv 17 rfl).mv 17 rfl).mv 17 rfl).mv 17 rfl).mv 17 rfl).mv 17 rfl).mv 17 rfl).mv 17 rfl).mv 17 rfl).mv 17 rfl).mv 17 rfl).keep 18 5)⟩ ?_
               clear F H hm
               rintro s405 a w o ⟨F, H⟩ hm
               refine wp_seq ?_
               refine r_lit ?_
               refine s_val wkP F rfl rfl rfl rfl (y_lss F rfl rfl rfl) ?_; clear F; intro a F
               refine wpList_nil ?_
               refine c_then ?_
               refine wp_seq ?_
               refine x_condP F rfl (fun hg406 => ?_) (fun hg406 => ?_)
               · replace hm := ifT hg406 hm
                 refine wp_skip ?_
                 refine c_then ?_
                 refine wp_seq ?_
                 refine wp_block ?_
                 refine wp_seq ?_
                 refine r_lit ?_
                 refine s_val wkP F rfl rfl rfl rfl (y_move F rfl rfl) ?_; clear F; intro a F
                 obtain ⟨x407, ex407, hn⟩ := ob hm; clear hm; revert hn; intro hm
                 obtain ⟨b408, o408, hp408⟩ := H.slP 11 rfl (idxO_some ex407).2
                 obtain ⟨cs409, hcl409, H⟩ := H.slEl 11 rfl hp408 (idxO_some ex407).2
                 obtain ⟨rfl, hl410⟩ := H.rcBN 1 rfl
                 replace H := H.dp 1 rfl
                 clear hcl409
                 refine s_val wkP F rfl rfl rfl rfl (y_idxS F elem32 rfl rfl rfl hp408 ex407) ?_; clear F; intro a F
                 refine s_val wkP F rfl rfl rfl rfl (y_loadA F agg35 rfl rfl (H.rowAt 0 rfl) ((bcells_length _).trans hl410)) ?_; clear F; intro a F
                 refine s_allocA wkP F rfl rfl rfl agz35 rfl H ?_; clear F H; intro b411 w a H F
                 replace H : St w0 w (HP.blk b411 (bcells (List.replicate 32 0)) 35 :: HP.row b408 (o408 + (s405 : Int).toNat * 32) (bcells x407) :: HP.blk b313 ([.pointer (some ⟨b309, 0, none⟩), .map (some m314), .map (some m315), .map (some m316)]) 75 :: HP.mm (some m314) hv false (rInt .i64) (fun l => l.length = 32) x312.1.1 :: HP.mm (some m315) (Value.int .i64) true (rBytesN 32) (fun _ => True) x312.1.2.1 :: HP.mm (some m316) hv false (rInt .i64) (fun l => l.length = 32) x312.1.2.2 :: HP.blk b309 ([.slice p310 (x308.1).length c310, .slice p311 (x308.2.1).length c311, .int .i64 (x308.2.2.1), .bool (x308.2.2.2)]) 71 :: HP.ow (rSl rByte) 33 p310 c310 x308.1 :: HP.ow (rPair (rInt .i64) (rSl rByte)) 88 p311 c311 x308.2.1 :: HP.blk b9 ([.slice p254 (r250.2.1).length c254, .slice p255 (r250.2.2.1).length c255, .int .i64 (r250.2.2.2.1), .bool (r250.2.2.2.2)]) 71 :: HP.ow (rSl rByte) 33 p254 c254 r250.2.1 :: HP.ow (rPair (rInt .i64) (rSl rByte)) 88 p255 c255 r250.2.2.1 :: HP.blk b13 ([.pointer (some ⟨b9, 0, none⟩), .map (some m251), .map (some m252), .map (some m253)]) 75 :: HP.sl (rBytesN 32) p106 c106 r100.2.2 :: HP.row 0 (0) (icells .u32 shaStart) :: HP.row 2 (0) (icells .u32 shaRounds) :: HP.sl (rSl rByte) p1 c1 x0_ :: HP.mm (some m251) hv false (rInt .i64) (fun l => l.length = 32) r250.1.1 :: HP.mm (some m252) (Value.int .i64) true (rBytesN 32) (fun _ => True) r250.1.2.1 :: HP.mm (some m253) hv false (rInt .i64) (fun l => l.length = 32) r250.1.2.2 :: l) := H
                 refine s_val wkP F rfl rfl rfl rfl (y_assign F rfl rfl) ?_; clear F; intro a F
                 refine s_storeA wkP F rfl rfl agg35 rfl rfl rfl H 0 rfl ((bcells_length _).trans hl410) ((bcells_length _).trans (List.length_replicate (n := 32))) (bcells_flat _) ?_; clear H; intro w H
                 replace H : St w0 w (HP.blk b411 (bcells x407) 35 :: HP.row b408 (o408 + (s405 : Int).toNat * 32) (bcells x407) :: HP.blk b313 ([.pointer (some ⟨b309, 0, none⟩), .map (some m314), .map (some m315), .map (some m316)]) 75 :: HP.mm (some m314) hv false (rInt .i64) (fun l => l.length = 32) x312.1.1 :: HP.mm (some m315) (Value.int .i64) true (rBytesN 32) (fun _ => True) x312.1.2.1 :: HP.mm (some m316) hv false (rInt .i64) (fun l => l.length = 32) x312.1.2.2 :: HP.blk b309 ([.slice p310 (x308.1).length c310, .slice p311 (x308.2.1).length c311, .int .i64 (x308.2.2.1), .bool (x308.2.2.2)]) 71 :: HP.ow (rSl rByte) 33 p310 c310 x308.1 :: HP.ow (rPair (rInt .i64) (rSl rByte)) 88 p311 c311 x308.2.1 :: HP.blk b9 ([.slice p254 (r250.2.1).length c254, .slice p255 (r250.2.2.1).length c255, .int .i64 (r250.2.2.2.1), .bool (r250.2.2.2.2)]) 71 :: HP.ow (rSl rByte) 33 p254 c254 r250.2.1 :: HP.ow (rPair (rInt .i64) (rSl rByte)) 88 p255 c255 r250.2.2.1 :: HP.blk b13 ([.pointer (some ⟨b9, 0, none⟩), .map (some m251), .map (some m252), .map (some m253)]) 75 :: HP.sl (rBytesN 32) p106 c106 r100.2.2 :: HP.row 0 (0) (icells .u32 shaStart) :: HP.row 2 (0) (icells .u32 shaRounds) :: HP.sl (rSl rByte) p1 c1 x0_ :: HP.mm (some m251) hv false (rInt .i64) (fun l => l.length = 32) r250.1.1 :: HP.mm (some m252) (Value.int .i64) true (rBytesN 32) (fun _ => True) r250.1.2.1 :: HP.mm (some m253) hv false (rInt .i64) (fun l => l.length = 32) r250.1.2.2 :: l) := H
                 refine wpList_nil ?_
                 refine c_then ?_
                 refine wp_seq ?_
                 refine r_lit ?_
                 refine s_val wkP F rfl rfl rfl rfl (y_move F rfl rfl) ?_; clear F; intro a F
                 refine s_val wkP F rfl rfl rfl rfl (y_loadA F agg35 rfl rfl ((H.blk 0 rfl).row) ((bcells_length _).trans hl410)) ?_; clear F; intro a F
                 obtain ⟨x412, ex412, hn⟩ := ob hm; clear hm; revert hn; intro hm
                 refine s_call wkP F rfl rfl rfl rfl (y_call F rfl rfl ent16) (w_stGet ((x308.1, x308.2.1, x308.2.2.1, x308.2.2.2), x312.1.1, x312.1.2.1, x312.1.2.2) x407 b313 b309 p310 c310 p311 c311 m314 m315 m316 w0 _ _ hl410 _ ex412 (((((((((H.mv 5 rfl).mv 5 rfl).mv 5 rfl).mv 8 rfl).mv 8 rfl).mv 8 rfl).mv 8 rfl).cp 15 rfl pers_row).cp 15 rfl pers_row)) ?_; clear F H; rintro _ w a ⟨p413, c413, rfl, H⟩ F
                 replace H : St w0 w (HP.sl rByte p413 c413 x412.1 :: HP.blk b313 ([.pointer (some ⟨b309, 0, none⟩), .map (some m314), .map (some m315), .map (some m316)]) 75 :: HP.blk b309 ([.slice p310 (x308.1).length c310, .slice p311 (x308.2.1).length c311, .int .i64 (x308.2.2.1), .bool (x308.2.2.2)]) 71 :: HP.ow (rSl rByte) 33 p310 c310 x308.1 :: HP.ow (rPair (rInt .i64) (rSl rByte)) 88 p311 c311 x308.2.1 :: HP.mm (some m314) hv false (rInt .i64) (fun l => l.length = 32) x312.1.1 :: HP.mm (some m315) (Value.int .i64) true (rBytesN 32) (fun _ => True) x312.1.2.1 :: HP.mm (some m316) hv false (rInt .i64) (fun l => l.length = 32) x312.1.2.2 :: HP.blk b411 (bcells x407) 35 :: HP.row b408 (o408 + (s405 : Int).toNat * 32) (bcells x407) :: HP.blk b9 ([.slice p254 (r250.2.1).length c254, .slice p255 (r250.2.2.1).length c255, .int .i64 (r250.2.2.2.1), .bool (r250.2.2.2.2)]) 71 :: HP.ow (rSl rByte) 33 p254 c254 r250.2.1 :: HP.ow (rPair (rInt .i64) (rSl rByte)) 88 p255 c255 r250.2.2.1 :: HP.blk b13 ([.pointer (some ⟨b9, 0, none⟩), .map (some m251), .map (some m252), .map (some m253)]) 75 :: HP.sl (rBytesN 32) p106 c106 r100.2.2 :: HP.row 0 (0) (icells .u32 shaStart) :: HP.row 2 (0) (icells .u32 shaRounds) :: HP.sl (rSl rByte) p1 c1 x0_ :: HP.mm (some m251) hv false (rInt .i64) (fun l => l.length = 32) r250.1.1 :: HP.mm (some m252) (Value.int .i64) true (rBytesN 32) (fun _ => True) r250.1.2.1 :: HP.mm (some m253) hv false (rInt .i64) (fun l => l.length = 32) r250.1.2.2 :: l) := H
                 refine s_val wkP F rfl rfl rfl rfl (y_move F rfl rfl) ?_; clear F; intro a F
                 refine s_val wkP F rfl rfl rfl rfl (y_extract F rfl rfl rfl) ?_; clear F; intro a F
                 refine s_val wkP F rfl rfl rfl rfl (y_extract F rfl rfl rfl) ?_; clear F; intro a F
                 refine s_val wkP F rfl rfl rfl rfl (y_assign F rfl rfl) ?_; clear F; intro a F
                 refine s_val wkP F rfl rfl rfl rfl (y_assign F rfl rfl) ?_; clear F; intro a F
                 refine wpList_nil ?_
                 refine c_then ?_
                 refine wp_seq ?_
                 by_cases hg414 : x412.2 = 0
                 · replace hm := ifT hg414 hm
                   obtain ⟨x415, ex415, hn⟩ := ob hm; clear hm; revert hn; intro hm
                   obtain ⟨b416, o416, hp416⟩ := H.slP 17 rfl (idxO_some ex415).2
                   obtain ⟨cs417, hcl417, H⟩ := H.slEl 17 rfl hp416 (idxO_some ex415).2
                   obtain ⟨p418, c418, rfl, H⟩ := H.rcSl 1 rfl
                   replace H := H.dp 2 rfl
                   clear hcl417
                   by_cases hg419 : x412.1 = x415
                   · replace hm := ifT hg419 hm
                     refine q_region (fun u => St w0 u (HP.sl rByte p418 c418 x415 :: HP.row b416 (o416 + (s405 : Int).toNat * 1) ([.slice p418 (x415).length c418]) :: HP.sl rByte p413 c413 x412.1 :: HP.blk b313 ([.pointer (some ⟨b309, 0, none⟩), .map (some m314), .map (some m315), .map (some m316)]) 75 :: HP.blk b309 ([.slice p310 (x308.1).length c310, .slice p311 (x308.2.1).length c311, .int .i64 (x308.2.2.1), .bool (x308.2.2.2)]) 71 :: HP.ow (rSl rByte) 33 p310 c310 x308.1 :: HP.ow (rPair (rInt .i64) (rSl rByte)) 88 p311 c311 x308.2.1 :: HP.mm (some m314) hv false (rInt .i64) (fun l => l.length = 32) x312.1.1 :: HP.mm (some m315) (Value.int .i64) true (rBytesN 32) (fun _ => True) x312.1.2.1 :: HP.mm (some m316) hv false (rInt .i64) (fun l => l.length = 32) x312.1.2.2 :: HP.blk b411 (bcells x407) 35 :: HP.row b408 (o408 + (s405 : Int).toNat * 32) (bcells x407) :: HP.blk b9 ([.slice p254 (r250.2.1).length c254, .slice p255 (r250.2.2.1).length c255, .int .i64 (r250.2.2.2.1), .bool (r250.2.2.2.2)]) 71 :: HP.ow (rSl rByte) 33 p254 c254 r250.2.1 :: HP.ow (rPair (rInt .i64) (rSl rByte)) 88 p255 c255 r250.2.2.1 :: HP.blk b13 ([.pointer (some ⟨b9, 0, none⟩), .map (some m251), .map (some m252), .map (some m253)]) 75 :: HP.sl (rBytesN 32) p106 c106 r100.2.2 :: HP.row 0 (0) (icells .u32 shaStart) :: HP.row 2 (0) (icells .u32 shaRounds) :: HP.sl (rSl rByte) p1 c1 x0_ :: HP.mm (some m251) hv false (rInt .i64) (fun l => l.length = 32) r250.1.1 :: HP.mm (some m252) (Value.int .i64) true (rBytesN 32) (fun _ => True) r250.1.2.1 :: HP.mm (some m253) hv false (rInt .i64) (fun l => l.length = 32) r250.1.2.2 :: l)) (by kernel_rfl) (by kernel_rfl) H.drew ?_
                     refine q_val F rfl rfl rfl (fun u hu => y_move F rfl rfl) ?_; clear F; intro a F
                     refine q_val F rfl rfl rfl (fun u hu => y_neq F rfl rfl rfl) ?_; clear F; intro a F
                     refine q_val F rfl rfl rfl (fun u hu => y_move F rfl rfl) ?_; clear F; intro a F
                     replace F := F.bool (k := 123) (u := .bool false) rfl (congrArg (fun b => Value.bool (!b)) (decide_eq_true hg414))
                     refine qg_on F rfl rfl rfl rfl ?_
                     refine q_val F rfl rfl rfl (fun u hu => y_move F rfl rfl) ?_; clear F; intro a F
                     refine qg_on F rfl rfl rfl rfl ?_
                     refine q_val F rfl rfl rfl (fun u hu => y_b2s F Tryd.underlying33 Tryd.underlying9 Tryd.underlying5 rfl rfl (hu) 2 rfl) ?_; clear F; intro a F
                     refine qg_on F rfl rfl rfl rfl ?_
                     refine q_val F rfl rfl rfl (fun u hu => y_move F rfl rfl) ?_; clear F; intro a F
                     refine qg_on F rfl rfl rfl rfl ?_
                     refine q_val F rfl rfl rfl (fun u hu => y_move F rfl rfl) ?_; clear F; intro a F
                     refine qg_on F rfl rfl rfl rfl ?_
                     refine q_val F rfl rfl rfl (fun u hu => y_idxS F elem22 rfl rfl rfl hp416 ex415) ?_; clear F; intro a F
                     refine qg_on F rfl rfl rfl rfl ?_
                     refine q_val F rfl rfl rfl (fun u hu => y_load1 F plain33 rfl rfl ((hu.rowAt 1 rfl) 0 _ rfl)) ?_; clear F; intro a F
                     refine qg_on F rfl rfl rfl rfl ?_
                     refine q_val F rfl rfl rfl (fun u hu => y_b2s F Tryd.underlying33 Tryd.underlying9 Tryd.underlying5 rfl rfl (hu) 0 rfl) ?_; clear F; intro a F
                     refine qg_on F rfl rfl rfl rfl ?_
                     refine q_val F rfl rfl rfl (fun u hu => y_neT (l := x412.1) (m := x415) F rfl rfl rfl) ?_; clear F; intro a F
                     refine qg_on F rfl rfl rfl rfl ?_
                     refine q_val F rfl rfl rfl (fun u hu => y_move F rfl rfl) ?_; clear F; intro a F
                     replace F := F.bool (k := 132) (u := .bool false) rfl (congrArg (fun b => Value.bool (!b)) (decide_eq_true hg419))
                     refine qg_off F rfl rfl rfl rfl rfl rfl rfl ?_; clear F; intro a F
                     refine qg_off F rfl rfl rfl rfl rfl rfl rfl ?_; clear F; intro a F
                     refine qg_off F rfl rfl rfl rfl rfl rfl rfl ?_; clear F; intro a F
                     refine qg_off F rfl rfl rfl rfl rfl rfl rfl ?_; clear F; intro a F
                     refine qg_on F rfl rfl rfl rfl ?_
                     refine q_val F rfl rfl rfl (fun u hu => y_pickF F rfl rfl rfl) ?_; clear F; intro a F
                     refine q_val F rfl rfl rfl (fun u hu => y_pickF F rfl rfl rfl) ?_; clear F; intro a F
                     refine q_nil ?_; clear H; intro w H
                     refine c_then ?_
                     refine x_condF F rfl ?_
                     refine wp_skip ?_
                     refine c_blkN ?_
                     refine c_then ?_
                     refine r_lit ?_
                     refine s_val wkP F rfl rfl rfl rfl (i_add F rfl rfl rfl) ?_; clear F; intro a F
                     refine s_val wkP F rfl rfl rfl rfl (y_move F rfl rfl) ?_; clear F; intro a F
                     refine wpList_nil ?_
                     refine c_then ?_; obtain rfl := Option.some.inj hm
                     exact ⟨_, rfl, ⟨F.cut _ ⟨rfl, rfl, rfl, rfl, rfl, trivial⟩, (((((((((((((((((((H.mv 22 rfl).mv 22 rfl).mv 22 rfl).cp 22 rfl pers_sl).cp 22 rfl pers_row).cp 22 rfl pers_row).cp 22 rfl pers_sl).mv 22 rfl).mv 22 rfl).mv 22 rfl).mv 22 rfl).mv 17 rfl).mv 17 rfl).mv 17 rfl).mv 20 rfl).mv 20 rfl).mv 20 rfl).mv 20 rfl).keep 18 9)⟩⟩
                   · replace hm := ifF hg419 hm
                     obtain ⟨x420, ex420, hn⟩ := ob hm; clear hm; revert hn; intro hm
                     have hl421 : (x420).length = 32 := by obtain ⟨_, _, _, _, _, hx, _⟩ := calls_ex (w_rSum x412.1 p413 c413 w0 _ _  _ ex420 (H.cp 2 rfl pers_sl)); exact hx
                     refine q_region (fun u => St w0 u (HP.sl rByte p418 c418 x415 :: HP.row b416 (o416 + (s405 : Int).toNat * 1) ([.slice p418 (x415).length c418]) :: HP.sl rByte p413 c413 x412.1 :: HP.blk b313 ([.pointer (some ⟨b309, 0, none⟩), .map (some m314), .map (some m315), .map (some m316)]) 75 :: HP.blk b309 ([.slice p310 (x308.1).length c310, .slice p311 (x308.2.1).length c311, .int .i64 (x308.2.2.1), .bool (x308.2.2.2)]) 71 :: HP.ow (rSl rByte) 33 p310 c310 x308.1 :: HP.ow (rPair (rInt .i64) (rSl rByte)) 88 p311 c311 x308.2.1 :: HP.mm (some m314) hv false (rInt .i64) (fun l => l.length = 32) x312.1.1 :: HP.mm (some m315) (Value.int .i64) true (rBytesN 32) (fun _ => True) x312.1.2.1 :: HP.mm (some m316) hv false (rInt .i64) (fun l => l.length = 32) x312.1.2.2 :: HP.blk b411 (bcells x407) 35 :: HP.row b408 (o408 + (s405 : Int).toNat * 32) (bcells x407) :: HP.blk b9 ([.slice p254 (r250.2.1).length c254, .slice p255 (r250.2.2.1).length c255, .int .i64 (r250.2.2.2.1), .bool (r250.2.2.2.2)]) 71 :: HP.ow (rSl rByte) 33 p254 c254 r250.2.1 :: HP.ow (rPair (rInt .i64) (rSl rByte)) 88 p255 c255 r250.2.2.1 :: HP.blk b13 ([.pointer (some ⟨b9, 0, none⟩), .map (some m251), .map (some m252), .map (some m253)]) 75 :: HP.sl (rBytesN 32) p106 c106 r100.2.2 :: HP.row 0 (0) (icells .u32 shaStart) :: HP.row 2 (0) (icells .u32 shaRounds) :: HP.sl (rSl rByte) p1 c1 x0_ :: HP.mm (some m251) hv false (rInt .i64) (fun l => l.length = 32) r250.1.1 :: HP.mm (some m252) (Value.int .i64) true (rBytesN 32) (fun _ => True) r250.1.2.1 :: HP.mm (some m253) hv false (rInt .i64) (fun l => l.length = 32) r250.1.2.2 :: l)) (by kernel_rfl) (by kernel_rfl) H.drew ?_
                     refine q_val F rfl rfl rfl (fun u hu => y_move F rfl rfl) ?_; clear F; intro a F
                     refine q_val F rfl rfl rfl (fun u hu => y_neq F rfl rfl rfl) ?_; clear F; intro a F
                     refine q_val F rfl rfl rfl (fun u hu => y_move F rfl rfl) ?_; clear F; intro a F
                     replace F := F.bool (k := 123) (u := .bool false) rfl (congrArg (fun b => Value.bool (!b)) (decide_eq_true hg414))
                     refine qg_on F rfl rfl rfl rfl ?_
                     refine q_val F rfl rfl rfl (fun u hu => y_move F rfl rfl) ?_; clear F; intro a F
                     refine qg_on F rfl rfl rfl rfl ?_
                     refine q_val F rfl rfl rfl (fun u hu => y_b2s F Tryd.underlying33 Tryd.underlying9 Tryd.underlying5 rfl rfl (hu) 2 rfl) ?_; clear F; intro a F
                     refine qg_on F rfl rfl rfl rfl ?_
                     refine q_val F rfl rfl rfl (fun u hu => y_move F rfl rfl) ?_; clear F; intro a F
                     refine qg_on F rfl rfl rfl rfl ?_
                     refine q_val F rfl rfl rfl (fun u hu => y_move F rfl rfl) ?_; clear F; intro a F
                     refine qg_on F rfl rfl rfl rfl ?_
                     refine q_val F rfl rfl rfl (fun u hu => y_idxS F elem22 rfl rfl rfl hp416 ex415) ?_; clear F; intro a F
                     refine qg_on F rfl rfl rfl rfl ?_
                     refine q_val F rfl rfl rfl (fun u hu => y_load1 F plain33 rfl rfl ((hu.rowAt 1 rfl) 0 _ rfl)) ?_; clear F; intro a F
                     refine qg_on F rfl rfl rfl rfl ?_
                     refine q_val F rfl rfl rfl (fun u hu => y_b2s F Tryd.underlying33 Tryd.underlying9 Tryd.underlying5 rfl rfl (hu) 0 rfl) ?_; clear F; intro a F
                     refine qg_on F rfl rfl rfl rfl ?_
                     refine q_val F rfl rfl rfl (fun u hu => y_neT (l := x412.1) (m := x415) F rfl rfl rfl) ?_; clear F; intro a F
                     refine qg_on F rfl rfl rfl rfl ?_
                     refine q_val F rfl rfl rfl (fun u hu => y_move F rfl rfl) ?_; clear F; intro a F
                     replace F := F.bool (k := 132) (u := .bool true) rfl (congrArg (fun b => Value.bool (!b)) (decide_eq_false hg419))
                     refine qg_on F rfl rfl rfl rfl ?_
                     refine q_val F rfl rfl rfl (fun u hu => y_move F rfl rfl) ?_; clear F; intro a F
                     refine qg_on F rfl rfl rfl rfl ?_
                     refine q_call F rfl rfl rfl (fun u hu => y_call F rfl rfl ent12) (fun u hu => (w_rSum x412.1 p413 c413 w0 _ _  _ ex420 (hu.cp 2 rfl pers_sl)).mono fun e u2 he => by obtain ⟨v, rfl, rfl, _, H⟩ := he; exact ⟨rfl, H⟩) ?_; clear F; intro a F
                     refine qg_on F rfl rfl rfl rfl ?_
                     refine q_val F rfl rfl rfl (fun u hu => y_loadA F agg35 rfl rfl ((hu.blk 10 rfl).row) ((bcells_length _).trans hl410)) ?_; clear F; intro a F
                     refine qg_on F rfl rfl rfl rfl ?_
                     refine q_val F rfl rfl rfl (fun u hu => y_neqA F key35 rfl rfl rfl hl421 hl410) ?_; clear F; intro a F
                     refine qg_on F rfl rfl rfl rfl ?_
                     refine q_val F rfl rfl rfl (fun u hu => y_pickT F rfl rfl rfl) ?_; clear F; intro a F
                     refine q_val F rfl rfl rfl (fun u hu => y_pickF F rfl rfl rfl) ?_; clear F; intro a F
                     refine q_nil ?_; clear H; intro w H
                     refine c_then ?_
                     refine x_condN F rfl (fun hg422 => ?_) (fun hg422 => ?_)
                     · replace hm := ifF hg422 hm
                       refine wp_seq ?_
                       refine r_lit ?_
                       refine s_val wkP F rfl rfl rfl rfl (y_assign F rfl rfl) ?_; clear F; intro a F
                       refine wpList_nil ?_
                       refine c_then ?_
                       refine wp_ret ?_
                       refine c_blkR ?_
                       refine c_thenR ?_
                       refine c_thenR ?_; obtain rfl := Option.some.inj hm; refine ⟨_, rfl, ?_⟩; rintro rfl
                       refine c_blkR ?_
                       refine c_thenR ?_
                       replace hm := elimR hm370
                       refine c_thenR ?_
                       obtain rfl := Option.some.inj hm
                       refine x_ret1 F rfl rfl ?_
                       exact ⟨_, rfl, rfl, (H.keep 0 23)⟩
                     · replace hm := ifT hg422 hm
                       refine wp_skip ?_
                       refine c_blkN ?_
                       refine c_then ?_
                       refine r_lit ?_
                       refine s_val wkP F rfl rfl rfl rfl (i_add F rfl rfl rfl) ?_; clear F; intro a F
                       refine s_val wkP F rfl rfl rfl rfl (y_move F rfl rfl) ?_; clear F; intro a F
                       refine wpList_nil ?_
                       refine c_then ?_; obtain rfl := Option.some.inj hm
                       exact ⟨_, rfl, ⟨F.cut _ ⟨rfl, rfl, rfl, rfl, rfl, trivial⟩, (((((((((((((((((((H.mv 22 rfl).mv 22 rfl).mv 22 rfl).cp 22 rfl pers_sl).cp 22 rfl pers_row).cp 22 rfl pers_row).cp 22 rfl pers_sl).mv 22 rfl).mv 22 rfl).mv 22 rfl).mv 22 rfl).mv 17 rfl).mv 17 rfl).mv 17 rfl).mv 20 rfl).mv 20 rfl).mv 20 rfl).mv 20 rfl).keep 18 9)⟩⟩
                 · replace hm := ifF hg414 hm
                   refine q_region (fun u => St w0 u (HP.sl rByte p413 c413 x412.1 :: HP.blk b313 ([.pointer (some ⟨b309, 0, none⟩), .map (some m314), .map (some m315), .map (some m316)]) 75 :: HP.blk b309 ([.slice p310 (x308.1).length c310, .slice p311 (x308.2.1).length c311, .int .i64 (x308.2.2.1), .bool (x308.2.2.2)]) 71 :: HP.ow (rSl rByte) 33 p310 c310 x308.1 :: HP.ow (rPair (rInt .i64) (rSl rByte)) 88 p311 c311 x308.2.1 :: HP.mm (some m314) hv false (rInt .i64) (fun l => l.length = 32) x312.1.1 :: HP.mm (some m315) (Value.int .i64) true (rBytesN 32) (fun _ => True) x312.1.2.1 :: HP.mm (some m316) hv false (rInt .i64) (fun l => l.length = 32) x312.1.2.2 :: HP.blk b411 (bcells x407) 35 :: HP.row b408 (o408 + (s405 : Int).toNat * 32) (bcells x407) :: HP.blk b9 ([.slice p254 (r250.2.1).length c254, .slice p255 (r250.2.2.1).length c255, .int .i64 (r250.2.2.2.1), .bool (r250.2.2.2.2)]) 71 :: HP.ow (rSl rByte) 33 p254 c254 r250.2.1 :: HP.ow (rPair (rInt .i64) (rSl rByte)) 88 p255 c255 r250.2.2.1 :: HP.blk b13 ([.pointer (some ⟨b9, 0, none⟩), .map (some m251), .map (some m252), .map (some m253)]) 75 :: HP.sl (rBytesN 32) p106 c106 r100.2.2 :: HP.row 0 (0) (icells .u32 shaStart) :: HP.row 2 (0) (icells .u32 shaRounds) :: HP.sl (rSl rByte) p1 c1 x0_ :: HP.mm (some m251) hv false (rInt .i64) (fun l => l.length = 32) r250.1.1 :: HP.mm (some m252) (Value.int .i64) true (rBytesN 32) (fun _ => True) r250.1.2.1 :: HP.mm (some m253) hv false (rInt .i64) (fun l => l.length = 32) r250.1.2.2 :: l)) (by kernel_rfl) (by kernel_rfl) H.drew ?_
                   refine q_val F rfl rfl rfl (fun u hu => y_move F rfl rfl) ?_; clear F; intro a F
                   refine q_val F rfl rfl rfl (fun u hu => y_neq F rfl rfl rfl) ?_; clear F; intro a F
                   refine q_val F rfl rfl rfl (fun u hu => y_move F rfl rfl) ?_; clear F; intro a F
                   replace F := F.bool (k := 123) (u := .bool true) rfl (congrArg (fun b => Value.bool (!b)) (decide_eq_false hg414))
                   refine qg_off F rfl rfl rfl rfl rfl rfl rfl ?_; clear F; intro a F
                   refine qg_off F rfl rfl rfl rfl rfl rfl rfl ?_; clear F; intro a F
                   refine qg_off F rfl rfl rfl rfl rfl rfl rfl ?_; clear F; intro a F
                   refine qg_off F rfl rfl rfl rfl rfl rfl rfl ?_; clear F; intro a F
                   refine qg_off F rfl rfl rfl rfl rfl rfl rfl ?_; clear F; intro a F
                   refine qg_off F rfl rfl rfl rfl rfl rfl rfl ?_; clear F; intro a F
                   refine qg_off F rfl rfl rfl rfl rfl rfl rfl ?_; clear F; intro a F
                   refine qg_off F rfl rfl rfl rfl rfl rfl rfl ?_; clear F; intro a F
                   refine qg_off F rfl rfl rfl rfl rfl rfl rfl ?_; clear F; intro a F
                   refine qg_offU F rfl rfl rfl rfl rfl rfl ?_; clear F; intro a F
                   refine qg_offU F rfl rfl rfl rfl rfl rfl ?_; clear F; intro a F
                   refine qg_offU F rfl rfl rfl rfl rfl rfl ?_; clear F; intro a F
                   refine qg_offU F rfl rfl rfl rfl rfl rfl ?_; clear F; intro a F
                   refine qg_off F rfl rfl rfl rfl rfl rfl rfl ?_; clear F; intro a F
                   refine q_val F rfl rfl rfl (fun u hu => y_pickT F rfl rfl rfl) ?_; clear F; intro a F
                   refine q_nil ?_; clear H; intro w H
                   refine c_then ?_
                   refine x_condT F rfl ?_
                   refine wp_seq ?_
                   refine r_lit ?_
                   refine s_val wkP F rfl rfl rfl rfl (y_assign F rfl rfl) ?_; clear F; intro a F
                   refine wpList_nil ?_
                   refine c_then ?_
                   refine wp_ret ?_
                   refine c_blkR ?_
                   refine c_thenR ?_
                   refine c_thenR ?_; obtain rfl := Option.some.inj hm; refine ⟨_, rfl, ?_⟩; rintro rfl
                   refine c_blkR ?_
                   refine c_thenR ?_
                   replace hm := elimR hm370
                   refine c_thenR ?_
                   obtain rfl := Option.some.inj hm
                   refine x_ret1 F rfl rfl ?_
                   exact ⟨_, rfl, rfl, (H.keep 0 21)⟩
               · replace hm := ifF hg406 hm
                 refine wp_exit ?_
                 refine c_thenX ?_
                 refine c_thenX ?_; obtain rfl := Option.some.inj hm; refine ⟨_, rfl, ?_⟩; rintro rfl
                 refine c_hit ?_
                 refine c_then ?_
                 exact ⟨_, rfl, F.cut _ trivial, (((((((((((((((((H.mv 17 rfl).mv 17 rfl).mv 17 rfl).cp 16 rfl pers_row).cp 16 rfl pers_row).mv 15 rfl).mv 15 rfl).mv 15 rfl).mv 15 rfl).mv 15 rfl).mv 15 rfl).mv 15 rfl).mv 15 rfl).mv 15 rfl).mv 15 rfl).mv 15 rfl).keep 16 4)⟩
             · skip
               clear F H hm
               rintro a w ⟨r370, rfl, F, H⟩; have hm := elimL hm370; clear hm370
               refine c_then ?_
               refine wp_seq ?_
               refine r_lit ?_
               refine s_val wkP F rfl rfl rfl rfl (y_assign F rfl rfl) ?_; clear F; intro a F
               refine wpList_nil ?_
               refine c_then ?_
               refine wp_ret ?_
               obtain rfl := Option.some.inj hm
               refine x_ret1 F rfl rfl ?_
               exact ⟨_, rfl, rfl, (H.keep 0 16)⟩
end Go.Proofs.YtfepdfjhejkemaaDoor
