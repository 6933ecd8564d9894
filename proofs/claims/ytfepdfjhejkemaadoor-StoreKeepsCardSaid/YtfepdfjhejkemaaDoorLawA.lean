/- the statements -/
import Derived.Test.YtfepdfjhejkemaaDoorStoreA
set_option linter.unusedSimpArgs false
set_option linter.unusedVariables false
namespace Go.Proofs.YtfepdfjhejkemaaDoor
open Go.RowKit Go.Tri
set_option maxRecDepth 100000 in
set_option maxHeartbeats 4000000 in
theorem w_stOpen (d : (List (List UInt8)) × (List (Int × (List UInt8))) × Int × Bool) (bo0 : Nat) (p1 : Option Addr) (c1 : Nat) (p2 : Option Addr) (c2 : Nat) (w0 w : World) (l : List HP)  (r : (((List UInt8) → Option Int) × (Int → Option (List UInt8)) × ((List UInt8) → Option Int)) × Int) (hm : stOpen d = some r) (H : St w0 w (HP.row 0 (0) (icells .u32 shaStart) :: HP.row 2 (0) (icells .u32 shaRounds) :: HP.blk bo0 ([.slice p1 (d.1).length c1, .slice p2 (d.2.1).length c2, .int .i64 (d.2.2.1), .bool (d.2.2.2)]) 71 :: HP.ow (rSl rByte) 33 p1 c1 d.1 :: HP.ow (rPair (rInt .i64) (rSl rByte)) 88 p2 c2 d.2.1 :: l)) :
  Calls Tryd.prog 10 [.pointer (some ⟨bo0, 0, none⟩)].toArray w (fun e w' => ∃ v, e = .returned v ∧ ∃ (b3 : Nat) (m4 : Nat) (m5 : Nat) (m6 : Nat), v = .tuple [.pointer (some ⟨b3, 0, none⟩), .int .i64 (r.2)].toArray ∧ St w0 w' (HP.blk b3 ([.pointer (some ⟨bo0, 0, none⟩), .map (some m4), .map (some m5), .map (some m6)]) 75 :: HP.mm (some m4) hv false (rInt .i64) (fun l => l.length = 32) r.1.1 :: HP.mm (some m5) (Value.int .i64) true (rBytesN 32) (fun _ => True) r.1.2.1 :: HP.mm (some m6) hv false (rInt .i64) (fun l => l.length = 32) r.1.2.2 :: HP.blk bo0 ([.slice p1 (d.1).length c1, .slice p2 (d.2.1).length c2, .int .i64 (d.2.2.1), .bool (d.2.2.2)]) 71 :: HP.ow (rSl rByte) 33 p1 c1 d.1 :: HP.ow (rPair (rInt .i64) (rSl rByte)) 88 p2 c2 d.2.1 :: l)) := by
 unfold stOpen at hm
 refine x_enter Tryd.func10 rfl rfl rfl ?_
 intro a F
 replace F : Fr ⟨74, []⟩ a [(0, .pointer (some ⟨bo0, 0, none⟩))] := F
 refine wp_seq ?_
 refine r_lit ?_
 refine s_val wkP F rfl rfl rfl rfl (y_assign F rfl rfl) ?_; clear F; intro a F
 refine s_val wkP F rfl rfl rfl rfl (y_assign F rfl rfl) ?_; clear F; intro a F
 refine wpList_nil ?_
 refine c_then ?_
 refine wp_seq ?_
 refine r_lit ?_
 refine s_val wkP F rfl rfl rfl rfl (y_move F rfl rfl) ?_; clear F; intro a F
 refine s_mmNew hv false (rInt .i64) (fun l => l.length = 32) wkP F rfl rfl rfl rfl H ?_; clear F H; intro m7 w a H F
 replace H : St w0 w (HP.mm (some m7) hv false (rInt .i64) (fun l => l.length = 32) (fnil : (List UInt8) → Option Int) :: HP.row 0 (0) (icells .u32 shaStart) :: HP.row 2 (0) (icells .u32 shaRounds) :: HP.blk bo0 ([.slice p1 (d.1).length c1, .slice p2 (d.2.1).length c2, .int .i64 (d.2.2.1), .bool (d.2.2.2)]) 71 :: HP.ow (rSl rByte) 33 p1 c1 d.1 :: HP.ow (rPair (rInt .i64) (rSl rByte)) 88 p2 c2 d.2.1 :: l) := H
 refine s_mmNew (Value.int .i64) true (rBytesN 32) (fun _ => True) wkP F rfl rfl rfl rfl H ?_; clear F H; intro m8 w a H F
 replace H : St w0 w (HP.mm (some m8) (Value.int .i64) true (rBytesN 32) (fun _ => True) (fnil : Int → Option (List UInt8)) :: HP.mm (some m7) hv false (rInt .i64) (fun l => l.length = 32) (fnil : (List UInt8) → Option Int) :: HP.row 0 (0) (icells .u32 shaStart) :: HP.row 2 (0) (icells .u32 shaRounds) :: HP.blk bo0 ([.slice p1 (d.1).length c1, .slice p2 (d.2.1).length c2, .int .i64 (d.2.2.1), .bool (d.2.2.2)]) 71 :: HP.ow (rSl rByte) 33 p1 c1 d.1 :: HP.ow (rPair (rInt .i64) (rSl rByte)) 88 p2 c2 d.2.1 :: l) := H
 refine s_mmNew hv false (rInt .i64) (fun l => l.length = 32) wkP F rfl rfl rfl rfl H ?_; clear F H; intro m9 w a H F
 replace H : St w0 w (HP.mm (some m9) hv false (rInt .i64) (fun l => l.length = 32) (fnil : (List UInt8) → Option Int) :: HP.mm (some m8) (Value.int .i64) true (rBytesN 32) (fun _ => True) (fnil : Int → Option (List UInt8)) :: HP.mm (some m7) hv false (rInt .i64) (fun l => l.length = 32) (fnil : (List UInt8) → Option Int) :: HP.row 0 (0) (icells .u32 shaStart) :: HP.row 2 (0) (icells .u32 shaRounds) :: HP.blk bo0 ([.slice p1 (d.1).length c1, .slice p2 (d.2.1).length c2, .int .i64 (d.2.2.1), .bool (d.2.2.2)]) 71 :: HP.ow (rSl rByte) 33 p1 c1 d.1 :: HP.ow (rPair (rInt .i64) (rSl rByte)) 88 p2 c2 d.2.1 :: l) := H
 refine s_val wkP F rfl rfl rfl rfl (y_build F rfl rfl (cs := [.pointer (some ⟨bo0, 0, none⟩), .map (some m7), .map (some m8), .map (some m9)]) (by kernel_rfl)) ?_; clear F; intro a F
 refine s_boxA wkP F rfl rfl rfl rfl rfl H ?_; clear F H; intro b10 w a H F
 replace H : St w0 w (HP.blk b10 ([.pointer (some ⟨bo0, 0, none⟩), .map (some m7), .map (some m8), .map (some m9)]) 75 :: HP.mm (some m9) hv false (rInt .i64) (fun l => l.length = 32) (fnil : (List UInt8) → Option Int) :: HP.mm (some m8) (Value.int .i64) true (rBytesN 32) (fun _ => True) (fnil : Int → Option (List UInt8)) :: HP.mm (some m7) hv false (rInt .i64) (fun l => l.length = 32) (fnil : (List UInt8) → Option Int) :: HP.row 0 (0) (icells .u32 shaStart) :: HP.row 2 (0) (icells .u32 shaRounds) :: HP.blk bo0 ([.slice p1 (d.1).length c1, .slice p2 (d.2.1).length c2, .int .i64 (d.2.2.1), .bool (d.2.2.2)]) 71 :: HP.ow (rSl rByte) 33 p1 c1 d.1 :: HP.ow (rPair (rInt .i64) (rSl rByte)) 88 p2 c2 d.2.1 :: l) := H
 refine s_val wkP F rfl rfl rfl rfl (y_assign F rfl rfl) ?_; clear F; intro a F
 refine wpList_nil ?_
 refine c_then ?_
 refine wp_seq ?_
 refine wp_seq ?_
 refine r_lit ?_
 refine s_val wkP F rfl rfl rfl rfl (y_move F rfl rfl) ?_; clear F; intro a F
 obtain ⟨x11, ex11, hn⟩ := ob hm; clear hm; revert hn; intro hm
 refine s_call wkP F rfl rfl rfl rfl (y_call F rfl rfl ent32) (w_diskSectors (d.1, d.2.1, d.2.2.1, d.2.2.2) bo0 p1 c1 p2 c2 w0 _ _  _ ex11 (((H.mv 8 rfl).mv 8 rfl).mv 8 rfl)) ?_; clear F H; rintro _ w a ⟨rfl, H⟩ F
 replace H : St w0 w (HP.blk bo0 ([.slice p1 (d.1).length c1, .slice p2 (d.2.1).length c2, .int .i64 (d.2.2.1), .bool (d.2.2.2)]) 71 :: HP.ow (rSl rByte) 33 p1 c1 d.1 :: HP.ow (rPair (rInt .i64) (rSl rByte)) 88 p2 c2 d.2.1 :: HP.blk b10 ([.pointer (some ⟨bo0, 0, none⟩), .map (some m7), .map (some m8), .map (some m9)]) 75 :: HP.mm (some m9) hv false (rInt .i64) (fun l => l.length = 32) (fnil : (List UInt8) → Option Int) :: HP.mm (some m8) (Value.int .i64) true (rBytesN 32) (fun _ => True) (fnil : Int → Option (List UInt8)) :: HP.mm (some m7) hv false (rInt .i64) (fun l => l.length = 32) (fnil : (List UInt8) → Option Int) :: HP.row 0 (0) (icells .u32 shaStart) :: HP.row 2 (0) (icells .u32 shaRounds) :: l) := H
 refine s_val wkP F rfl rfl rfl rfl (y_move F rfl rfl) ?_; clear F; intro a F
 refine wpList_nil ?_
 refine c_then ?_
 obtain ⟨o157, eo157, hm157⟩ := ob hm; clear hm; revert eo157; intro hm
 refine x_mid (fun aa ww => ∃ r157, o157 = Sum.inl r157 ∧ Fr ⟨74, []⟩ aa [(4, .pointer (some ⟨b10, 0, none⟩))] ∧ St w0 ww (HP.blk bo0 ([.slice p1 (d.1).length c1, .slice p2 (d.2.1).length c2, .int .i64 (d.2.2.1), .bool (d.2.2.2)]) 71 :: HP.ow (rSl rByte) 33 p1 c1 d.1 :: HP.ow (rPair (rInt .i64) (rSl rByte)) 88 p2 c2 d.2.1 :: HP.blk b10 ([.pointer (some ⟨bo0, 0, none⟩), .map (some m7), .map (some m8), .map (some m9)]) 75 :: HP.mm (some m9) hv false (rInt .i64) (fun l => l.length = 32) (fnil : (List UInt8) → Option Int) :: HP.mm (some m8) (Value.int .i64) true (rBytesN 32) (fun _ => True) r157.1 :: HP.mm (some m7) hv false (rInt .i64) (fun l => l.length = 32) r157.2 :: HP.row 0 (0) (icells .u32 shaStart) :: HP.row 2 (0) (icells .u32 shaRounds) :: l)) ?_ ?_
 · skip
   refine wp_block ?_
   refine x_loopO _ (fun (s254 : (Int → Option (List UInt8)) × ((List UInt8) → Option Int) × Int) aa ww => Fr ⟨74, []⟩ aa [(0, .pointer (some ⟨bo0, 0, none⟩)), (4, .pointer (some ⟨b10, 0, none⟩)), (19, .int .i64 (x11)), (20, .int .i64 (s254.2.2))] ∧ St w0 ww (HP.blk bo0 ([.slice p1 (d.1).length c1, .slice p2 (d.2.1).length c2, .int .i64 (d.2.2.1), .bool (d.2.2.2)]) 71 :: HP.ow (rSl rByte) 33 p1 c1 d.1 :: HP.ow (rPair (rInt .i64) (rSl rByte)) 88 p2 c2 d.2.1 :: HP.blk b10 ([.pointer (some ⟨bo0, 0, none⟩), .map (some m7), .map (some m8), .map (some m9)]) 75 :: HP.mm (some m9) hv false (rInt .i64) (fun l => l.length = 32) (fnil : (List UInt8) → Option Int) :: HP.mm (some m8) (Value.int .i64) true (rBytesN 32) (fun _ => True) s254.1 :: HP.mm (some m7) hv false (rInt .i64) (fun l => l.length = 32) s254.2.1 :: HP.row 0 (0) (icells .u32 shaStart) :: HP.row 2 (0) (icells .u32 shaRounds) :: l)) hm ⟨F.cut _ ⟨rfl, rfl, rfl, rfl, trivial⟩, ((((((((((H.cp 8 rfl pers_row).cp 8 rfl pers_row).mv 8 rfl).mv 8 rfl).mv 8 rfl).mv 8 rfl).mv 8 rfl).mv 8 rfl).mv 8 rfl).keep 9 2)⟩ ?_
   clear F H hm
   rintro s254 a w o ⟨F, H⟩ hm
   refine wp_seq ?_
   refine r_lit ?_
   refine s_val wkP F rfl rfl rfl rfl (y_lss F rfl rfl rfl) ?_; clear F; intro a F
   refine wpList_nil ?_
   refine c_then ?_
   refine wp_seq ?_
   refine x_condP F rfl (fun hg255 => ?_) (fun hg255 => ?_)
   · replace hm := ifT hg255 hm
     refine wp_skip ?_
     refine c_then ?_
     refine wp_seq ?_
     obtain ⟨o279, eo279, hm279⟩ := ob hm; clear hm; revert eo279; intro hm
     refine x_mid (fun aa ww => ∃ r279, o279 = Sum.inl r279 ∧ Fr ⟨74, []⟩ aa [(0, .pointer (some ⟨bo0, 0, none⟩)), (4, .pointer (some ⟨b10, 0, none⟩)), (19, .int .i64 (x11)), (20, .int .i64 (s254.2.2))] ∧ St w0 ww (HP.blk bo0 ([.slice p1 (d.1).length c1, .slice p2 (d.2.1).length c2, .int .i64 (d.2.2.1), .bool (d.2.2.2)]) 71 :: HP.ow (rSl rByte) 33 p1 c1 d.1 :: HP.ow (rPair (rInt .i64) (rSl rByte)) 88 p2 c2 d.2.1 :: HP.blk b10 ([.pointer (some ⟨bo0, 0, none⟩), .map (some m7), .map (some m8), .map (some m9)]) 75 :: HP.mm (some m9) hv false (rInt .i64) (fun l => l.length = 32) (fnil : (List UInt8) → Option Int) :: HP.mm (some m8) (Value.int .i64) true (rBytesN 32) (fun _ => True) r279.1 :: HP.mm (some m7) hv false (rInt .i64) (fun l => l.length = 32) r279.2 :: HP.row 0 (0) (icells .u32 shaStart) :: HP.row 2 (0) (icells .u32 shaRounds) :: l)) ?_ ?_
     · skip
       refine wp_block ?_
       refine wp_seq ?_
       refine r_lit ?_
       refine s_val wkP F rfl rfl rfl rfl (y_move F rfl rfl) ?_; clear F; intro a F
       refine s_val wkP F rfl rfl rfl rfl (y_assign F rfl rfl) ?_; clear F; intro a F
       refine wpList_nil ?_
       refine c_then ?_
       refine wp_seq ?_
       refine r_lit ?_
       refine s_val wkP F rfl rfl rfl rfl (y_move F rfl rfl) ?_; clear F; intro a F
       refine s_val wkP F rfl rfl rfl rfl (y_move F rfl rfl) ?_; clear F; intro a F
       obtain ⟨x280, ex280, hn⟩ := ob hm; clear hm; revert hn; intro hm
       refine s_call wkP F rfl rfl rfl rfl (y_call F rfl rfl ent33) (w_diskRead (d.1, d.2.1, d.2.2.1, d.2.2.2) s254.2.2 bo0 p1 c1 p2 c2 w0 _ _  _ ex280 (((H.mv 2 rfl).mv 2 rfl).mv 2 rfl)) ?_; clear F H; rintro _ w a ⟨p281, c281, rfl, H⟩ F
       replace H : St w0 w (HP.sl rByte p281 c281 x280.1 :: HP.blk bo0 ([.slice p1 (d.1).length c1, .slice p2 (d.2.1).length c2, .int .i64 (d.2.2.1), .bool (d.2.2.2)]) 71 :: HP.ow (rSl rByte) 33 p1 c1 d.1 :: HP.ow (rPair (rInt .i64) (rSl rByte)) 88 p2 c2 d.2.1 :: HP.blk b10 ([.pointer (some ⟨bo0, 0, none⟩), .map (some m7), .map (some m8), .map (some m9)]) 75 :: HP.mm (some m9) hv false (rInt .i64) (fun l => l.length = 32) (fnil : (List UInt8) → Option Int) :: HP.mm (some m8) (Value.int .i64) true (rBytesN 32) (fun _ => True) s254.1 :: HP.mm (some m7) hv false (rInt .i64) (fun l => l.length = 32) s254.2.1 :: HP.row 0 (0) (icells .u32 shaStart) :: HP.row 2 (0) (icells .u32 shaRounds) :: l) := H
       refine s_val wkP F rfl rfl rfl rfl (y_move F rfl rfl) ?_; clear F; intro a F
       refine s_val wkP F rfl rfl rfl rfl (y_extract F rfl rfl rfl) ?_; clear F; intro a F
       refine s_val wkP F rfl rfl rfl rfl (y_extract F rfl rfl rfl) ?_; clear F; intro a F
       refine s_val wkP F rfl rfl rfl rfl (y_assign F rfl rfl) ?_; clear F; intro a F
       refine s_val wkP F rfl rfl rfl rfl (y_assign F rfl rfl) ?_; clear F; intro a F
       refine wpList_nil ?_
       refine c_then ?_
       refine wp_seq ?_
       refine wp_seq ?_
       refine r_lit ?_
       refine s_val wkP F rfl rfl rfl rfl (y_move F rfl rfl) ?_; clear F; intro a F
       refine s_val wkP F rfl rfl rfl rfl (y_neq F rfl rfl rfl) ?_; clear F; intro a F
       refine wpList_nil ?_
       refine c_then ?_
       refine x_condN F rfl (fun hg282 => ?_) (fun hg282 => ?_)
       · replace hm := ifF hg282 hm
         refine wp_seq ?_
         refine r_lit ?_
         refine s_val wkP F rfl rfl rfl rfl (y_move F rfl rfl) ?_; clear F; intro a F
         refine s_val wkP F rfl rfl rfl rfl (y_assign F rfl rfl) ?_; clear F; intro a F
         refine s_val wkP F rfl rfl rfl rfl (y_assign F rfl rfl) ?_; clear F; intro a F
         refine wpList_nil ?_
         refine c_then ?_
         refine wp_ret ?_
         cases hm
       · replace hm := ifT hg282 hm
         refine wp_skip ?_
         refine c_then ?_
         refine wp_seq ?_
         refine r_lit ?_
         refine s_val wkP F rfl rfl rfl rfl (y_move F rfl rfl) ?_; clear F; intro a F
         obtain ⟨x283, ex283, hn⟩ := ob hm; clear hm; revert hn; intro hm
         refine s_call wkP F rfl rfl rfl rfl (y_call F rfl rfl ent34) (w_unwrap x280.1 p281 c281 w0 _ _  _ ex283 (H.cp 0 rfl pers_sl)) ?_; clear F H; rintro _ w a ⟨p284, c284, rfl, H⟩ F
         replace H : St w0 w (HP.sl rByte p284 c284 x283.1 :: HP.sl rByte p281 c281 x280.1 :: HP.blk bo0 ([.slice p1 (d.1).length c1, .slice p2 (d.2.1).length c2, .int .i64 (d.2.2.1), .bool (d.2.2.2)]) 71 :: HP.ow (rSl rByte) 33 p1 c1 d.1 :: HP.ow (rPair (rInt .i64) (rSl rByte)) 88 p2 c2 d.2.1 :: HP.blk b10 ([.pointer (some ⟨bo0, 0, none⟩), .map (some m7), .map (some m8), .map (some m9)]) 75 :: HP.mm (some m9) hv false (rInt .i64) (fun l => l.length = 32) (fnil : (List UInt8) → Option Int) :: HP.mm (some m8) (Value.int .i64) true (rBytesN 32) (fun _ => True) s254.1 :: HP.mm (some m7) hv false (rInt .i64) (fun l => l.length = 32) s254.2.1 :: HP.row 0 (0) (icells .u32 shaStart) :: HP.row 2 (0) (icells .u32 shaRounds) :: l) := H
         refine s_val wkP F rfl rfl rfl rfl (y_move F rfl rfl) ?_; clear F; intro a F
         refine s_val wkP F rfl rfl rfl rfl (y_extract F rfl rfl rfl) ?_; clear F; intro a F
         refine s_val wkP F rfl rfl rfl rfl (y_extract F rfl rfl rfl) ?_; clear F; intro a F
         refine s_val wkP F rfl rfl rfl rfl (y_assign F rfl rfl) ?_; clear F; intro a F
         refine s_val wkP F rfl rfl rfl rfl (y_assign F rfl rfl) ?_; clear F; intro a F
         refine wpList_nil ?_
         refine c_then ?_
         refine wp_seq ?_
         refine wp_seq ?_
         refine r_lit ?_
         refine s_val wkP F rfl rfl rfl rfl (y_move F rfl rfl) ?_; clear F; intro a F
         refine s_val wkP F rfl rfl rfl rfl (y_lss F rfl rfl rfl) ?_; clear F; intro a F
         refine s_val wkP F rfl rfl rfl rfl (y_move F rfl rfl) ?_; clear F; intro a F
         by_cases hg285 : s254.2.2 < 2
         · replace hm := ifT hg285 hm
           replace F := F.bool (k := 39) (u := .bool true) rfl (congrArg (fun b => Value.bool b) (decide_eq_true hg285))
           refine g_off wkP F rfl rfl rfl rfl rfl rfl rfl ?_; clear F; intro a F
           refine g_off wkP F rfl rfl rfl rfl rfl rfl rfl ?_; clear F; intro a F
           refine s_val wkP F rfl rfl rfl rfl (y_pickT F rfl rfl rfl) ?_; clear F; intro a F
           refine wpList_nil ?_
           refine c_then ?_
           refine x_condT F rfl ?_
           refine wp_exit ?_
           refine c_thenX ?_
           refine c_hit ?_
           obtain rfl := Option.some.inj hm
           refine c_then ?_
           exact ⟨_, rfl, F.cut _ ⟨rfl, rfl, rfl, rfl, trivial⟩, ((((((((((H.cp 10 rfl pers_row).cp 10 rfl pers_row).mv 10 rfl).mv 10 rfl).mv 10 rfl).mv 10 rfl).mv 10 rfl).mv 10 rfl).mv 10 rfl).keep 9 4)⟩
         · replace hm := ifF hg285 hm
           replace F := F.bool (k := 39) (u := .bool false) rfl (congrArg (fun b => Value.bool b) (decide_eq_false hg285))
           refine g_onP F rfl rfl rfl rfl ?_
           refine s_val wkP F rfl rfl rfl rfl (y_move F rfl rfl) ?_; clear F; intro a F
           refine g_onP F rfl rfl rfl rfl ?_
           refine s_val wkP F rfl rfl rfl rfl (y_neq F rfl rfl rfl) ?_; clear F; intro a F
           refine s_val wkP F rfl rfl rfl rfl (y_pickF F rfl rfl rfl) ?_; clear F; intro a F
           refine wpList_nil ?_
           refine c_then ?_
           refine x_condN F rfl (fun hg286 => ?_) (fun hg286 => ?_)
           · replace hm := ifF hg286 hm
             refine wp_exit ?_
             refine c_thenX ?_
             refine c_hit ?_
             obtain rfl := Option.some.inj hm
             refine c_then ?_
             exact ⟨_, rfl, F.cut _ ⟨rfl, rfl, rfl, rfl, trivial⟩, ((((((((((H.cp 10 rfl pers_row).cp 10 rfl pers_row).mv 10 rfl).mv 10 rfl).mv 10 rfl).mv 10 rfl).mv 10 rfl).mv 10 rfl).mv 10 rfl).keep 9 4)⟩
           · replace hm := ifT hg286 hm
             refine wp_skip ?_
             refine c_then ?_
             refine wp_seq ?_
             refine r_lit ?_
             refine s_val wkP F rfl rfl rfl rfl (y_move F rfl rfl) ?_; clear F; intro a F
             obtain ⟨x287, ex287, hn⟩ := ob hm; clear hm; revert hn; intro hm
             refine s_call wkP F rfl rfl rfl rfl (y_call F rfl rfl ent35) (w_shaSum x283.1 p284 c284 w0 _ _  _ ex287 (((H.cp 0 rfl pers_sl).cp 11 rfl pers_row).cp 11 rfl pers_row)) ?_; clear F H; rintro _ w a ⟨rfl, hl288, H⟩ F
             replace H : St w0 w (HP.sl rByte p284 c284 x283.1 :: HP.sl rByte p281 c281 x280.1 :: HP.blk bo0 ([.slice p1 (d.1).length c1, .slice p2 (d.2.1).length c2, .int .i64 (d.2.2.1), .bool (d.2.2.2)]) 71 :: HP.ow (rSl rByte) 33 p1 c1 d.1 :: HP.ow (rPair (rInt .i64) (rSl rByte)) 88 p2 c2 d.2.1 :: HP.blk b10 ([.pointer (some ⟨bo0, 0, none⟩), .map (some m7), .map (some m8), .map (some m9)]) 75 :: HP.mm (some m9) hv false (rInt .i64) (fun l => l.length = 32) (fnil : (List UInt8) → Option Int) :: HP.mm (some m8) (Value.int .i64) true (rBytesN 32) (fun _ => True) s254.1 :: HP.mm (some m7) hv false (rInt .i64) (fun l => l.length = 32) s254.2.1 :: HP.row 0 (0) (icells .u32 shaStart) :: HP.row 2 (0) (icells .u32 shaRounds) :: l) := H
             refine s_allocA wkP F rfl rfl rfl agz35 rfl H ?_; clear F H; intro b289 w a H F
             replace H : St w0 w (HP.blk b289 (bcells (List.replicate 32 0)) 35 :: HP.sl rByte p284 c284 x283.1 :: HP.sl rByte p281 c281 x280.1 :: HP.blk bo0 ([.slice p1 (d.1).length c1, .slice p2 (d.2.1).length c2, .int .i64 (d.2.2.1), .bool (d.2.2.2)]) 71 :: HP.ow (rSl rByte) 33 p1 c1 d.1 :: HP.ow (rPair (rInt .i64) (rSl rByte)) 88 p2 c2 d.2.1 :: HP.blk b10 ([.pointer (some ⟨bo0, 0, none⟩), .map (some m7), .map (some m8), .map (some m9)]) 75 :: HP.mm (some m9) hv false (rInt .i64) (fun l => l.length = 32) (fnil : (List UInt8) → Option Int) :: HP.mm (some m8) (Value.int .i64) true (rBytesN 32) (fun _ => True) s254.1 :: HP.mm (some m7) hv false (rInt .i64) (fun l => l.length = 32) s254.2.1 :: HP.row 0 (0) (icells .u32 shaStart) :: HP.row 2 (0) (icells .u32 shaRounds) :: l) := H
             refine s_storeA wkP F rfl rfl agg35 rfl rfl rfl H 0 rfl ((bcells_length _).trans hl288) ((bcells_length _).trans (List.length_replicate (n := 32))) (bcells_flat _) ?_; clear H; intro w H
             replace H : St w0 w (HP.blk b289 (bcells x287) 35 :: HP.sl rByte p284 c284 x283.1 :: HP.sl rByte p281 c281 x280.1 :: HP.blk bo0 ([.slice p1 (d.1).length c1, .slice p2 (d.2.1).length c2, .int .i64 (d.2.2.1), .bool (d.2.2.2)]) 71 :: HP.ow (rSl rByte) 33 p1 c1 d.1 :: HP.ow (rPair (rInt .i64) (rSl rByte)) 88 p2 c2 d.2.1 :: HP.blk b10 ([.pointer (some ⟨bo0, 0, none⟩), .map (some m7), .map (some m8), .map (some m9)]) 75 :: HP.mm (some m9) hv false (rInt .i64) (fun l => l.length = 32) (fnil : (List UInt8) → Option Int) :: HP.mm (some m8) (Value.int .i64) true (rBytesN 32) (fun _ => True) s254.1 :: HP.mm (some m7) hv false (rInt .i64) (fun l => l.length = 32) s254.2.1 :: HP.row 0 (0) (icells .u32 shaStart) :: HP.row 2 (0) (icells .u32 shaRounds) :: l) := H
             refine wpList_nil ?_
             refine c_then ?_
             refine wp_seq ?_
             obtain ⟨es290, H⟩ := H.mmOpen 9 rfl; replace H : St w0 w (HP.blk b289 (bcells x287) 35 :: HP.sl rByte p284 c284 x283.1 :: HP.sl rByte p281 c281 x280.1 :: HP.blk bo0 ([.slice p1 (d.1).length c1, .slice p2 (d.2.1).length c2, .int .i64 (d.2.2.1), .bool (d.2.2.2)]) 71 :: HP.ow (rSl rByte) 33 p1 c1 d.1 :: HP.ow (rPair (rInt .i64) (rSl rByte)) 88 p2 c2 d.2.1 :: HP.blk b10 ([.pointer (some ⟨bo0, 0, none⟩), .map (some m7), .map (some m8), .map (some m9)]) 75 :: HP.mm (some m9) hv false (rInt .i64) (fun l => l.length = 32) (fnil : (List UInt8) → Option Int) :: HP.mm (some m8) (Value.int .i64) true (rBytesN 32) (fun _ => True) s254.1 :: HP.mx (some m7) hv false (rInt .i64) (fun l => l.length = 32) es290 s254.2.1 :: HP.row 0 (0) (icells .u32 shaStart) :: HP.row 2 (0) (icells .u32 shaRounds) :: l) := H
             obtain ⟨cs291, hcs291, H⟩ := H.mxGet 9 rfl x287 (zc := [Value.int .i64 0]) (z0 := 0) (fun _ => rfl)
             obtain rfl := H.rcI 0 rfl
             replace H := H.dp 0 rfl
             refine q_region (fun u => St w0 u (HP.blk b289 (bcells x287) 35 :: HP.sl rByte p284 c284 x283.1 :: HP.sl rByte p281 c281 x280.1 :: HP.blk bo0 ([.slice p1 (d.1).length c1, .slice p2 (d.2.1).length c2, .int .i64 (d.2.2.1), .bool (d.2.2.2)]) 71 :: HP.ow (rSl rByte) 33 p1 c1 d.1 :: HP.ow (rPair (rInt .i64) (rSl rByte)) 88 p2 c2 d.2.1 :: HP.blk b10 ([.pointer (some ⟨bo0, 0, none⟩), .map (some m7), .map (some m8), .map (some m9)]) 75 :: HP.mm (some m9) hv false (rInt .i64) (fun l => l.length = 32) (fnil : (List UInt8) → Option Int) :: HP.mm (some m8) (Value.int .i64) true (rBytesN 32) (fun _ => True) s254.1 :: HP.mx (some m7) hv false (rInt .i64) (fun l => l.length = 32) es290 s254.2.1 :: HP.row 0 (0) (icells .u32 shaStart) :: HP.row 2 (0) (icells .u32 shaRounds) :: l)) (by kernel_rfl) (by kernel_rfl) H.drew ?_
             refine q_val F rfl rfl rfl (fun u hu => y_move F rfl rfl) ?_; clear F; intro a F
             refine q_val F rfl rfl rfl (fun u hu => y_nilCheck F rfl rfl) ?_; clear F; intro a F
             refine q_val F rfl rfl rfl (fun u hu => y_fieldAddr F fld75_1 rfl rfl) ?_; clear F; intro a F
             refine q_val F rfl rfl rfl (fun u hu => y_load1 F plain72 rfl rfl (row_at (v := .map (some m7)) ((hu.blk 6 rfl).row) rfl)) ?_; clear F; intro a F
             refine q_val F rfl rfl rfl (fun u hu => y_loadA F agg35 rfl rfl ((hu.blk 0 rfl).row) ((bcells_length _).trans hl288)) ?_; clear F; intro a F
             refine q_val F rfl rfl rfl (fun u hu => y_mxGet2 (agg := false) (zc := [Value.int .i64 0]) F Tryd.underlying72 (keyH key35) (fun w => zero3.run w) rfl hu 9 rfl rfl (k := x287) rfl hl288 hcs291) ?_; clear F; intro a F
             refine q_val F rfl rfl rfl (fun u hu => y_move F rfl rfl) ?_; clear F; intro a F
             refine q_val F rfl rfl rfl (fun u hu => y_extract F rfl rfl rfl) ?_; clear F; intro a F
             refine q_val F rfl rfl rfl (fun u hu => y_extract F rfl rfl rfl) ?_; clear F; intro a F
             refine q_val F rfl rfl rfl (fun u hu => y_assign F rfl rfl) ?_; clear F; intro a F
             refine q_val F rfl rfl rfl (fun u hu => y_assign F rfl rfl) ?_; clear F; intro a F
             refine q_nil ?_; clear H; intro w H
             replace H : St w0 w (HP.blk b289 (bcells x287) 35 :: HP.sl rByte p284 c284 x283.1 :: HP.sl rByte p281 c281 x280.1 :: HP.blk bo0 ([.slice p1 (d.1).length c1, .slice p2 (d.2.1).length c2, .int .i64 (d.2.2.1), .bool (d.2.2.2)]) 71 :: HP.ow (rSl rByte) 33 p1 c1 d.1 :: HP.ow (rPair (rInt .i64) (rSl rByte)) 88 p2 c2 d.2.1 :: HP.blk b10 ([.pointer (some ⟨bo0, 0, none⟩), .map (some m7), .map (some m8), .map (some m9)]) 75 :: HP.mm (some m9) hv false (rInt .i64) (fun l => l.length = 32) (fnil : (List UInt8) → Option Int) :: HP.mm (some m8) (Value.int .i64) true (rBytesN 32) (fun _ => True) s254.1 :: HP.mm (some m7) hv false (rInt .i64) (fun l => l.length = 32) s254.2.1 :: HP.row 0 (0) (icells .u32 shaStart) :: HP.row 2 (0) (icells .u32 shaRounds) :: l) := H.mxShut 9 rfl
             refine c_then ?_
             refine wp_seq ?_
             refine r_lit ?_
             refine s_val wkP F rfl rfl rfl rfl (y_move F rfl rfl) ?_; clear F; intro a F
             refine s_val wkP F rfl rfl rfl rfl (y_not F rfl rfl) ?_; clear F; intro a F
             refine wpList_nil ?_
             refine c_then ?_
             obtain ⟨r297, er297, hm297⟩ := ob hm; clear hm; revert er297; intro hm
             refine x_mid (fun aa ww => Fr ⟨74, []⟩ aa [(0, .pointer (some ⟨bo0, 0, none⟩)), (4, .pointer (some ⟨b10, 0, none⟩)), (19, .int .i64 (x11)), (20, .int .i64 (s254.2.2))] ∧ St w0 ww (HP.blk b289 (bcells x287) 35 :: HP.blk bo0 ([.slice p1 (d.1).length c1, .slice p2 (d.2.1).length c2, .int .i64 (d.2.2.1), .bool (d.2.2.2)]) 71 :: HP.ow (rSl rByte) 33 p1 c1 d.1 :: HP.ow (rPair (rInt .i64) (rSl rByte)) 88 p2 c2 d.2.1 :: HP.blk b10 ([.pointer (some ⟨bo0, 0, none⟩), .map (some m7), .map (some m8), .map (some m9)]) 75 :: HP.mm (some m9) hv false (rInt .i64) (fun l => l.length = 32) (fnil : (List UInt8) → Option Int) :: HP.mm (some m8) (Value.int .i64) true (rBytesN 32) (fun _ => True) r297.1 :: HP.mm (some m7) hv false (rInt .i64) (fun l => l.length = 32) r297.2 :: HP.row 0 (0) (icells .u32 shaStart) :: HP.row 2 (0) (icells .u32 shaRounds) :: l)) ?_ ?_
             · skip
               refine x_cond F rfl (fun hg298 => ?_) (fun hg298 => ?_)
               · replace hm := ifT hg298 hm
                 refine mix_region [12, 14, 15, 17] [17] (.step 0 0 (.step 0 1 (.step 0 2 (.step 1 3 (.step 1 4 (.step 0 5 (.step 0 6 (.step 0 7 (.step 1 8 (.step 0 9 (.step 0 10 (.step 0 11 (.step 2 12 (.step 0 13 (.step 2 14 (.step 2 15 (.step 0 16 (.step 3 17 .done)))))))))))))))))) (fun u => ∃ ls, St w0 u (HP.blk b289 (bcells x287) 35 :: ls)) (by kernel_rfl) (by kernel_rfl) ⟨_, (H.drew.mv 0 rfl)⟩ ?_
                 replace H := H.drew
                 generalize w.drew = w at H ⊢
                 refine m_pure F rfl rfl rfl rfl (fun u hu => y_move F rfl rfl) ?_; clear F; intro a F
                 refine m_pure F rfl rfl rfl rfl (fun u hu => y_nilCheck F rfl rfl) ?_; clear F; intro a F
                 refine m_pure F rfl rfl rfl rfl (fun u hu => y_fieldAddr F fld75_1 rfl rfl) ?_; clear F; intro a F
                 refine m_read F rfl rfl rfl rfl (y_load1 F plain72 rfl rfl (row_at (v := .map (some m7)) ((H.blk 6 rfl).row) rfl)) ?_; clear F; intro a F
                 refine m_read F rfl rfl rfl rfl (y_loadA F agg35 rfl rfl ((H.blk 0 rfl).row) ((bcells_length _).trans hl288)) ?_; clear F; intro a F
                 refine m_pure F rfl rfl rfl rfl (fun u hu => y_move F rfl rfl) ?_; clear F; intro a F
                 refine m_pure F rfl rfl rfl rfl (fun u hu => y_nilCheck F rfl rfl) ?_; clear F; intro a F
                 refine m_pure F rfl rfl rfl rfl (fun u hu => y_fieldAddr F fld75_2 rfl rfl) ?_; clear F; intro a F
                 refine m_read F rfl rfl rfl rfl (y_load1 F plain73 rfl rfl (row_at (v := .map (some m8)) ((H.blk 6 rfl).row) rfl)) ?_; clear F; intro a F
                 refine m_pure F rfl rfl rfl rfl (fun u hu => y_move F rfl rfl) ?_; clear F; intro a F
                 refine m_pure F rfl rfl rfl rfl (fun u hu => y_move F rfl rfl) ?_; clear F; intro a F
                 refine m_pure F rfl rfl rfl rfl (fun u hu => y_loadA F agg35 rfl rfl ((hu.choose_spec.blk 0 rfl).row) ((bcells_length _).trans hl288)) ?_; clear F; intro a F
                 refine m_heavy rfl rfl ?_
                 refine s_mmEntry (agg := false) (R := (rInt .i64)) (ek := hv) (ok := (fun l => l.length = 32)) wkP F rfl rfl rfl Tryd.underlying72 (keyH key35) (zc := [Value.int .i64 0]) (z0 := 0) (fun w => zero3.run w) (fun _ => rfl) rfl H 9 rfl rfl (k := x287) rfl hl288 ?_; clear F H; intro v301 q301 w a H F
                 replace H : St w0 w (HP.blk b289 (bcells x287) 35 :: HP.sl rByte p284 c284 x283.1 :: HP.sl rByte p281 c281 x280.1 :: HP.blk bo0 ([.slice p1 (d.1).length c1, .slice p2 (d.2.1).length c2, .int .i64 (d.2.2.1), .bool (d.2.2.2)]) 71 :: HP.ow (rSl rByte) 33 p1 c1 d.1 :: HP.ow (rPair (rInt .i64) (rSl rByte)) 88 p2 c2 d.2.1 :: HP.blk b10 ([.pointer (some ⟨bo0, 0, none⟩), .map (some m7), .map (some m8), .map (some m9)]) 75 :: HP.mm (some m9) hv false (rInt .i64) (fun l => l.length = 32) (fnil : (List UInt8) → Option Int) :: HP.mm (some m8) (Value.int .i64) true (rBytesN 32) (fun _ => True) s254.1 :: HP.me m7 hv false (rInt .i64) (fun l => l.length = 32) s254.2.1 x287 q301 :: HP.row 0 (0) (icells .u32 shaStart) :: HP.row 2 (0) (icells .u32 shaRounds) :: l) := H
                 refine wpList_nil ?_; refine c_then ⟨⟨_, (H.mv 0 rfl)⟩, ?_⟩
                 refine m_pure F rfl rfl rfl rfl (fun u hu => y_extract F rfl rfl rfl) ?_; clear F; intro a F
                 refine m_heavy rfl rfl ?_
                 refine s_entStore wkP F rfl rfl rfl H 9 rfl inj_hv hl288 rfl rfl (cs := [.int .i64 (s254.2.2)]) rfl (v := s254.2.2) (fun gg => rfl) ?_; clear H; intro w H
                 replace H : St w0 w (HP.blk b289 (bcells x287) 35 :: HP.sl rByte p284 c284 x283.1 :: HP.sl rByte p281 c281 x280.1 :: HP.blk bo0 ([.slice p1 (d.1).length c1, .slice p2 (d.2.1).length c2, .int .i64 (d.2.2.1), .bool (d.2.2.2)]) 71 :: HP.ow (rSl rByte) 33 p1 c1 d.1 :: HP.ow (rPair (rInt .i64) (rSl rByte)) 88 p2 c2 d.2.1 :: HP.blk b10 ([.pointer (some ⟨bo0, 0, none⟩), .map (some m7), .map (some m8), .map (some m9)]) 75 :: HP.mm (some m9) hv false (rInt .i64) (fun l => l.length = 32) (fnil : (List UInt8) → Option Int) :: HP.mm (some m8) (Value.int .i64) true (rBytesN 32) (fun _ => True) s254.1 :: HP.mm (some m7) hv false (rInt .i64) (fun l => l.length = 32) (fset x287 s254.2.2 s254.2.1) :: HP.row 0 (0) (icells .u32 shaStart) :: HP.row 2 (0) (icells .u32 shaRounds) :: l) := H
                 refine wpList_nil ?_; refine c_then ⟨⟨_, (H.mv 0 rfl)⟩, ?_⟩
                 refine m_heavy rfl rfl ?_
                 refine s_mmEntry (agg := true) (R := (rBytesN 32)) (ek := (Value.int .i64)) (ok := (fun _ => True)) wkP F rfl rfl rfl Tryd.underlying73 (keyInt Tryd.underlying3) (zc := (bcells (List.replicate 32 0))) (z0 := (List.replicate 32 0)) (fun w => aggz35.run_zero w) (fun _ => ⟨rfl, List.length_replicate⟩) rfl H 8 rfl rfl (k := s254.2.2) rfl trivial ?_; clear F H; intro v302 q302 w a H F
                 replace H : St w0 w (HP.blk b289 (bcells x287) 35 :: HP.sl rByte p284 c284 x283.1 :: HP.sl rByte p281 c281 x280.1 :: HP.blk bo0 ([.slice p1 (d.1).length c1, .slice p2 (d.2.1).length c2, .int .i64 (d.2.2.1), .bool (d.2.2.2)]) 71 :: HP.ow (rSl rByte) 33 p1 c1 d.1 :: HP.ow (rPair (rInt .i64) (rSl rByte)) 88 p2 c2 d.2.1 :: HP.blk b10 ([.pointer (some ⟨bo0, 0, none⟩), .map (some m7), .map (some m8), .map (some m9)]) 75 :: HP.mm (some m9) hv false (rInt .i64) (fun l => l.length = 32) (fnil : (List UInt8) → Option Int) :: HP.me m8 (Value.int .i64) true (rBytesN 32) (fun _ => True) s254.1 s254.2.2 q302 :: HP.mm (some m7) hv false (rInt .i64) (fun l => l.length = 32) (fset x287 s254.2.2 s254.2.1) :: HP.row 0 (0) (icells .u32 shaStart) :: HP.row 2 (0) (icells .u32 shaRounds) :: l) := H
                 refine wpList_nil ?_; refine c_then ⟨⟨_, (H.mv 0 rfl)⟩, ?_⟩
                 refine m_pure F rfl rfl rfl rfl (fun u hu => y_extract F rfl rfl rfl) ?_; clear F; intro a F
                 refine m_last rfl rfl ?_
                 refine s_entStore wkP F rfl rfl rfl H 8 rfl inj_int trivial rfl rfl (cs := bcells x287) rfl (v := x287) (fun gg => ⟨rfl, hl288⟩) ?_; clear H; intro w H
                 replace H : St w0 w (HP.blk b289 (bcells x287) 35 :: HP.sl rByte p284 c284 x283.1 :: HP.sl rByte p281 c281 x280.1 :: HP.blk bo0 ([.slice p1 (d.1).length c1, .slice p2 (d.2.1).length c2, .int .i64 (d.2.2.1), .bool (d.2.2.2)]) 71 :: HP.ow (rSl rByte) 33 p1 c1 d.1 :: HP.ow (rPair (rInt .i64) (rSl rByte)) 88 p2 c2 d.2.1 :: HP.blk b10 ([.pointer (some ⟨bo0, 0, none⟩), .map (some m7), .map (some m8), .map (some m9)]) 75 :: HP.mm (some m9) hv false (rInt .i64) (fun l => l.length = 32) (fnil : (List UInt8) → Option Int) :: HP.mm (some m8) (Value.int .i64) true (rBytesN 32) (fun _ => True) (fset s254.2.2 x287 s254.1) :: HP.mm (some m7) hv false (rInt .i64) (fun l => l.length = 32) (fset x287 s254.2.2 s254.2.1) :: HP.row 0 (0) (icells .u32 shaStart) :: HP.row 2 (0) (icells .u32 shaRounds) :: l) := H
                 refine wpList_nil ?_; refine c_then ?_
                 refine m_nil ?_
                 obtain rfl := Option.some.inj hm
                 refine c_then ?_
                 exact ⟨F.cut _ ⟨rfl, rfl, rfl, rfl, trivial⟩, (((((((((((H.cp 11 rfl pers_row).cp 11 rfl pers_row).mv 11 rfl).mv 11 rfl).mv 11 rfl).mv 11 rfl).mv 11 rfl).mv 11 rfl).mv 11 rfl).mv 9 rfl).keep 10 4)⟩
               · replace hm := ifF (nT hg298) hm
                 refine wp_skip ?_
                 obtain rfl := Option.some.inj hm
                 refine c_then ?_
                 exact ⟨F.cut _ ⟨rfl, rfl, rfl, rfl, trivial⟩, (((((((((((H.cp 11 rfl pers_row).cp 11 rfl pers_row).mv 11 rfl).mv 11 rfl).mv 11 rfl).mv 11 rfl).mv 11 rfl).mv 11 rfl).mv 11 rfl).mv 9 rfl).keep 10 4)⟩
             · skip
               clear F H hm
               rintro a w ⟨F, H⟩; have hm := hm297; clear hm297
               refine c_blkN ?_
               obtain rfl := Option.some.inj hm
               refine c_then ?_
               exact ⟨_, rfl, F.cut _ ⟨rfl, rfl, rfl, rfl, trivial⟩, ((((((((((H.cp 9 rfl pers_row).cp 9 rfl pers_row).mv 9 rfl).mv 9 rfl).mv 9 rfl).mv 9 rfl).mv 9 rfl).mv 9 rfl).mv 9 rfl).keep 9 3)⟩
     · skip
       clear F H hm
       rintro a w ⟨r279, rfl, F, H⟩; have hm := elimL hm279; clear hm279
       refine c_then ?_
       refine r_lit ?_
       refine s_val wkP F rfl rfl rfl rfl (i_add F rfl rfl rfl) ?_; clear F; intro a F
       refine s_val wkP F rfl rfl rfl rfl (y_move F rfl rfl) ?_; clear F; intro a F
       refine wpList_nil ?_
       refine c_then ?_; obtain rfl := Option.some.inj hm
       exact ⟨_, rfl, ⟨F.cut _ ⟨rfl, rfl, rfl, rfl, trivial⟩, ((((((((((H.cp 8 rfl pers_row).cp 8 rfl pers_row).mv 8 rfl).mv 8 rfl).mv 8 rfl).mv 8 rfl).mv 8 rfl).mv 8 rfl).mv 8 rfl).keep 9 2)⟩⟩
   · replace hm := ifF hg255 hm
     refine wp_exit ?_
     refine c_thenX ?_
     refine c_thenX ?_; obtain rfl := Option.some.inj hm; refine ⟨_, rfl, ?_⟩; rintro rfl
     refine c_hit ?_
     refine c_then ?_
     exact ⟨_, rfl, F.cut _ ⟨rfl, trivial⟩, ((((((((((H.cp 8 rfl pers_row).cp 8 rfl pers_row).mv 8 rfl).mv 8 rfl).mv 8 rfl).mv 8 rfl).mv 8 rfl).mv 8 rfl).mv 8 rfl).keep 9 2)⟩
 · skip
   clear F H hm
   rintro a w ⟨r157, rfl, F, H⟩; have hm := elimL hm157; clear hm157
   refine c_then ?_
   refine wp_seq ?_
   refine r_lit ?_
   refine s_val wkP F rfl rfl rfl rfl (y_move F rfl rfl) ?_; clear F; intro a F
   refine s_val wkP F rfl rfl rfl rfl (y_assign F rfl rfl) ?_; clear F; intro a F
   refine s_val wkP F rfl rfl rfl rfl (y_assign F rfl rfl) ?_; clear F; intro a F
   refine wpList_nil ?_
   refine c_then ?_
   refine wp_ret ?_
   obtain rfl := Option.some.inj hm
   refine x_ret2 F rfl rfl rfl ?_
   exact ⟨_, rfl, b10, m7, m8, m9, rfl, ((((((((H.mv 2 rfl).mv 2 rfl).mv 2 rfl).mv 4 rfl).mv 5 rfl).mv 6 rfl).mv 6 rfl).keep 7 2)⟩
theorem ent9 : ∀ args w, (callFunc 9 args).run Tryd.prog w = .ok (.enter 9 args) w := enters Tryd.func9 (by kernel_rfl) rfl
theorem ent10 : ∀ args w, (callFunc 10 args).run Tryd.prog w = .ok (.enter 10 args) w := enters Tryd.func10 (by kernel_rfl) rfl
theorem ent11 : ∀ args w, (callFunc 11 args).run Tryd.prog w = .ok (.enter 11 args) w := enters Tryd.func11 (by kernel_rfl) rfl
theorem ent14 : ∀ args w, (callFunc 14 args).run Tryd.prog w = .ok (.enter 14 args) w := enters Tryd.func14 (by kernel_rfl) rfl
theorem ent17 : ∀ args w, (callFunc 17 args).run Tryd.prog w = .ok (.enter 17 args) w := enters Tryd.func17 (by kernel_rfl) rfl
set_option maxRecDepth 100000 in
set_option maxHeartbeats 4000000 in
theorem w_m_triremelaw05_speaks   (w0 w : World) (l : List HP)  (r : Bool) (hm : m_triremelaw05_speaks  = some r) (H : St w0 w (HP.row 0 (0) (icells .u32 shaStart) :: HP.row 2 (0) (icells .u32 shaRounds) :: l)) :
  Calls Tryd.prog 8 [].toArray w (fun e w' => ∃ v, e = .returned v ∧ v = .bool (r) ∧ St w0 w' (l)) := by
 unfold m_triremelaw05_speaks at hm
 refine x_enter Tryd.func8 rfl rfl rfl ?_
 intro a F
 replace F : Fr ⟨83, []⟩ a [] := F
 refine wp_seq ?_
 refine r_lit ?_
 refine s_val wkP F rfl rfl rfl rfl (y_assign F rfl rfl) ?_; clear F; intro a F
 refine wpList_nil ?_
 refine c_then ?_
 refine wp_seq ?_
 refine r_lit ?_
 obtain ⟨x1, ex1, hn⟩ := ob hm; clear hm; revert hn; intro hm
 refine s_call wkP F rfl rfl rfl rfl (y_call F rfl rfl ent9) (w_diskNew 4 w0 _ _  _ ex1 H) ?_; clear F H; rintro _ w a ⟨b2, p3, c3, p4, c4, rfl, H⟩ F
 replace H : St w0 w (HP.blk b2 ([.slice p3 (x1.1.1).length c3, .slice p4 (x1.1.2.1).length c4, .int .i64 (x1.1.2.2.1), .bool (x1.1.2.2.2)]) 71 :: HP.ow (rSl rByte) 33 p3 c3 x1.1.1 :: HP.ow (rPair (rInt .i64) (rSl rByte)) 88 p4 c4 x1.1.2.1 :: HP.row 0 (0) (icells .u32 shaStart) :: HP.row 2 (0) (icells .u32 shaRounds) :: l) := H
 refine s_val wkP F rfl rfl rfl rfl (y_move F rfl rfl) ?_; clear F; intro a F
 refine s_val wkP F rfl rfl rfl rfl (y_extract F rfl rfl rfl) ?_; clear F; intro a F
 refine s_val wkP F rfl rfl rfl rfl (y_extract F rfl rfl rfl) ?_; clear F; intro a F
 refine s_val wkP F rfl rfl rfl rfl (y_assign F rfl rfl) ?_; clear F; intro a F
 refine s_val wkP F rfl rfl rfl rfl (y_assign F rfl rfl) ?_; clear F; intro a F
 refine wpList_nil ?_
 refine c_then ?_
 refine wp_seq ?_
 refine wp_seq ?_
 refine r_lit ?_
 refine s_val wkP F rfl rfl rfl rfl (y_move F rfl rfl) ?_; clear F; intro a F
 refine s_val wkP F rfl rfl rfl rfl (y_eqlPN F rfl rfl rfl Tryd.underlying25) ?_; clear F; intro a F
 refine wpList_nil ?_
 refine c_then ?_
 refine x_condF F rfl ?_
 refine wp_skip ?_
 refine c_then ?_
 refine wp_seq ?_
 refine r_lit ?_
 refine s_val wkP F rfl rfl rfl rfl (y_move F rfl rfl) ?_; clear F; intro a F
 obtain ⟨x5, ex5, hn⟩ := ob hm; clear hm; revert hn; intro hm
 refine s_call wkP F rfl rfl rfl rfl (y_call F rfl rfl ent10) (w_stOpen (x1.1.1, x1.1.2.1, x1.1.2.2.1, x1.1.2.2.2) b2 p3 c3 p4 c4 w0 _ _  _ ex5 (((((H.mv 2 rfl).mv 2 rfl).mv 2 rfl).cp 4 rfl pers_row).cp 4 rfl pers_row)) ?_; clear F H; rintro _ w a ⟨b6, m7, m8, m9, rfl, H⟩ F
 replace H : St w0 w (HP.blk b6 ([.pointer (some ⟨b2, 0, none⟩), .map (some m7), .map (some m8), .map (some m9)]) 75 :: HP.mm (some m7) hv false (rInt .i64) (fun l => l.length = 32) x5.1.1 :: HP.mm (some m8) (Value.int .i64) true (rBytesN 32) (fun _ => True) x5.1.2.1 :: HP.mm (some m9) hv false (rInt .i64) (fun l => l.length = 32) x5.1.2.2 :: HP.blk b2 ([.slice p3 (x1.1.1).length c3, .slice p4 (x1.1.2.1).length c4, .int .i64 (x1.1.2.2.1), .bool (x1.1.2.2.2)]) 71 :: HP.ow (rSl rByte) 33 p3 c3 x1.1.1 :: HP.ow (rPair (rInt .i64) (rSl rByte)) 88 p4 c4 x1.1.2.1 :: HP.row 0 (0) (icells .u32 shaStart) :: HP.row 2 (0) (icells .u32 shaRounds) :: l) := H
 refine s_val wkP F rfl rfl rfl rfl (y_move F rfl rfl) ?_; clear F; intro a F
 refine s_val wkP F rfl rfl rfl rfl (y_extract F rfl rfl rfl) ?_; clear F; intro a F
 refine s_val wkP F rfl rfl rfl rfl (y_extract F rfl rfl rfl) ?_; clear F; intro a F
 refine s_val wkP F rfl rfl rfl rfl (y_assign F rfl rfl) ?_; clear F; intro a F
 refine s_val wkP F rfl rfl rfl rfl (y_assign F rfl rfl) ?_; clear F; intro a F
 refine wpList_nil ?_
 refine c_then ?_
 refine wp_seq ?_
 refine wp_seq ?_
 refine r_lit ?_
 refine s_val wkP F rfl rfl rfl rfl (y_move F rfl rfl) ?_; clear F; intro a F
 refine s_val wkP F rfl rfl rfl rfl (y_eqlPN F rfl rfl rfl Tryd.underlying29) ?_; clear F; intro a F
 refine s_val wkP F rfl rfl rfl rfl (y_move F rfl rfl) ?_; clear F; intro a F
 refine g_onP F rfl rfl rfl rfl ?_
 refine s_val wkP F rfl rfl rfl rfl (y_move F rfl rfl) ?_; clear F; intro a F
 refine g_onP F rfl rfl rfl rfl ?_
 refine s_val wkP F rfl rfl rfl rfl (y_neq F rfl rfl rfl) ?_; clear F; intro a F
 refine s_val wkP F rfl rfl rfl rfl (y_pickF F rfl rfl rfl) ?_; clear F; intro a F
 refine wpList_nil ?_
 refine c_then ?_
 refine x_condN F rfl (fun hg10 => ?_) (fun hg10 => ?_)
 · replace hm := ifF hg10 hm
   refine wp_seq ?_
   refine r_lit ?_
   refine s_val wkP F rfl rfl rfl rfl (y_assign F rfl rfl) ?_; clear F; intro a F
   refine wpList_nil ?_
   refine c_then ?_
   refine wp_ret ?_
   refine c_thenR ?_
   obtain rfl := Option.some.inj hm
   refine x_ret1 F rfl rfl ?_
   exact ⟨_, rfl, rfl, (H.keep 0 9)⟩
 · replace hm := ifT hg10 hm
   refine wp_skip ?_
   refine c_then ?_
   refine wp_seq ?_
   refine r_lit ?_
   refine s_val wkP F rfl rfl rfl rfl (y_move F rfl rfl) ?_; clear F; intro a F
   obtain ⟨x12, ex12, hn⟩ := ob hm; clear hm; revert hn; intro hm
   refine s_buildC wkP F rfl rfl rfl elem33 zero5 rfl rfl rfl rfl (by simp [Value.cells]) (by decide) H ?_; clear F H; intro b11 w a H F
   replace H : St w0 w (HP.blk b11 ([.int .u8 (97)]) 5 :: HP.blk b6 ([.pointer (some ⟨b2, 0, none⟩), .map (some m7), .map (some m8), .map (some m9)]) 75 :: HP.mm (some m7) hv false (rInt .i64) (fun l => l.length = 32) x5.1.1 :: HP.mm (some m8) (Value.int .i64) true (rBytesN 32) (fun _ => True) x5.1.2.1 :: HP.mm (some m9) hv false (rInt .i64) (fun l => l.length = 32) x5.1.2.2 :: HP.blk b2 ([.slice p3 (x1.1.1).length c3, .slice p4 (x1.1.2.1).length c4, .int .i64 (x1.1.2.2.1), .bool (x1.1.2.2.2)]) 71 :: HP.ow (rSl rByte) 33 p3 c3 x1.1.1 :: HP.ow (rPair (rInt .i64) (rSl rByte)) 88 p4 c4 x1.1.2.1 :: HP.row 0 (0) (icells .u32 shaStart) :: HP.row 2 (0) (icells .u32 shaRounds) :: l) := H
   replace H : St w0 w (HP.ow rByte 5 (some ⟨b11, 0, none⟩) (([x12]).length) ([x12]) :: HP.blk b6 ([.pointer (some ⟨b2, 0, none⟩), .map (some m7), .map (some m8), .map (some m9)]) 75 :: HP.mm (some m7) hv false (rInt .i64) (fun l => l.length = 32) x5.1.1 :: HP.mm (some m8) (Value.int .i64) true (rBytesN 32) (fun _ => True) x5.1.2.1 :: HP.mm (some m9) hv false (rInt .i64) (fun l => l.length = 32) x5.1.2.2 :: HP.blk b2 ([.slice p3 (x1.1.1).length c3, .slice p4 (x1.1.2.1).length c4, .int .i64 (x1.1.2.2.1), .bool (x1.1.2.2.2)]) 71 :: HP.ow (rSl rByte) 33 p3 c3 x1.1.1 :: HP.ow (rPair (rInt .i64) (rSl rByte)) 88 p4 c4 x1.1.2.1 :: HP.row 0 (0) (icells .u32 shaStart) :: HP.row 2 (0) (icells .u32 shaRounds) :: l) := H.blkOw (R := rByte) 0 rfl (fun gg => ⟨[[.int .u8 (97)]], rfl, (congrArg (fun z => [Value.int .u8 z]) (u8O_some ex12).symm), trivial⟩) (by simp)
   refine s_convSl wkP F rfl rfl rfl Tryd.underlying33 Tryd.underlying5 rfl rfl H 0 rfl ?_; clear F H; intro w a H F
   replace H : St w0 w (HP.sl rByte (some ⟨b11, 0, none⟩) (([x12]).length) ([x12]) :: HP.blk b6 ([.pointer (some ⟨b2, 0, none⟩), .map (some m7), .map (some m8), .map (some m9)]) 75 :: HP.mm (some m7) hv false (rInt .i64) (fun l => l.length = 32) x5.1.1 :: HP.mm (some m8) (Value.int .i64) true (rBytesN 32) (fun _ => True) x5.1.2.1 :: HP.mm (some m9) hv false (rInt .i64) (fun l => l.length = 32) x5.1.2.2 :: HP.blk b2 ([.slice p3 (x1.1.1).length c3, .slice p4 (x1.1.2.1).length c4, .int .i64 (x1.1.2.2.1), .bool (x1.1.2.2.2)]) 71 :: HP.ow (rSl rByte) 33 p3 c3 x1.1.1 :: HP.ow (rPair (rInt .i64) (rSl rByte)) 88 p4 c4 x1.1.2.1 :: HP.row 0 (0) (icells .u32 shaStart) :: HP.row 2 (0) (icells .u32 shaRounds) :: l) := H
   obtain ⟨x13, ex13, hn⟩ := ob hm; clear hm; revert hn; intro hm
   refine s_call wkP F rfl rfl rfl rfl (y_call F rfl rfl ent11) (w_stPut ((x1.1.1, x1.1.2.1, x1.1.2.2.1, x1.1.2.2.2), x5.1.1, x5.1.2.1, x5.1.2.2) ([x12]) b6 b2 p3 c3 p4 c4 m7 m8 m9 (some ⟨b11, 0, none⟩) (([x12]).length) w0 _ _  _ ex13 ((((((((((H.cp 0 rfl pers_sl).mv 5 rfl).mv 5 rfl).mv 5 rfl).mv 8 rfl).mv 8 rfl).mv 8 rfl).mv 8 rfl).cp 10 rfl pers_row).cp 10 rfl pers_row)) ?_; clear F H; rintro _ w a ⟨p15, c15, p16, c16, m17, m18, m19, rfl, hl14, H⟩ F
   replace H : St w0 w (HP.blk b6 ([.pointer (some ⟨b2, 0, none⟩), .map (some m17), .map (some m18), .map (some m19)]) 75 :: HP.blk b2 ([.slice p15 (x13.2.2.1.1).length c15, .slice p16 (x13.2.2.1.2.1).length c16, .int .i64 (x13.2.2.1.2.2.1), .bool (x13.2.2.1.2.2.2)]) 71 :: HP.ow (rSl rByte) 33 p15 c15 x13.2.2.1.1 :: HP.ow (rPair (rInt .i64) (rSl rByte)) 88 p16 c16 x13.2.2.1.2.1 :: HP.mm (some m17) hv false (rInt .i64) (fun l => l.length = 32) x13.2.2.2.1 :: HP.mm (some m18) (Value.int .i64) true (rBytesN 32) (fun _ => True) x13.2.2.2.2.1 :: HP.mm (some m19) hv false (rInt .i64) (fun l => l.length = 32) x13.2.2.2.2.2 :: HP.sl rByte (some ⟨b11, 0, none⟩) (([x12]).length) ([x12]) :: HP.row 0 (0) (icells .u32 shaStart) :: HP.row 2 (0) (icells .u32 shaRounds) :: l) := H
   refine s_val wkP F rfl rfl rfl rfl (y_move F rfl rfl) ?_; clear F; intro a F
   refine s_val wkP F rfl rfl rfl rfl (y_extract F rfl rfl rfl) ?_; clear F; intro a F
   refine s_val wkP F rfl rfl rfl rfl (y_extract F rfl rfl rfl) ?_; clear F; intro a F
   refine s_allocA wkP F rfl rfl rfl agz35 rfl H ?_; clear F H; intro b20 w a H F
   replace H : St w0 w (HP.blk b20 (bcells (List.replicate 32 0)) 35 :: HP.blk b6 ([.pointer (some ⟨b2, 0, none⟩), .map (some m17), .map (some m18), .map (some m19)]) 75 :: HP.blk b2 ([.slice p15 (x13.2.2.1.1).length c15, .slice p16 (x13.2.2.1.2.1).length c16, .int .i64 (x13.2.2.1.2.2.1), .bool (x13.2.2.1.2.2.2)]) 71 :: HP.ow (rSl rByte) 33 p15 c15 x13.2.2.1.1 :: HP.ow (rPair (rInt .i64) (rSl rByte)) 88 p16 c16 x13.2.2.1.2.1 :: HP.mm (some m17) hv false (rInt .i64) (fun l => l.length = 32) x13.2.2.2.1 :: HP.mm (some m18) (Value.int .i64) true (rBytesN 32) (fun _ => True) x13.2.2.2.2.1 :: HP.mm (some m19) hv false (rInt .i64) (fun l => l.length = 32) x13.2.2.2.2.2 :: HP.sl rByte (some ⟨b11, 0, none⟩) (([x12]).length) ([x12]) :: HP.row 0 (0) (icells .u32 shaStart) :: HP.row 2 (0) (icells .u32 shaRounds) :: l) := H
   refine s_storeA wkP F rfl rfl agg35 rfl rfl rfl H 0 rfl ((bcells_length _).trans hl14) ((bcells_length _).trans (List.length_replicate (n := 32))) (bcells_flat _) ?_; clear H; intro w H
   replace H : St w0 w (HP.blk b20 (bcells x13.1) 35 :: HP.blk b6 ([.pointer (some ⟨b2, 0, none⟩), .map (some m17), .map (some m18), .map (some m19)]) 75 :: HP.blk b2 ([.slice p15 (x13.2.2.1.1).length c15, .slice p16 (x13.2.2.1.2.1).length c16, .int .i64 (x13.2.2.1.2.2.1), .bool (x13.2.2.1.2.2.2)]) 71 :: HP.ow (rSl rByte) 33 p15 c15 x13.2.2.1.1 :: HP.ow (rPair (rInt .i64) (rSl rByte)) 88 p16 c16 x13.2.2.1.2.1 :: HP.mm (some m17) hv false (rInt .i64) (fun l => l.length = 32) x13.2.2.2.1 :: HP.mm (some m18) (Value.int .i64) true (rBytesN 32) (fun _ => True) x13.2.2.2.2.1 :: HP.mm (some m19) hv false (rInt .i64) (fun l => l.length = 32) x13.2.2.2.2.2 :: HP.sl rByte (some ⟨b11, 0, none⟩) (([x12]).length) ([x12]) :: HP.row 0 (0) (icells .u32 shaStart) :: HP.row 2 (0) (icells .u32 shaRounds) :: l) := H
   refine s_val wkP F rfl rfl rfl rfl (y_assign F rfl rfl) ?_; clear F; intro a F
   refine wpList_nil ?_
   refine c_then ?_
   refine wp_seq ?_
   refine r_lit ?_
   refine s_val wkP F rfl rfl rfl rfl (y_move F rfl rfl) ?_; clear F; intro a F
   obtain ⟨x22, ex22, hn⟩ := ob hm; clear hm; revert hn; intro hm
   refine s_buildC wkP F rfl rfl rfl elem33 zero5 rfl rfl rfl rfl (by simp [Value.cells]) (by decide) H ?_; clear F H; intro b21 w a H F
   replace H : St w0 w (HP.blk b21 ([.int .u8 (98)]) 5 :: HP.blk b20 (bcells x13.1) 35 :: HP.blk b6 ([.pointer (some ⟨b2, 0, none⟩), .map (some m17), .map (some m18), .map (some m19)]) 75 :: HP.blk b2 ([.slice p15 (x13.2.2.1.1).length c15, .slice p16 (x13.2.2.1.2.1).length c16, .int .i64 (x13.2.2.1.2.2.1), .bool (x13.2.2.1.2.2.2)]) 71 :: HP.ow (rSl rByte) 33 p15 c15 x13.2.2.1.1 :: HP.ow (rPair (rInt .i64) (rSl rByte)) 88 p16 c16 x13.2.2.1.2.1 :: HP.mm (some m17) hv false (rInt .i64) (fun l => l.length = 32) x13.2.2.2.1 :: HP.mm (some m18) (Value.int .i64) true (rBytesN 32) (fun _ => True) x13.2.2.2.2.1 :: HP.mm (some m19) hv false (rInt .i64) (fun l => l.length = 32) x13.2.2.2.2.2 :: HP.sl rByte (some ⟨b11, 0, none⟩) (([x12]).length) ([x12]) :: HP.row 0 (0) (icells .u32 shaStart) :: HP.row 2 (0) (icells .u32 shaRounds) :: l) := H
   replace H : St w0 w (HP.ow rByte 5 (some ⟨b21, 0, none⟩) (([x22]).length) ([x22]) :: HP.blk b20 (bcells x13.1) 35 :: HP.blk b6 ([.pointer (some ⟨b2, 0, none⟩), .map (some m17), .map (some m18), .map (some m19)]) 75 :: HP.blk b2 ([.slice p15 (x13.2.2.1.1).length c15, .slice p16 (x13.2.2.1.2.1).length c16, .int .i64 (x13.2.2.1.2.2.1), .bool (x13.2.2.1.2.2.2)]) 71 :: HP.ow (rSl rByte) 33 p15 c15 x13.2.2.1.1 :: HP.ow (rPair (rInt .i64) (rSl rByte)) 88 p16 c16 x13.2.2.1.2.1 :: HP.mm (some m17) hv false (rInt .i64) (fun l => l.length = 32) x13.2.2.2.1 :: HP.mm (some m18) (Value.int .i64) true (rBytesN 32) (fun _ => True) x13.2.2.2.2.1 :: HP.mm (some m19) hv false (rInt .i64) (fun l => l.length = 32) x13.2.2.2.2.2 :: HP.sl rByte (some ⟨b11, 0, none⟩) (([x12]).length) ([x12]) :: HP.row 0 (0) (icells .u32 shaStart) :: HP.row 2 (0) (icells .u32 shaRounds) :: l) := H.blkOw (R := rByte) 0 rfl (fun gg => ⟨[[.int .u8 (98)]], rfl, (congrArg (fun z => [Value.int .u8 z]) (u8O_some ex22).symm), trivial⟩) (by simp)
   refine s_convSl wkP F rfl rfl rfl Tryd.underlying33 Tryd.underlying5 rfl rfl H 0 rfl ?_; clear F H; intro w a H F
   replace H : St w0 w (HP.sl rByte (some ⟨b21, 0, none⟩) (([x22]).length) ([x22]) :: HP.blk b20 (bcells x13.1) 35 :: HP.blk b6 ([.pointer (some ⟨b2, 0, none⟩), .map (some m17), .map (some m18), .map (some m19)]) 75 :: HP.blk b2 ([.slice p15 (x13.2.2.1.1).length c15, .slice p16 (x13.2.2.1.2.1).length c16, .int .i64 (x13.2.2.1.2.2.1), .bool (x13.2.2.1.2.2.2)]) 71 :: HP.ow (rSl rByte) 33 p15 c15 x13.2.2.1.1 :: HP.ow (rPair (rInt .i64) (rSl rByte)) 88 p16 c16 x13.2.2.1.2.1 :: HP.mm (some m17) hv false (rInt .i64) (fun l => l.length = 32) x13.2.2.2.1 :: HP.mm (some m18) (Value.int .i64) true (rBytesN 32) (fun _ => True) x13.2.2.2.2.1 :: HP.mm (some m19) hv false (rInt .i64) (fun l => l.length = 32) x13.2.2.2.2.2 :: HP.sl rByte (some ⟨b11, 0, none⟩) (([x12]).length) ([x12]) :: HP.row 0 (0) (icells .u32 shaStart) :: HP.row 2 (0) (icells .u32 shaRounds) :: l) := H
   obtain ⟨x23, ex23, hn⟩ := ob hm; clear hm; revert hn; intro hm
   refine s_call wkP F rfl rfl rfl rfl (y_call F rfl rfl ent11) (w_stPut ((x13.2.2.1.1, x13.2.2.1.2.1, x13.2.2.1.2.2.1, x13.2.2.1.2.2.2), x13.2.2.2.1, x13.2.2.2.2.1, x13.2.2.2.2.2) ([x22]) b6 b2 p15 c15 p16 c16 m17 m18 m19 (some ⟨b21, 0, none⟩) (([x22]).length) w0 _ _  _ ex23 ((((((((((H.cp 0 rfl pers_sl).mv 9 rfl).mv 9 rfl).mv 9 rfl).mv 9 rfl).mv 9 rfl).mv 9 rfl).mv 9 rfl).cp 12 rfl pers_row).cp 12 rfl pers_row)) ?_; clear F H; rintro _ w a ⟨p25, c25, p26, c26, m27, m28, m29, rfl, hl24, H⟩ F
   replace H : St w0 w (HP.blk b6 ([.pointer (some ⟨b2, 0, none⟩), .map (some m27), .map (some m28), .map (some m29)]) 75 :: HP.blk b2 ([.slice p25 (x23.2.2.1.1).length c25, .slice p26 (x23.2.2.1.2.1).length c26, .int .i64 (x23.2.2.1.2.2.1), .bool (x23.2.2.1.2.2.2)]) 71 :: HP.ow (rSl rByte) 33 p25 c25 x23.2.2.1.1 :: HP.ow (rPair (rInt .i64) (rSl rByte)) 88 p26 c26 x23.2.2.1.2.1 :: HP.mm (some m27) hv false (rInt .i64) (fun l => l.length = 32) x23.2.2.2.1 :: HP.mm (some m28) (Value.int .i64) true (rBytesN 32) (fun _ => True) x23.2.2.2.2.1 :: HP.mm (some m29) hv false (rInt .i64) (fun l => l.length = 32) x23.2.2.2.2.2 :: HP.sl rByte (some ⟨b21, 0, none⟩) (([x22]).length) ([x22]) :: HP.blk b20 (bcells x13.1) 35 :: HP.sl rByte (some ⟨b11, 0, none⟩) (([x12]).length) ([x12]) :: HP.row 0 (0) (icells .u32 shaStart) :: HP.row 2 (0) (icells .u32 shaRounds) :: l) := H
   refine wpList_nil ?_
   refine c_then ?_
   refine wp_seq ?_
   refine r_lit ?_
   refine s_val wkP F rfl rfl rfl rfl (y_move F rfl rfl) ?_; clear F; intro a F
   obtain ⟨x31, ex31, hn⟩ := ob hm; clear hm; revert hn; intro hm
   refine s_buildC wkP F rfl rfl rfl elem33 zero5 rfl rfl rfl rfl (by simp [Value.cells]) (by decide) H ?_; clear F H; intro b30 w a H F
   replace H : St w0 w (HP.blk b30 ([.int .u8 (99)]) 5 :: HP.blk b6 ([.pointer (some ⟨b2, 0, none⟩), .map (some m27), .map (some m28), .map (some m29)]) 75 :: HP.blk b2 ([.slice p25 (x23.2.2.1.1).length c25, .slice p26 (x23.2.2.1.2.1).length c26, .int .i64 (x23.2.2.1.2.2.1), .bool (x23.2.2.1.2.2.2)]) 71 :: HP.ow (rSl rByte) 33 p25 c25 x23.2.2.1.1 :: HP.ow (rPair (rInt .i64) (rSl rByte)) 88 p26 c26 x23.2.2.1.2.1 :: HP.mm (some m27) hv false (rInt .i64) (fun l => l.length = 32) x23.2.2.2.1 :: HP.mm (some m28) (Value.int .i64) true (rBytesN 32) (fun _ => True) x23.2.2.2.2.1 :: HP.mm (some m29) hv false (rInt .i64) (fun l => l.length = 32) x23.2.2.2.2.2 :: HP.sl rByte (some ⟨b21, 0, none⟩) (([x22]).length) ([x22]) :: HP.blk b20 (bcells x13.1) 35 :: HP.sl rByte (some ⟨b11, 0, none⟩) (([x12]).length) ([x12]) :: HP.row 0 (0) (icells .u32 shaStart) :: HP.row 2 (0) (icells .u32 shaRounds) :: l) := H
   replace H : St w0 w (HP.ow rByte 5 (some ⟨b30, 0, none⟩) (([x31]).length) ([x31]) :: HP.blk b6 ([.pointer (some ⟨b2, 0, none⟩), .map (some m27), .map (some m28), .map (some m29)]) 75 :: HP.blk b2 ([.slice p25 (x23.2.2.1.1).length c25, .slice p26 (x23.2.2.1.2.1).length c26, .int .i64 (x23.2.2.1.2.2.1), .bool (x23.2.2.1.2.2.2)]) 71 :: HP.ow (rSl rByte) 33 p25 c25 x23.2.2.1.1 :: HP.ow (rPair (rInt .i64) (rSl rByte)) 88 p26 c26 x23.2.2.1.2.1 :: HP.mm (some m27) hv false (rInt .i64) (fun l => l.length = 32) x23.2.2.2.1 :: HP.mm (some m28) (Value.int .i64) true (rBytesN 32) (fun _ => True) x23.2.2.2.2.1 :: HP.mm (some m29) hv false (rInt .i64) (fun l => l.length = 32) x23.2.2.2.2.2 :: HP.sl rByte (some ⟨b21, 0, none⟩) (([x22]).length) ([x22]) :: HP.blk b20 (bcells x13.1) 35 :: HP.sl rByte (some ⟨b11, 0, none⟩) (([x12]).length) ([x12]) :: HP.row 0 (0) (icells .u32 shaStart) :: HP.row 2 (0) (icells .u32 shaRounds) :: l) := H.blkOw (R := rByte) 0 rfl (fun gg => ⟨[[.int .u8 (99)]], rfl, (congrArg (fun z => [Value.int .u8 z]) (u8O_some ex31).symm), trivial⟩) (by simp)
   refine s_convSl wkP F rfl rfl rfl Tryd.underlying33 Tryd.underlying5 rfl rfl H 0 rfl ?_; clear F H; intro w a H F
   replace H : St w0 w (HP.sl rByte (some ⟨b30, 0, none⟩) (([x31]).length) ([x31]) :: HP.blk b6 ([.pointer (some ⟨b2, 0, none⟩), .map (some m27), .map (some m28), .map (some m29)]) 75 :: HP.blk b2 ([.slice p25 (x23.2.2.1.1).length c25, .slice p26 (x23.2.2.1.2.1).length c26, .int .i64 (x23.2.2.1.2.2.1), .bool (x23.2.2.1.2.2.2)]) 71 :: HP.ow (rSl rByte) 33 p25 c25 x23.2.2.1.1 :: HP.ow (rPair (rInt .i64) (rSl rByte)) 88 p26 c26 x23.2.2.1.2.1 :: HP.mm (some m27) hv false (rInt .i64) (fun l => l.length = 32) x23.2.2.2.1 :: HP.mm (some m28) (Value.int .i64) true (rBytesN 32) (fun _ => True) x23.2.2.2.2.1 :: HP.mm (some m29) hv false (rInt .i64) (fun l => l.length = 32) x23.2.2.2.2.2 :: HP.sl rByte (some ⟨b21, 0, none⟩) (([x22]).length) ([x22]) :: HP.blk b20 (bcells x13.1) 35 :: HP.sl rByte (some ⟨b11, 0, none⟩) (([x12]).length) ([x12]) :: HP.row 0 (0) (icells .u32 shaStart) :: HP.row 2 (0) (icells .u32 shaRounds) :: l) := H
   obtain ⟨x32, ex32, hn⟩ := ob hm; clear hm; revert hn; intro hm
   refine s_call wkP F rfl rfl rfl rfl (y_call F rfl rfl ent11) (w_stPut ((x23.2.2.1.1, x23.2.2.1.2.1, x23.2.2.1.2.2.1, x23.2.2.1.2.2.2), x23.2.2.2.1, x23.2.2.2.2.1, x23.2.2.2.2.2) ([x31]) b6 b2 p25 c25 p26 c26 m27 m28 m29 (some ⟨b30, 0, none⟩) (([x31]).length) w0 _ _  _ ex32 ((((((((((H.cp 0 rfl pers_sl).mv 8 rfl).mv 8 rfl).mv 8 rfl).mv 8 rfl).mv 8 rfl).mv 8 rfl).mv 8 rfl).cp 13 rfl pers_row).cp 13 rfl pers_row)) ?_; clear F H; rintro _ w a ⟨p34, c34, p35, c35, m36, m37, m38, rfl, hl33, H⟩ F
   replace H : St w0 w (HP.blk b6 ([.pointer (some ⟨b2, 0, none⟩), .map (some m36), .map (some m37), .map (some m38)]) 75 :: HP.blk b2 ([.slice p34 (x32.2.2.1.1).length c34, .slice p35 (x32.2.2.1.2.1).length c35, .int .i64 (x32.2.2.1.2.2.1), .bool (x32.2.2.1.2.2.2)]) 71 :: HP.ow (rSl rByte) 33 p34 c34 x32.2.2.1.1 :: HP.ow (rPair (rInt .i64) (rSl rByte)) 88 p35 c35 x32.2.2.1.2.1 :: HP.mm (some m36) hv false (rInt .i64) (fun l => l.length = 32) x32.2.2.2.1 :: HP.mm (some m37) (Value.int .i64) true (rBytesN 32) (fun _ => True) x32.2.2.2.2.1 :: HP.mm (some m38) hv false (rInt .i64) (fun l => l.length = 32) x32.2.2.2.2.2 :: HP.sl rByte (some ⟨b30, 0, none⟩) (([x31]).length) ([x31]) :: HP.sl rByte (some ⟨b21, 0, none⟩) (([x22]).length) ([x22]) :: HP.blk b20 (bcells x13.1) 35 :: HP.sl rByte (some ⟨b11, 0, none⟩) (([x12]).length) ([x12]) :: HP.row 0 (0) (icells .u32 shaStart) :: HP.row 2 (0) (icells .u32 shaRounds) :: l) := H
   refine s_val wkP F rfl rfl rfl rfl (y_move F rfl rfl) ?_; clear F; intro a F
   refine s_val wkP F rfl rfl rfl rfl (y_extract F rfl rfl rfl) ?_; clear F; intro a F
   refine s_val wkP F rfl rfl rfl rfl (y_extract F rfl rfl rfl) ?_; clear F; intro a F
   refine s_allocA wkP F rfl rfl rfl agz35 rfl H ?_; clear F H; intro b39 w a H F
   replace H : St w0 w (HP.blk b39 (bcells (List.replicate 32 0)) 35 :: HP.blk b6 ([.pointer (some ⟨b2, 0, none⟩), .map (some m36), .map (some m37), .map (some m38)]) 75 :: HP.blk b2 ([.slice p34 (x32.2.2.1.1).length c34, .slice p35 (x32.2.2.1.2.1).length c35, .int .i64 (x32.2.2.1.2.2.1), .bool (x32.2.2.1.2.2.2)]) 71 :: HP.ow (rSl rByte) 33 p34 c34 x32.2.2.1.1 :: HP.ow (rPair (rInt .i64) (rSl rByte)) 88 p35 c35 x32.2.2.1.2.1 :: HP.mm (some m36) hv false (rInt .i64) (fun l => l.length = 32) x32.2.2.2.1 :: HP.mm (some m37) (Value.int .i64) true (rBytesN 32) (fun _ => True) x32.2.2.2.2.1 :: HP.mm (some m38) hv false (rInt .i64) (fun l => l.length = 32) x32.2.2.2.2.2 :: HP.sl rByte (some ⟨b30, 0, none⟩) (([x31]).length) ([x31]) :: HP.sl rByte (some ⟨b21, 0, none⟩) (([x22]).length) ([x22]) :: HP.blk b20 (bcells x13.1) 35 :: HP.sl rByte (some ⟨b11, 0, none⟩) (([x12]).length) ([x12]) :: HP.row 0 (0) (icells .u32 shaStart) :: HP.row 2 (0) (icells .u32 shaRounds) :: l) := H
   refine s_storeA wkP F rfl rfl agg35 rfl rfl rfl H 0 rfl ((bcells_length _).trans hl33) ((bcells_length _).trans (List.length_replicate (n := 32))) (bcells_flat _) ?_; clear H; intro w H
   replace H : St w0 w (HP.blk b39 (bcells x32.1) 35 :: HP.blk b6 ([.pointer (some ⟨b2, 0, none⟩), .map (some m36), .map (some m37), .map (some m38)]) 75 :: HP.blk b2 ([.slice p34 (x32.2.2.1.1).length c34, .slice p35 (x32.2.2.1.2.1).length c35, .int .i64 (x32.2.2.1.2.2.1), .bool (x32.2.2.1.2.2.2)]) 71 :: HP.ow (rSl rByte) 33 p34 c34 x32.2.2.1.1 :: HP.ow (rPair (rInt .i64) (rSl rByte)) 88 p35 c35 x32.2.2.1.2.1 :: HP.mm (some m36) hv false (rInt .i64) (fun l => l.length = 32) x32.2.2.2.1 :: HP.mm (some m37) (Value.int .i64) true (rBytesN 32) (fun _ => True) x32.2.2.2.2.1 :: HP.mm (some m38) hv false (rInt .i64) (fun l => l.length = 32) x32.2.2.2.2.2 :: HP.sl rByte (some ⟨b30, 0, none⟩) (([x31]).length) ([x31]) :: HP.sl rByte (some ⟨b21, 0, none⟩) (([x22]).length) ([x22]) :: HP.blk b20 (bcells x13.1) 35 :: HP.sl rByte (some ⟨b11, 0, none⟩) (([x12]).length) ([x12]) :: HP.row 0 (0) (icells .u32 shaStart) :: HP.row 2 (0) (icells .u32 shaRounds) :: l) := H
   refine s_val wkP F rfl rfl rfl rfl (y_assign F rfl rfl) ?_; clear F; intro a F
   refine wpList_nil ?_
   refine c_then ?_
   refine wp_seq ?_
   refine r_lit ?_
   refine s_val wkP F rfl rfl rfl rfl (y_move F rfl rfl) ?_; clear F; intro a F
   replace H : St w0 w (HP.ow (rBytesN 32) 35 none 0 ([] : List (List UInt8)) :: HP.blk b39 (bcells x32.1) 35 :: HP.blk b6 ([.pointer (some ⟨b2, 0, none⟩), .map (some m36), .map (some m37), .map (some m38)]) 75 :: HP.blk b2 ([.slice p34 (x32.2.2.1.1).length c34, .slice p35 (x32.2.2.1.2.1).length c35, .int .i64 (x32.2.2.1.2.2.1), .bool (x32.2.2.1.2.2.2)]) 71 :: HP.ow (rSl rByte) 33 p34 c34 x32.2.2.1.1 :: HP.ow (rPair (rInt .i64) (rSl rByte)) 88 p35 c35 x32.2.2.1.2.1 :: HP.mm (some m36) hv false (rInt .i64) (fun l => l.length = 32) x32.2.2.2.1 :: HP.mm (some m37) (Value.int .i64) true (rBytesN 32) (fun _ => True) x32.2.2.2.2.1 :: HP.mm (some m38) hv false (rInt .i64) (fun l => l.length = 32) x32.2.2.2.2.2 :: HP.sl rByte (some ⟨b30, 0, none⟩) (([x31]).length) ([x31]) :: HP.sl rByte (some ⟨b21, 0, none⟩) (([x22]).length) ([x22]) :: HP.blk b20 (bcells x13.1) 35 :: HP.sl rByte (some ⟨b11, 0, none⟩) (([x12]).length) ([x12]) :: HP.row 0 (0) (icells .u32 shaStart) :: HP.row 2 (0) (icells .u32 shaRounds) :: l) := H.owNil (rBytesN 32) 35
   replace H : St w0 w (HP.sl (rBytesN 32) none 0 ([] : List (List UInt8)) :: HP.blk b39 (bcells x32.1) 35 :: HP.blk b6 ([.pointer (some ⟨b2, 0, none⟩), .map (some m36), .map (some m37), .map (some m38)]) 75 :: HP.blk b2 ([.slice p34 (x32.2.2.1.1).length c34, .slice p35 (x32.2.2.1.2.1).length c35, .int .i64 (x32.2.2.1.2.2.1), .bool (x32.2.2.1.2.2.2)]) 71 :: HP.ow (rSl rByte) 33 p34 c34 x32.2.2.1.1 :: HP.ow (rPair (rInt .i64) (rSl rByte)) 88 p35 c35 x32.2.2.1.2.1 :: HP.mm (some m36) hv false (rInt .i64) (fun l => l.length = 32) x32.2.2.2.1 :: HP.mm (some m37) (Value.int .i64) true (rBytesN 32) (fun _ => True) x32.2.2.2.2.1 :: HP.mm (some m38) hv false (rInt .i64) (fun l => l.length = 32) x32.2.2.2.2.2 :: HP.sl rByte (some ⟨b30, 0, none⟩) (([x31]).length) ([x31]) :: HP.sl rByte (some ⟨b21, 0, none⟩) (([x22]).length) ([x22]) :: HP.blk b20 (bcells x13.1) 35 :: HP.sl rByte (some ⟨b11, 0, none⟩) (([x12]).length) ([x12]) :: HP.row 0 (0) (icells .u32 shaStart) :: HP.row 2 (0) (icells .u32 shaRounds) :: l) := H.frz 0 rfl
   obtain ⟨x40, ex40, hn⟩ := ob hm; clear hm; revert hn; intro hm
   refine s_call wkP F rfl rfl rfl rfl (y_call F rfl rfl ent14) (w_stHold ((x32.2.2.1.1, x32.2.2.1.2.1, x32.2.2.1.2.2.1, x32.2.2.1.2.2.2), x32.2.2.2.1, x32.2.2.2.2.1, x32.2.2.2.2.2) ([] : List (List UInt8)) b6 b2 p34 c34 p35 c35 m36 m37 m38 none 0 w0 _ _  _ ex40 ((((((((H.cp 0 rfl pers_sl).mv 9 rfl).mv 9 rfl).mv 9 rfl).mv 9 rfl).mv 9 rfl).mv 9 rfl).mv 9 rfl)) ?_; clear F H; rintro _ w a ⟨p41, c41, p42, c42, m43, m44, m45, rfl, H⟩ F
   replace H : St w0 w (HP.blk b6 ([.pointer (some ⟨b2, 0, none⟩), .map (some m43), .map (some m44), .map (some m45)]) 75 :: HP.blk b2 ([.slice p41 (x40.1.1).length c41, .slice p42 (x40.1.2.1).length c42, .int .i64 (x40.1.2.2.1), .bool (x40.1.2.2.2)]) 71 :: HP.ow (rSl rByte) 33 p41 c41 x40.1.1 :: HP.ow (rPair (rInt .i64) (rSl rByte)) 88 p42 c42 x40.1.2.1 :: HP.mm (some m43) hv false (rInt .i64) (fun l => l.length = 32) x40.2.1 :: HP.mm (some m44) (Value.int .i64) true (rBytesN 32) (fun _ => True) x40.2.2.1 :: HP.mm (some m45) hv false (rInt .i64) (fun l => l.length = 32) x40.2.2.2 :: HP.sl (rBytesN 32) none 0 ([] : List (List UInt8)) :: HP.blk b39 (bcells x32.1) 35 :: HP.sl rByte (some ⟨b30, 0, none⟩) (([x31]).length) ([x31]) :: HP.sl rByte (some ⟨b21, 0, none⟩) (([x22]).length) ([x22]) :: HP.blk b20 (bcells x13.1) 35 :: HP.sl rByte (some ⟨b11, 0, none⟩) (([x12]).length) ([x12]) :: HP.row 0 (0) (icells .u32 shaStart) :: HP.row 2 (0) (icells .u32 shaRounds) :: l) := H
   refine wpList_nil ?_
   refine c_then ?_
   refine wp_seq ?_
   refine r_lit ?_
   refine s_val wkP F rfl rfl rfl rfl (y_move F rfl rfl) ?_; clear F; intro a F
   obtain ⟨x47, ex47, hn⟩ := ob hm; clear hm; revert hn; intro hm
   refine s_buildC wkP F rfl rfl rfl elem33 zero5 rfl rfl rfl rfl (by simp [Value.cells]) (by decide) H ?_; clear F H; intro b46 w a H F
   replace H : St w0 w (HP.blk b46 ([.int .u8 (99)]) 5 :: HP.blk b6 ([.pointer (some ⟨b2, 0, none⟩), .map (some m43), .map (some m44), .map (some m45)]) 75 :: HP.blk b2 ([.slice p41 (x40.1.1).length c41, .slice p42 (x40.1.2.1).length c42, .int .i64 (x40.1.2.2.1), .bool (x40.1.2.2.2)]) 71 :: HP.ow (rSl rByte) 33 p41 c41 x40.1.1 :: HP.ow (rPair (rInt .i64) (rSl rByte)) 88 p42 c42 x40.1.2.1 :: HP.mm (some m43) hv false (rInt .i64) (fun l => l.length = 32) x40.2.1 :: HP.mm (some m44) (Value.int .i64) true (rBytesN 32) (fun _ => True) x40.2.2.1 :: HP.mm (some m45) hv false (rInt .i64) (fun l => l.length = 32) x40.2.2.2 :: HP.sl (rBytesN 32) none 0 ([] : List (List UInt8)) :: HP.blk b39 (bcells x32.1) 35 :: HP.sl rByte (some ⟨b30, 0, none⟩) (([x31]).length) ([x31]) :: HP.sl rByte (some ⟨b21, 0, none⟩) (([x22]).length) ([x22]) :: HP.blk b20 (bcells x13.1) 35 :: HP.sl rByte (some ⟨b11, 0, none⟩) (([x12]).length) ([x12]) :: HP.row 0 (0) (icells .u32 shaStart) :: HP.row 2 (0) (icells .u32 shaRounds) :: l) := H
   replace H : St w0 w (HP.ow rByte 5 (some ⟨b46, 0, none⟩) (([x47]).length) ([x47]) :: HP.blk b6 ([.pointer (some ⟨b2, 0, none⟩), .map (some m43), .map (some m44), .map (some m45)]) 75 :: HP.blk b2 ([.slice p41 (x40.1.1).length c41, .slice p42 (x40.1.2.1).length c42, .int .i64 (x40.1.2.2.1), .bool (x40.1.2.2.2)]) 71 :: HP.ow (rSl rByte) 33 p41 c41 x40.1.1 :: HP.ow (rPair (rInt .i64) (rSl rByte)) 88 p42 c42 x40.1.2.1 :: HP.mm (some m43) hv false (rInt .i64) (fun l => l.length = 32) x40.2.1 :: HP.mm (some m44) (Value.int .i64) true (rBytesN 32) (fun _ => True) x40.2.2.1 :: HP.mm (some m45) hv false (rInt .i64) (fun l => l.length = 32) x40.2.2.2 :: HP.sl (rBytesN 32) none 0 ([] : List (List UInt8)) :: HP.blk b39 (bcells x32.1) 35 :: HP.sl rByte (some ⟨b30, 0, none⟩) (([x31]).length) ([x31]) :: HP.sl rByte (some ⟨b21, 0, none⟩) (([x22]).length) ([x22]) :: HP.blk b20 (bcells x13.1) 35 :: HP.sl rByte (some ⟨b11, 0, none⟩) (([x12]).length) ([x12]) :: HP.row 0 (0) (icells .u32 shaStart) :: HP.row 2 (0) (icells .u32 shaRounds) :: l) := H.blkOw (R := rByte) 0 rfl (fun gg => ⟨[[.int .u8 (99)]], rfl, (congrArg (fun z => [Value.int .u8 z]) (u8O_some ex47).symm), trivial⟩) (by simp)
   refine s_convSl wkP F rfl rfl rfl Tryd.underlying33 Tryd.underlying5 rfl rfl H 0 rfl ?_; clear F H; intro w a H F
   replace H : St w0 w (HP.sl rByte (some ⟨b46, 0, none⟩) (([x47]).length) ([x47]) :: HP.blk b6 ([.pointer (some ⟨b2, 0, none⟩), .map (some m43), .map (some m44), .map (some m45)]) 75 :: HP.blk b2 ([.slice p41 (x40.1.1).length c41, .slice p42 (x40.1.2.1).length c42, .int .i64 (x40.1.2.2.1), .bool (x40.1.2.2.2)]) 71 :: HP.ow (rSl rByte) 33 p41 c41 x40.1.1 :: HP.ow (rPair (rInt .i64) (rSl rByte)) 88 p42 c42 x40.1.2.1 :: HP.mm (some m43) hv false (rInt .i64) (fun l => l.length = 32) x40.2.1 :: HP.mm (some m44) (Value.int .i64) true (rBytesN 32) (fun _ => True) x40.2.2.1 :: HP.mm (some m45) hv false (rInt .i64) (fun l => l.length = 32) x40.2.2.2 :: HP.sl (rBytesN 32) none 0 ([] : List (List UInt8)) :: HP.blk b39 (bcells x32.1) 35 :: HP.sl rByte (some ⟨b30, 0, none⟩) (([x31]).length) ([x31]) :: HP.sl rByte (some ⟨b21, 0, none⟩) (([x22]).length) ([x22]) :: HP.blk b20 (bcells x13.1) 35 :: HP.sl rByte (some ⟨b11, 0, none⟩) (([x12]).length) ([x12]) :: HP.row 0 (0) (icells .u32 shaStart) :: HP.row 2 (0) (icells .u32 shaRounds) :: l) := H
   obtain ⟨x48, ex48, hn⟩ := ob hm; clear hm; revert hn; intro hm
   refine s_call wkP F rfl rfl rfl rfl (y_call F rfl rfl ent11) (w_stPut ((x40.1.1, x40.1.2.1, x40.1.2.2.1, x40.1.2.2.2), x40.2.1, x40.2.2.1, x40.2.2.2) ([x47]) b6 b2 p41 c41 p42 c42 m43 m44 m45 (some ⟨b46, 0, none⟩) (([x47]).length) w0 _ _  _ ex48 ((((((((((H.cp 0 rfl pers_sl).mv 8 rfl).mv 8 rfl).mv 8 rfl).mv 8 rfl).mv 8 rfl).mv 8 rfl).mv 8 rfl).cp 16 rfl pers_row).cp 16 rfl pers_row)) ?_; clear F H; rintro _ w a ⟨p50, c50, p51, c51, m52, m53, m54, rfl, hl49, H⟩ F
   replace H : St w0 w (HP.blk b6 ([.pointer (some ⟨b2, 0, none⟩), .map (some m52), .map (some m53), .map (some m54)]) 75 :: HP.blk b2 ([.slice p50 (x48.2.2.1.1).length c50, .slice p51 (x48.2.2.1.2.1).length c51, .int .i64 (x48.2.2.1.2.2.1), .bool (x48.2.2.1.2.2.2)]) 71 :: HP.ow (rSl rByte) 33 p50 c50 x48.2.2.1.1 :: HP.ow (rPair (rInt .i64) (rSl rByte)) 88 p51 c51 x48.2.2.1.2.1 :: HP.mm (some m52) hv false (rInt .i64) (fun l => l.length = 32) x48.2.2.2.1 :: HP.mm (some m53) (Value.int .i64) true (rBytesN 32) (fun _ => True) x48.2.2.2.2.1 :: HP.mm (some m54) hv false (rInt .i64) (fun l => l.length = 32) x48.2.2.2.2.2 :: HP.sl rByte (some ⟨b46, 0, none⟩) (([x47]).length) ([x47]) :: HP.sl (rBytesN 32) none 0 ([] : List (List UInt8)) :: HP.blk b39 (bcells x32.1) 35 :: HP.sl rByte (some ⟨b30, 0, none⟩) (([x31]).length) ([x31]) :: HP.sl rByte (some ⟨b21, 0, none⟩) (([x22]).length) ([x22]) :: HP.blk b20 (bcells x13.1) 35 :: HP.sl rByte (some ⟨b11, 0, none⟩) (([x12]).length) ([x12]) :: HP.row 0 (0) (icells .u32 shaStart) :: HP.row 2 (0) (icells .u32 shaRounds) :: l) := H
   refine s_val wkP F rfl rfl rfl rfl (y_move F rfl rfl) ?_; clear F; intro a F
   refine s_val wkP F rfl rfl rfl rfl (y_extract F rfl rfl rfl) ?_; clear F; intro a F
   refine s_val wkP F rfl rfl rfl rfl (y_extract F rfl rfl rfl) ?_; clear F; intro a F
   refine s_allocA wkP F rfl rfl rfl agz35 rfl H ?_; clear F H; intro b55 w a H F
   replace H : St w0 w (HP.blk b55 (bcells (List.replicate 32 0)) 35 :: HP.blk b6 ([.pointer (some ⟨b2, 0, none⟩), .map (some m52), .map (some m53), .map (some m54)]) 75 :: HP.blk b2 ([.slice p50 (x48.2.2.1.1).length c50, .slice p51 (x48.2.2.1.2.1).length c51, .int .i64 (x48.2.2.1.2.2.1), .bool (x48.2.2.1.2.2.2)]) 71 :: HP.ow (rSl rByte) 33 p50 c50 x48.2.2.1.1 :: HP.ow (rPair (rInt .i64) (rSl rByte)) 88 p51 c51 x48.2.2.1.2.1 :: HP.mm (some m52) hv false (rInt .i64) (fun l => l.length = 32) x48.2.2.2.1 :: HP.mm (some m53) (Value.int .i64) true (rBytesN 32) (fun _ => True) x48.2.2.2.2.1 :: HP.mm (some m54) hv false (rInt .i64) (fun l => l.length = 32) x48.2.2.2.2.2 :: HP.sl rByte (some ⟨b46, 0, none⟩) (([x47]).length) ([x47]) :: HP.sl (rBytesN 32) none 0 ([] : List (List UInt8)) :: HP.blk b39 (bcells x32.1) 35 :: HP.sl rByte (some ⟨b30, 0, none⟩) (([x31]).length) ([x31]) :: HP.sl rByte (some ⟨b21, 0, none⟩) (([x22]).length) ([x22]) :: HP.blk b20 (bcells x13.1) 35 :: HP.sl rByte (some ⟨b11, 0, none⟩) (([x12]).length) ([x12]) :: HP.row 0 (0) (icells .u32 shaStart) :: HP.row 2 (0) (icells .u32 shaRounds) :: l) := H
   refine s_storeA wkP F rfl rfl agg35 rfl rfl rfl H 0 rfl ((bcells_length _).trans hl49) ((bcells_length _).trans (List.length_replicate (n := 32))) (bcells_flat _) ?_; clear H; intro w H
   replace H : St w0 w (HP.blk b55 (bcells x48.1) 35 :: HP.blk b6 ([.pointer (some ⟨b2, 0, none⟩), .map (some m52), .map (some m53), .map (some m54)]) 75 :: HP.blk b2 ([.slice p50 (x48.2.2.1.1).length c50, .slice p51 (x48.2.2.1.2.1).length c51, .int .i64 (x48.2.2.1.2.2.1), .bool (x48.2.2.1.2.2.2)]) 71 :: HP.ow (rSl rByte) 33 p50 c50 x48.2.2.1.1 :: HP.ow (rPair (rInt .i64) (rSl rByte)) 88 p51 c51 x48.2.2.1.2.1 :: HP.mm (some m52) hv false (rInt .i64) (fun l => l.length = 32) x48.2.2.2.1 :: HP.mm (some m53) (Value.int .i64) true (rBytesN 32) (fun _ => True) x48.2.2.2.2.1 :: HP.mm (some m54) hv false (rInt .i64) (fun l => l.length = 32) x48.2.2.2.2.2 :: HP.sl rByte (some ⟨b46, 0, none⟩) (([x47]).length) ([x47]) :: HP.sl (rBytesN 32) none 0 ([] : List (List UInt8)) :: HP.blk b39 (bcells x32.1) 35 :: HP.sl rByte (some ⟨b30, 0, none⟩) (([x31]).length) ([x31]) :: HP.sl rByte (some ⟨b21, 0, none⟩) (([x22]).length) ([x22]) :: HP.blk b20 (bcells x13.1) 35 :: HP.sl rByte (some ⟨b11, 0, none⟩) (([x12]).length) ([x12]) :: HP.row 0 (0) (icells .u32 shaStart) :: HP.row 2 (0) (icells .u32 shaRounds) :: l) := H
   refine s_val wkP F rfl rfl rfl rfl (y_assign F rfl rfl) ?_; clear F; intro a F
   refine wpList_nil ?_
   refine c_then ?_
   refine wp_seq ?_
   by_cases hg67 : x13.2.1 = 0
   · replace hm := ifT hg67 hm
     refine mix_region [4, 5, 6, 20, 25] [] (.step 0 0 (.step 0 1 (.step 0 2 (.step 0 3 (.step 2 4 (.step 2 5 (.step 2 6 (.step 0 7 (.step 0 8 (.step 0 9 (.step 0 10 (.step 0 11 (.step 0 12 (.step 0 13 (.step 0 14 (.step 0 15 (.step 0 16 (.step 0 17 (.step 0 18 (.step 1 19 (.step 2 20 (.step 0 21 (.step 0 22 (.step 0 23 (.step 0 24 (.step 2 25 (.step 0 26 (.step 0 27 (.step 0 28 .done))))))))))))))))))))))))))))) (fun u => ∃ ls, St w0 u (HP.blk b20 (bcells x13.1) 35 :: ls)) (by kernel_rfl) (by kernel_rfl) ⟨_, (H.drew.mv 13 rfl)⟩ ?_
     replace H := H.drew
     generalize w.drew = w at H ⊢
     refine m_pure F rfl rfl rfl rfl (fun u hu => y_move F rfl rfl) ?_; clear F; intro a F
     refine m_pure F rfl rfl rfl rfl (fun u hu => y_eql F rfl rfl rfl) ?_; clear F; intro a F
     refine m_pure F rfl rfl rfl rfl (fun u hu => y_move F rfl rfl) ?_; clear F; intro a F
     replace F := F.bool (k := 57) (u := .bool true) rfl (congrArg (fun b => Value.bool b) (decide_eq_true hg67))
     refine m_on (k := 0) F rfl rfl rfl rfl rfl rfl rfl (fun u hu => y_loadA F agg35 rfl rfl ((hu.choose_spec.blk 0 rfl).row) ((bcells_length _).trans hl14)) ?_; clear F; intro a F
     refine m_heavyOn F rfl rfl rfl rfl rfl ?_; refine g_onP F rfl rfl rfl rfl ?_
     obtain ⟨x69, ex69, hn⟩ := ob hm; clear hm; revert hn; intro hm
     refine s_buildC wkP F rfl rfl rfl elem33 zero5 rfl rfl rfl rfl (by simp [Value.cells]) (by decide) H ?_; clear F H; intro b68 w a H F
     replace H : St w0 w (HP.blk b68 ([.int .u8 (97)]) 5 :: HP.blk b55 (bcells x48.1) 35 :: HP.blk b6 ([.pointer (some ⟨b2, 0, none⟩), .map (some m52), .map (some m53), .map (some m54)]) 75 :: HP.blk b2 ([.slice p50 (x48.2.2.1.1).length c50, .slice p51 (x48.2.2.1.2.1).length c51, .int .i64 (x48.2.2.1.2.2.1), .bool (x48.2.2.1.2.2.2)]) 71 :: HP.ow (rSl rByte) 33 p50 c50 x48.2.2.1.1 :: HP.ow (rPair (rInt .i64) (rSl rByte)) 88 p51 c51 x48.2.2.1.2.1 :: HP.mm (some m52) hv false (rInt .i64) (fun l => l.length = 32) x48.2.2.2.1 :: HP.mm (some m53) (Value.int .i64) true (rBytesN 32) (fun _ => True) x48.2.2.2.2.1 :: HP.mm (some m54) hv false (rInt .i64) (fun l => l.length = 32) x48.2.2.2.2.2 :: HP.sl rByte (some ⟨b46, 0, none⟩) (([x47]).length) ([x47]) :: HP.sl (rBytesN 32) none 0 ([] : List (List UInt8)) :: HP.blk b39 (bcells x32.1) 35 :: HP.sl rByte (some ⟨b30, 0, none⟩) (([x31]).length) ([x31]) :: HP.sl rByte (some ⟨b21, 0, none⟩) (([x22]).length) ([x22]) :: HP.blk b20 (bcells x13.1) 35 :: HP.sl rByte (some ⟨b11, 0, none⟩) (([x12]).length) ([x12]) :: HP.row 0 (0) (icells .u32 shaStart) :: HP.row 2 (0) (icells .u32 shaRounds) :: l) := H
     replace H : St w0 w (HP.ow rByte 5 (some ⟨b68, 0, none⟩) (([x69]).length) ([x69]) :: HP.blk b55 (bcells x48.1) 35 :: HP.blk b6 ([.pointer (some ⟨b2, 0, none⟩), .map (some m52), .map (some m53), .map (some m54)]) 75 :: HP.blk b2 ([.slice p50 (x48.2.2.1.1).length c50, .slice p51 (x48.2.2.1.2.1).length c51, .int .i64 (x48.2.2.1.2.2.1), .bool (x48.2.2.1.2.2.2)]) 71 :: HP.ow (rSl rByte) 33 p50 c50 x48.2.2.1.1 :: HP.ow (rPair (rInt .i64) (rSl rByte)) 88 p51 c51 x48.2.2.1.2.1 :: HP.mm (some m52) hv false (rInt .i64) (fun l => l.length = 32) x48.2.2.2.1 :: HP.mm (some m53) (Value.int .i64) true (rBytesN 32) (fun _ => True) x48.2.2.2.2.1 :: HP.mm (some m54) hv false (rInt .i64) (fun l => l.length = 32) x48.2.2.2.2.2 :: HP.sl rByte (some ⟨b46, 0, none⟩) (([x47]).length) ([x47]) :: HP.sl (rBytesN 32) none 0 ([] : List (List UInt8)) :: HP.blk b39 (bcells x32.1) 35 :: HP.sl rByte (some ⟨b30, 0, none⟩) (([x31]).length) ([x31]) :: HP.sl rByte (some ⟨b21, 0, none⟩) (([x22]).length) ([x22]) :: HP.blk b20 (bcells x13.1) 35 :: HP.sl rByte (some ⟨b11, 0, none⟩) (([x12]).length) ([x12]) :: HP.row 0 (0) (icells .u32 shaStart) :: HP.row 2 (0) (icells .u32 shaRounds) :: l) := H.blkOw (R := rByte) 0 rfl (fun gg => ⟨[[.int .u8 (97)]], rfl, (congrArg (fun z => [Value.int .u8 z]) (u8O_some ex69).symm), trivial⟩) (by simp)
     refine wpList_nil ?_; refine c_then ⟨⟨_, (H.mv 14 rfl)⟩, ?_⟩
     refine m_heavyOn F rfl rfl rfl rfl rfl ?_; refine g_onP F rfl rfl rfl rfl ?_
     refine s_convSl wkP F rfl rfl rfl Tryd.underlying33 Tryd.underlying5 rfl rfl H 0 rfl ?_; clear F H; intro w a H F
     replace H : St w0 w (HP.sl rByte (some ⟨b68, 0, none⟩) (([x69]).length) ([x69]) :: HP.blk b55 (bcells x48.1) 35 :: HP.blk b6 ([.pointer (some ⟨b2, 0, none⟩), .map (some m52), .map (some m53), .map (some m54)]) 75 :: HP.blk b2 ([.slice p50 (x48.2.2.1.1).length c50, .slice p51 (x48.2.2.1.2.1).length c51, .int .i64 (x48.2.2.1.2.2.1), .bool (x48.2.2.1.2.2.2)]) 71 :: HP.ow (rSl rByte) 33 p50 c50 x48.2.2.1.1 :: HP.ow (rPair (rInt .i64) (rSl rByte)) 88 p51 c51 x48.2.2.1.2.1 :: HP.mm (some m52) hv false (rInt .i64) (fun l => l.length = 32) x48.2.2.2.1 :: HP.mm (some m53) (Value.int .i64) true (rBytesN 32) (fun _ => True) x48.2.2.2.2.1 :: HP.mm (some m54) hv false (rInt .i64) (fun l => l.length = 32) x48.2.2.2.2.2 :: HP.sl rByte (some ⟨b46, 0, none⟩) (([x47]).length) ([x47]) :: HP.sl (rBytesN 32) none 0 ([] : List (List UInt8)) :: HP.blk b39 (bcells x32.1) 35 :: HP.sl rByte (some ⟨b30, 0, none⟩) (([x31]).length) ([x31]) :: HP.sl rByte (some ⟨b21, 0, none⟩) (([x22]).length) ([x22]) :: HP.blk b20 (bcells x13.1) 35 :: HP.sl rByte (some ⟨b11, 0, none⟩) (([x12]).length) ([x12]) :: HP.row 0 (0) (icells .u32 shaStart) :: HP.row 2 (0) (icells .u32 shaRounds) :: l) := H
     refine wpList_nil ?_; refine c_then ⟨⟨_, (H.mv 14 rfl)⟩, ?_⟩
     refine m_heavyOn F rfl rfl rfl rfl rfl ?_; refine g_onP F rfl rfl rfl rfl ?_
     obtain ⟨x70, ex70, hn⟩ := ob hm; clear hm; revert hn; intro hm
     refine s_call wkP F rfl rfl rfl rfl (y_call F rfl rfl ent12) (w_rSum ([x69]) (some ⟨b68, 0, none⟩) (([x69]).length) w0 _ _  _ ex70 (H.cp 0 rfl pers_sl)) ?_; clear F H; rintro _ w a ⟨rfl, hl71, H⟩ F
     replace H : St w0 w (HP.sl rByte (some ⟨b68, 0, none⟩) (([x69]).length) ([x69]) :: HP.blk b55 (bcells x48.1) 35 :: HP.blk b6 ([.pointer (some ⟨b2, 0, none⟩), .map (some m52), .map (some m53), .map (some m54)]) 75 :: HP.blk b2 ([.slice p50 (x48.2.2.1.1).length c50, .slice p51 (x48.2.2.1.2.1).length c51, .int .i64 (x48.2.2.1.2.2.1), .bool (x48.2.2.1.2.2.2)]) 71 :: HP.ow (rSl rByte) 33 p50 c50 x48.2.2.1.1 :: HP.ow (rPair (rInt .i64) (rSl rByte)) 88 p51 c51 x48.2.2.1.2.1 :: HP.mm (some m52) hv false (rInt .i64) (fun l => l.length = 32) x48.2.2.2.1 :: HP.mm (some m53) (Value.int .i64) true (rBytesN 32) (fun _ => True) x48.2.2.2.2.1 :: HP.mm (some m54) hv false (rInt .i64) (fun l => l.length = 32) x48.2.2.2.2.2 :: HP.sl rByte (some ⟨b46, 0, none⟩) (([x47]).length) ([x47]) :: HP.sl (rBytesN 32) none 0 ([] : List (List UInt8)) :: HP.blk b39 (bcells x32.1) 35 :: HP.sl rByte (some ⟨b30, 0, none⟩) (([x31]).length) ([x31]) :: HP.sl rByte (some ⟨b21, 0, none⟩) (([x22]).length) ([x22]) :: HP.blk b20 (bcells x13.1) 35 :: HP.sl rByte (some ⟨b11, 0, none⟩) (([x12]).length) ([x12]) :: HP.row 0 (0) (icells .u32 shaStart) :: HP.row 2 (0) (icells .u32 shaRounds) :: l) := H
     refine wpList_nil ?_; refine c_then ⟨⟨_, (H.mv 14 rfl)⟩, ?_⟩
     refine m_on (k := 0) F rfl rfl rfl rfl rfl rfl rfl (fun u hu => y_eqlA F key35 rfl rfl rfl hl14 hl71) ?_; clear F; intro a F
     refine m_pure F rfl rfl rfl rfl (fun u hu => y_pickT F rfl rfl rfl) ?_; clear F; intro a F
     refine m_pure F rfl rfl rfl rfl (fun u hu => y_move F rfl rfl) ?_; clear F; intro a F
     by_cases hg72 : x13.1 = x70
     · replace hm := ifT hg72 hm
       replace F := F.bool (k := 64) (u := .bool true) rfl (congrArg (fun b => Value.bool b) (decide_eq_true hg72))
       refine m_on (k := 0) F rfl rfl rfl rfl rfl rfl rfl (fun u hu => y_move F rfl rfl) ?_; clear F; intro a F
       refine m_on (k := 0) F rfl rfl rfl rfl rfl rfl rfl (fun u hu => y_eql F rfl rfl rfl) ?_; clear F; intro a F
       refine m_pure F rfl rfl rfl rfl (fun u hu => y_pickT F rfl rfl rfl) ?_; clear F; intro a F
       refine m_pure F rfl rfl rfl rfl (fun u hu => y_move F rfl rfl) ?_; clear F; intro a F
       by_cases hg73 : x32.2.1 = 50
       · replace hm := ifT hg73 hm
         replace F := F.bool (k := 68) (u := .bool true) rfl (congrArg (fun b => Value.bool b) (decide_eq_true hg73))
         refine m_on (k := 0) F rfl rfl rfl rfl rfl rfl rfl (fun u hu => y_move F rfl rfl) ?_; clear F; intro a F
         refine m_on (k := 0) F rfl rfl rfl rfl rfl rfl rfl (fun u hu => y_eql F rfl rfl rfl) ?_; clear F; intro a F
         refine m_pure F rfl rfl rfl rfl (fun u hu => y_pickT F rfl rfl rfl) ?_; clear F; intro a F
         refine m_pure F rfl rfl rfl rfl (fun u hu => y_move F rfl rfl) ?_; clear F; intro a F
         by_cases hg74 : x48.2.1 = 0
         · replace hm := ifT hg74 hm
           replace F := F.bool (k := 72) (u := .bool true) rfl (congrArg (fun b => Value.bool b) (decide_eq_true hg74))
           refine m_on (k := 0) F rfl rfl rfl rfl rfl rfl rfl (fun u hu => y_move F rfl rfl) ?_; clear F; intro a F
           refine m_on1 (k := 0) F rfl rfl rfl rfl rfl rfl rfl (y_loadA F agg35 rfl rfl ((H.blk 14 rfl).row) ((bcells_length _).trans hl14)) ?_; clear F; intro a F
           refine m_heavyOn F rfl rfl rfl rfl rfl ?_; refine g_onP F rfl rfl rfl rfl ?_
           obtain ⟨x75, ex75, hn⟩ := ob hm; clear hm; revert hn; intro hm
           refine s_call wkP F rfl rfl rfl rfl (y_call F rfl rfl ent30) (w_stHas ((x48.2.2.1.1, x48.2.2.1.2.1, x48.2.2.1.2.2.1, x48.2.2.1.2.2.2), x48.2.2.2.1, x48.2.2.2.2.1, x48.2.2.2.2.2) x13.1 b6 b2 p50 c50 p51 c51 m52 m53 m54 w0 _ _ hl14 _ ex75 (((((((H.mv 8 rfl).mv 8 rfl).mv 8 rfl).mv 8 rfl).mv 8 rfl).mv 8 rfl).mv 8 rfl)) ?_; clear F H; rintro _ w a ⟨rfl, H⟩ F
           replace H : St w0 w (HP.blk b6 ([.pointer (some ⟨b2, 0, none⟩), .map (some m52), .map (some m53), .map (some m54)]) 75 :: HP.blk b2 ([.slice p50 (x48.2.2.1.1).length c50, .slice p51 (x48.2.2.1.2.1).length c51, .int .i64 (x48.2.2.1.2.2.1), .bool (x48.2.2.1.2.2.2)]) 71 :: HP.ow (rSl rByte) 33 p50 c50 x48.2.2.1.1 :: HP.ow (rPair (rInt .i64) (rSl rByte)) 88 p51 c51 x48.2.2.1.2.1 :: HP.mm (some m52) hv false (rInt .i64) (fun l => l.length = 32) x48.2.2.2.1 :: HP.mm (some m53) (Value.int .i64) true (rBytesN 32) (fun _ => True) x48.2.2.2.2.1 :: HP.mm (some m54) hv false (rInt .i64) (fun l => l.length = 32) x48.2.2.2.2.2 :: HP.sl rByte (some ⟨b68, 0, none⟩) (([x69]).length) ([x69]) :: HP.blk b55 (bcells x48.1) 35 :: HP.sl rByte (some ⟨b46, 0, none⟩) (([x47]).length) ([x47]) :: HP.sl (rBytesN 32) none 0 ([] : List (List UInt8)) :: HP.blk b39 (bcells x32.1) 35 :: HP.sl rByte (some ⟨b30, 0, none⟩) (([x31]).length) ([x31]) :: HP.sl rByte (some ⟨b21, 0, none⟩) (([x22]).length) ([x22]) :: HP.blk b20 (bcells x13.1) 35 :: HP.sl rByte (some ⟨b11, 0, none⟩) (([x12]).length) ([x12]) :: HP.row 0 (0) (icells .u32 shaStart) :: HP.row 2 (0) (icells .u32 shaRounds) :: l) := H
           refine wpList_nil ?_; refine c_then ⟨⟨_, (H.mv 14 rfl)⟩, ?_⟩
           refine m_on (k := 0) F rfl rfl rfl rfl rfl rfl rfl (fun u hu => y_not F rfl rfl) ?_; clear F; intro a F
           refine m_pure F rfl rfl rfl rfl (fun u hu => y_pickT F rfl rfl rfl) ?_; clear F; intro a F
           refine m_pure F rfl rfl rfl rfl (fun u hu => y_move F rfl rfl) ?_; clear F; intro a F
           by_cases hg76 : (!x75) = true
           · replace hm := ifT hg76 hm
             replace F := F.bool (k := 78) (u := .bool true) rfl (by rw [hg76])
             refine m_on (k := 0) F rfl rfl rfl rfl rfl rfl rfl (fun u hu => y_move F rfl rfl) ?_; clear F; intro a F
             refine m_heavyOn F rfl rfl rfl rfl rfl ?_; refine g_onP F rfl rfl rfl rfl ?_
             obtain ⟨x77, ex77, hn⟩ := ob hm; clear hm; revert hn; intro hm
             refine s_call wkP F rfl rfl rfl rfl (y_call F rfl rfl ent17) (w_stFree ((x48.2.2.1.1, x48.2.2.1.2.1, x48.2.2.1.2.2.1, x48.2.2.1.2.2.2), x48.2.2.2.1, x48.2.2.2.2.1, x48.2.2.2.2.2) b6 b2 p50 c50 p51 c51 m52 m53 m54 w0 _ _  _ ex77 (((((((H.mv 6 rfl).mv 6 rfl).mv 6 rfl).mv 6 rfl).mv 6 rfl).mv 6 rfl).mv 6 rfl)) ?_; clear F H; rintro _ w a ⟨rfl, H⟩ F
             replace H : St w0 w (HP.blk b6 ([.pointer (some ⟨b2, 0, none⟩), .map (some m52), .map (some m53), .map (some m54)]) 75 :: HP.blk b2 ([.slice p50 (x48.2.2.1.1).length c50, .slice p51 (x48.2.2.1.2.1).length c51, .int .i64 (x48.2.2.1.2.2.1), .bool (x48.2.2.1.2.2.2)]) 71 :: HP.ow (rSl rByte) 33 p50 c50 x48.2.2.1.1 :: HP.ow (rPair (rInt .i64) (rSl rByte)) 88 p51 c51 x48.2.2.1.2.1 :: HP.mm (some m52) hv false (rInt .i64) (fun l => l.length = 32) x48.2.2.2.1 :: HP.mm (some m53) (Value.int .i64) true (rBytesN 32) (fun _ => True) x48.2.2.2.2.1 :: HP.mm (some m54) hv false (rInt .i64) (fun l => l.length = 32) x48.2.2.2.2.2 :: HP.sl rByte (some ⟨b68, 0, none⟩) (([x69]).length) ([x69]) :: HP.blk b55 (bcells x48.1) 35 :: HP.sl rByte (some ⟨b46, 0, none⟩) (([x47]).length) ([x47]) :: HP.sl (rBytesN 32) none 0 ([] : List (List UInt8)) :: HP.blk b39 (bcells x32.1) 35 :: HP.sl rByte (some ⟨b30, 0, none⟩) (([x31]).length) ([x31]) :: HP.sl rByte (some ⟨b21, 0, none⟩) (([x22]).length) ([x22]) :: HP.blk b20 (bcells x13.1) 35 :: HP.sl rByte (some ⟨b11, 0, none⟩) (([x12]).length) ([x12]) :: HP.row 0 (0) (icells .u32 shaStart) :: HP.row 2 (0) (icells .u32 shaRounds) :: l) := H
             refine wpList_nil ?_; refine c_then ⟨⟨_, (H.mv 14 rfl)⟩, ?_⟩
             refine m_on (k := 0) F rfl rfl rfl rfl rfl rfl rfl (fun u hu => y_eql F rfl rfl rfl) ?_; clear F; intro a F
             refine m_pure F rfl rfl rfl rfl (fun u hu => y_pickT F rfl rfl rfl) ?_; clear F; intro a F
             refine m_pure F rfl rfl rfl rfl (fun u hu => y_assign F rfl rfl) ?_; clear F; intro a F
             refine m_nil ?_
             refine c_then ?_
             refine wp_ret ?_
             obtain rfl := Option.some.inj hm
             refine x_ret1 F rfl rfl ?_
             exact ⟨_, rfl, rfl, (H.keep 0 18)⟩
           · replace hm := ifF hg76 hm
             replace F := F.bool (k := 78) (u := .bool false) rfl (by rw [eq_false_of_ne_true hg76])
             refine m_off F rfl rfl rfl rfl rfl rfl rfl rfl ?_; clear F; intro a F
             refine m_off F rfl rfl rfl rfl rfl rfl rfl rfl ?_; clear F; intro a F
             refine m_off F rfl rfl rfl rfl rfl rfl rfl rfl ?_; clear F; intro a F
             refine m_pure F rfl rfl rfl rfl (fun u hu => y_pickF F rfl rfl rfl) ?_; clear F; intro a F
             refine m_pure F rfl rfl rfl rfl (fun u hu => y_assign F rfl rfl) ?_; clear F; intro a F
             refine m_nil ?_
             refine c_then ?_
             refine wp_ret ?_
             obtain rfl := Option.some.inj hm
             refine x_ret1 F rfl rfl ?_
             exact ⟨_, rfl, rfl, (H.keep 0 18)⟩
         · replace hm := ifF hg74 hm
           replace F := F.bool (k := 72) (u := .bool false) rfl (congrArg (fun b => Value.bool b) (decide_eq_false hg74))
           refine m_off F rfl rfl rfl rfl rfl rfl rfl rfl ?_; clear F; intro a F
           refine m_off F rfl rfl rfl rfl rfl rfl rfl rfl ?_; clear F; intro a F
           refine m_off F rfl rfl rfl rfl rfl rfl rfl rfl ?_; clear F; intro a F
           refine m_off F rfl rfl rfl rfl rfl rfl rfl rfl ?_; clear F; intro a F
           refine m_pure F rfl rfl rfl rfl (fun u hu => y_pickF F rfl rfl rfl) ?_; clear F; intro a F
           refine m_pure F rfl rfl rfl rfl (fun u hu => y_move F rfl rfl) ?_; clear F; intro a F
           refine m_off F rfl rfl rfl rfl rfl rfl rfl rfl ?_; clear F; intro a F
           refine m_off F rfl rfl rfl rfl rfl rfl rfl rfl ?_; clear F; intro a F
           refine m_off F rfl rfl rfl rfl rfl rfl rfl rfl ?_; clear F; intro a F
           refine m_pure F rfl rfl rfl rfl (fun u hu => y_pickF F rfl rfl rfl) ?_; clear F; intro a F
           refine m_pure F rfl rfl rfl rfl (fun u hu => y_assign F rfl rfl) ?_; clear F; intro a F
           refine m_nil ?_
           refine c_then ?_
           refine wp_ret ?_
           obtain rfl := Option.some.inj hm
           refine x_ret1 F rfl rfl ?_
           exact ⟨_, rfl, rfl, (H.keep 0 18)⟩
       · replace hm := ifF hg73 hm
         replace F := F.bool (k := 68) (u := .bool false) rfl (congrArg (fun b => Value.bool b) (decide_eq_false hg73))
         refine m_off F rfl rfl rfl rfl rfl rfl rfl rfl ?_; clear F; intro a F
         refine m_off F rfl rfl rfl rfl rfl rfl rfl rfl ?_; clear F; intro a F
         refine m_pure F rfl rfl rfl rfl (fun u hu => y_pickF F rfl rfl rfl) ?_; clear F; intro a F
         refine m_pure F rfl rfl rfl rfl (fun u hu => y_move F rfl rfl) ?_; clear F; intro a F
         refine m_off F rfl rfl rfl rfl rfl rfl rfl rfl ?_; clear F; intro a F
         refine m_off F rfl rfl rfl rfl rfl rfl rfl rfl ?_; clear F; intro a F
         refine m_off F rfl rfl rfl rfl rfl rfl rfl rfl ?_; clear F; intro a F
         refine m_off F rfl rfl rfl rfl rfl rfl rfl rfl ?_; clear F; intro a F
         refine m_pure F rfl rfl rfl rfl (fun u hu => y_pickF F rfl rfl rfl) ?_; clear F; intro a F
         refine m_pure F rfl rfl rfl rfl (fun u hu => y_move F rfl rfl) ?_; clear F; intro a F
         refine m_off F rfl rfl rfl rfl rfl rfl rfl rfl ?_; clear F; intro a F
         refine m_off F rfl rfl rfl rfl rfl rfl rfl rfl ?_; clear F; intro a F
         refine m_off F rfl rfl rfl rfl rfl rfl rfl rfl ?_; clear F; intro a F
         refine m_pure F rfl rfl rfl rfl (fun u hu => y_pickF F rfl rfl rfl) ?_; clear F; intro a F
         refine m_pure F rfl rfl rfl rfl (fun u hu => y_assign F rfl rfl) ?_; clear F; intro a F
         refine m_nil ?_
         refine c_then ?_
         refine wp_ret ?_
         obtain rfl := Option.some.inj hm
         refine x_ret1 F rfl rfl ?_
         exact ⟨_, rfl, rfl, (H.keep 0 18)⟩
     · replace hm := ifF hg72 hm
       replace F := F.bool (k := 64) (u := .bool false) rfl (congrArg (fun b => Value.bool b) (decide_eq_false hg72))
       refine m_off F rfl rfl rfl rfl rfl rfl rfl rfl ?_; clear F; intro a F
       refine m_off F rfl rfl rfl rfl rfl rfl rfl rfl ?_; clear F; intro a F
       refine m_pure F rfl rfl rfl rfl (fun u hu => y_pickF F rfl rfl rfl) ?_; clear F; intro a F
       refine m_pure F rfl rfl rfl rfl (fun u hu => y_move F rfl rfl) ?_; clear F; intro a F
       refine m_off F rfl rfl rfl rfl rfl rfl rfl rfl ?_; clear F; intro a F
       refine m_off F rfl rfl rfl rfl rfl rfl rfl rfl ?_; clear F; intro a F
       refine m_pure F rfl rfl rfl rfl (fun u hu => y_pickF F rfl rfl rfl) ?_; clear F; intro a F
       refine m_pure F rfl rfl rfl rfl (fun u hu => y_move F rfl rfl) ?_; clear F; intro a F
       refine m_off F rfl rfl rfl rfl rfl rfl rfl rfl ?_; clear F; intro a F
       refine m_off F rfl rfl rfl rfl rfl rfl rfl rfl ?_; clear F; intro a F
       refine m_off F rfl rfl rfl rfl rfl rfl rfl rfl ?_; clear F; intro a F
       refine m_off F rfl rfl rfl rfl rfl rfl rfl rfl ?_; clear F; intro a F
       refine m_pure F rfl rfl rfl rfl (fun u hu => y_pickF F rfl rfl rfl) ?_; clear F; intro a F
       refine m_pure F rfl rfl rfl rfl (fun u hu => y_move F rfl rfl) ?_; clear F; intro a F
       refine m_off F rfl rfl rfl rfl rfl rfl rfl rfl ?_; clear F; intro a F
       refine m_off F rfl rfl rfl rfl rfl rfl rfl rfl ?_; clear F; intro a F
       refine m_off F rfl rfl rfl rfl rfl rfl rfl rfl ?_; clear F; intro a F
       refine m_pure F rfl rfl rfl rfl (fun u hu => y_pickF F rfl rfl rfl) ?_; clear F; intro a F
       refine m_pure F rfl rfl rfl rfl (fun u hu => y_assign F rfl rfl) ?_; clear F; intro a F
       refine m_nil ?_
       refine c_then ?_
       refine wp_ret ?_
       obtain rfl := Option.some.inj hm
       refine x_ret1 F rfl rfl ?_
       exact ⟨_, rfl, rfl, (H.keep 0 18)⟩
   · replace hm := ifF hg67 hm
     refine mix_region [4, 5, 6, 20, 25] [] (.step 0 0 (.step 0 1 (.step 0 2 (.step 0 3 (.step 2 4 (.step 2 5 (.step 2 6 (.step 0 7 (.step 0 8 (.step 0 9 (.step 0 10 (.step 0 11 (.step 0 12 (.step 0 13 (.step 0 14 (.step 0 15 (.step 0 16 (.step 0 17 (.step 0 18 (.step 1 19 (.step 2 20 (.step 0 21 (.step 0 22 (.step 0 23 (.step 0 24 (.step 2 25 (.step 0 26 (.step 0 27 (.step 0 28 .done))))))))))))))))))))))))))))) (fun u => ∃ ls, St w0 u (HP.blk b20 (bcells x13.1) 35 :: ls)) (by kernel_rfl) (by kernel_rfl) ⟨_, (H.drew.mv 13 rfl)⟩ ?_
     replace H := H.drew
     generalize w.drew = w at H ⊢
     refine m_pure F rfl rfl rfl rfl (fun u hu => y_move F rfl rfl) ?_; clear F; intro a F
     refine m_pure F rfl rfl rfl rfl (fun u hu => y_eql F rfl rfl rfl) ?_; clear F; intro a F
     refine m_pure F rfl rfl rfl rfl (fun u hu => y_move F rfl rfl) ?_; clear F; intro a F
     replace F := F.bool (k := 57) (u := .bool false) rfl (congrArg (fun b => Value.bool b) (decide_eq_false hg67))
     refine m_off F rfl rfl rfl rfl rfl rfl rfl rfl ?_; clear F; intro a F
     refine m_off F rfl rfl rfl rfl rfl rfl rfl rfl ?_; clear F; intro a F
     refine m_off F rfl rfl rfl rfl rfl rfl rfl rfl ?_; clear F; intro a F
     refine m_off F rfl rfl rfl rfl rfl rfl rfl rfl ?_; clear F; intro a F
     refine m_off F rfl rfl rfl rfl rfl rfl rfl rfl ?_; clear F; intro a F
     refine m_pure F rfl rfl rfl rfl (fun u hu => y_pickF F rfl rfl rfl) ?_; clear F; intro a F
     refine m_pure F rfl rfl rfl rfl (fun u hu => y_move F rfl rfl) ?_; clear F; intro a F
     refine m_off F rfl rfl rfl rfl rfl rfl rfl rfl ?_; clear F; intro a F
     refine m_off F rfl rfl rfl rfl rfl rfl rfl rfl ?_; clear F; intro a F
     refine m_pure F rfl rfl rfl rfl (fun u hu => y_pickF F rfl rfl rfl) ?_; clear F; intro a F
     refine m_pure F rfl rfl rfl rfl (fun u hu => y_move F rfl rfl) ?_; clear F; intro a F
     refine m_off F rfl rfl rfl rfl rfl rfl rfl rfl ?_; clear F; intro a F
     refine m_off F rfl rfl rfl rfl rfl rfl rfl rfl ?_; clear F; intro a F
     refine m_pure F rfl rfl rfl rfl (fun u hu => y_pickF F rfl rfl rfl) ?_; clear F; intro a F
     refine m_pure F rfl rfl rfl rfl (fun u hu => y_move F rfl rfl) ?_; clear F; intro a F
     refine m_off F rfl rfl rfl rfl rfl rfl rfl rfl ?_; clear F; intro a F
     refine m_off F rfl rfl rfl rfl rfl rfl rfl rfl ?_; clear F; intro a F
     refine m_off F rfl rfl rfl rfl rfl rfl rfl rfl ?_; clear F; intro a F
     refine m_off F rfl rfl rfl rfl rfl rfl rfl rfl ?_; clear F; intro a F
     refine m_pure F rfl rfl rfl rfl (fun u hu => y_pickF F rfl rfl rfl) ?_; clear F; intro a F
     refine m_pure F rfl rfl rfl rfl (fun u hu => y_move F rfl rfl) ?_; clear F; intro a F
     refine m_off F rfl rfl rfl rfl rfl rfl rfl rfl ?_; clear F; intro a F
     refine m_off F rfl rfl rfl rfl rfl rfl rfl rfl ?_; clear F; intro a F
     refine m_off F rfl rfl rfl rfl rfl rfl rfl rfl ?_; clear F; intro a F
     refine m_pure F rfl rfl rfl rfl (fun u hu => y_pickF F rfl rfl rfl) ?_; clear F; intro a F
     refine m_pure F rfl rfl rfl rfl (fun u hu => y_assign F rfl rfl) ?_; clear F; intro a F
     refine m_nil ?_
     refine c_then ?_
     refine wp_ret ?_
     obtain rfl := Option.some.inj hm
     refine x_ret1 F rfl rfl ?_
     exact ⟨_, rfl, rfl, (H.keep 0 17)⟩
end Go.Proofs.YtfepdfjhejkemaaDoor
