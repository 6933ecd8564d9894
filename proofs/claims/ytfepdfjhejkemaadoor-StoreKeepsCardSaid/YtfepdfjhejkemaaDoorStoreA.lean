/- store -/
import Derived.Test.YtfepdfjhejkemaaDoorRefA
set_option linter.unusedSimpArgs false
set_option linter.unusedVariables false
namespace Go.Proofs.YtfepdfjhejkemaaDoor
open Go.RowKit Go.Tri
theorem aggz35 : AggT Tryd.prog 35 32 (bcells (List.replicate 32 0)) := ⟨by rw [Tryd.underlying35]; rfl, by kernel_rfl, by kernel_rfl⟩
theorem fld75_1 : FieldT Tryd.prog 75 1 1 := by unfold FieldT; rw [Tryd.underlying75]; kernel_rfl
theorem plain72 : Plain Tryd.prog 72 := by unfold Plain; rw [Tryd.underlying72]; rfl
set_option maxRecDepth 100000 in
set_option maxHeartbeats 4000000 in
theorem w_stHas (s : ((List (List UInt8)) × (List (Int × (List UInt8))) × Int × Bool) × ((List UInt8) → Option Int) × (Int → Option (List UInt8)) × ((List UInt8) → Option Int)) (h : List UInt8) (bo0 : Nat) (bo0_0 : Nat) (p1 : Option Addr) (c1 : Nat) (p2 : Option Addr) (c2 : Nat) (m3 : Nat) (m4 : Nat) (m5 : Nat) (w0 w : World) (l : List HP) (hl6 : (h).length = 32) (r : Bool) (hm : stHas s h = some r) (H : St w0 w (HP.blk bo0 ([.pointer (some ⟨bo0_0, 0, none⟩), .map (some m3), .map (some m4), .map (some m5)]) 75 :: HP.blk bo0_0 ([.slice p1 (s.1.1).length c1, .slice p2 (s.1.2.1).length c2, .int .i64 (s.1.2.2.1), .bool (s.1.2.2.2)]) 71 :: HP.ow (rSl rByte) 33 p1 c1 s.1.1 :: HP.ow (rPair (rInt .i64) (rSl rByte)) 88 p2 c2 s.1.2.1 :: HP.mm (some m3) hv false (rInt .i64) (fun l => l.length = 32) s.2.1 :: HP.mm (some m4) (Value.int .i64) true (rBytesN 32) (fun _ => True) s.2.2.1 :: HP.mm (some m5) hv false (rInt .i64) (fun l => l.length = 32) s.2.2.2 :: l)) :
  Calls Tryd.prog 30 [.pointer (some ⟨bo0, 0, none⟩), .agg (bcells h).toArray].toArray w (fun e w' => ∃ v, e = .returned v ∧ v = .bool (r) ∧ St w0 w' (HP.blk bo0 ([.pointer (some ⟨bo0_0, 0, none⟩), .map (some m3), .map (some m4), .map (some m5)]) 75 :: HP.blk bo0_0 ([.slice p1 (s.1.1).length c1, .slice p2 (s.1.2.1).length c2, .int .i64 (s.1.2.2.1), .bool (s.1.2.2.2)]) 71 :: HP.ow (rSl rByte) 33 p1 c1 s.1.1 :: HP.ow (rPair (rInt .i64) (rSl rByte)) 88 p2 c2 s.1.2.1 :: HP.mm (some m3) hv false (rInt .i64) (fun l => l.length = 32) s.2.1 :: HP.mm (some m4) (Value.int .i64) true (rBytesN 32) (fun _ => True) s.2.2.1 :: HP.mm (some m5) hv false (rInt .i64) (fun l => l.length = 32) s.2.2.2 :: l)) := by
 unfold stHas at hm
 refine x_enter Tryd.func30 rfl rfl rfl ?_
 intro a F
 replace F : Fr ⟨17, []⟩ a [(0, .pointer (some ⟨bo0, 0, none⟩)), (1, .agg (bcells h).toArray)] := F
 refine wp_seq ?_
 refine r_lit ?_
 refine s_boxA wkP F rfl rfl rfl rfl rfl H ?_; clear F H; intro b7 w a H F
 replace H : St w0 w (HP.blk b7 (bcells h) 35 :: HP.blk bo0 ([.pointer (some ⟨bo0_0, 0, none⟩), .map (some m3), .map (some m4), .map (some m5)]) 75 :: HP.blk bo0_0 ([.slice p1 (s.1.1).length c1, .slice p2 (s.1.2.1).length c2, .int .i64 (s.1.2.2.1), .bool (s.1.2.2.2)]) 71 :: HP.ow (rSl rByte) 33 p1 c1 s.1.1 :: HP.ow (rPair (rInt .i64) (rSl rByte)) 88 p2 c2 s.1.2.1 :: HP.mm (some m3) hv false (rInt .i64) (fun l => l.length = 32) s.2.1 :: HP.mm (some m4) (Value.int .i64) true (rBytesN 32) (fun _ => True) s.2.2.1 :: HP.mm (some m5) hv false (rInt .i64) (fun l => l.length = 32) s.2.2.2 :: l) := H
 refine s_val wkP F rfl rfl rfl rfl (y_assign F rfl rfl) ?_; clear F; intro a F
 refine wpList_nil ?_
 refine c_then ?_
 refine wp_seq ?_
 obtain ⟨es8, H⟩ := H.mmOpen 5 rfl; replace H : St w0 w (HP.blk b7 (bcells h) 35 :: HP.blk bo0 ([.pointer (some ⟨bo0_0, 0, none⟩), .map (some m3), .map (some m4), .map (some m5)]) 75 :: HP.blk bo0_0 ([.slice p1 (s.1.1).length c1, .slice p2 (s.1.2.1).length c2, .int .i64 (s.1.2.2.1), .bool (s.1.2.2.2)]) 71 :: HP.ow (rSl rByte) 33 p1 c1 s.1.1 :: HP.ow (rPair (rInt .i64) (rSl rByte)) 88 p2 c2 s.1.2.1 :: HP.mx (some m3) hv false (rInt .i64) (fun l => l.length = 32) es8 s.2.1 :: HP.mm (some m4) (Value.int .i64) true (rBytesN 32) (fun _ => True) s.2.2.1 :: HP.mm (some m5) hv false (rInt .i64) (fun l => l.length = 32) s.2.2.2 :: l) := H
 obtain ⟨cs9, hcs9, H⟩ := H.mxGet 5 rfl h (zc := [Value.int .i64 0]) (z0 := 0) (fun _ => rfl)
 obtain rfl := H.rcI 0 rfl
 replace H := H.dp 0 rfl
 refine q_region (fun u => St w0 u (HP.blk b7 (bcells h) 35 :: HP.blk bo0 ([.pointer (some ⟨bo0_0, 0, none⟩), .map (some m3), .map (some m4), .map (some m5)]) 75 :: HP.blk bo0_0 ([.slice p1 (s.1.1).length c1, .slice p2 (s.1.2.1).length c2, .int .i64 (s.1.2.2.1), .bool (s.1.2.2.2)]) 71 :: HP.ow (rSl rByte) 33 p1 c1 s.1.1 :: HP.ow (rPair (rInt .i64) (rSl rByte)) 88 p2 c2 s.1.2.1 :: HP.mx (some m3) hv false (rInt .i64) (fun l => l.length = 32) es8 s.2.1 :: HP.mm (some m4) (Value.int .i64) true (rBytesN 32) (fun _ => True) s.2.2.1 :: HP.mm (some m5) hv false (rInt .i64) (fun l => l.length = 32) s.2.2.2 :: l)) (by kernel_rfl) (by kernel_rfl) H.drew ?_
 refine q_val F rfl rfl rfl (fun u hu => y_move F rfl rfl) ?_; clear F; intro a F
 refine q_val F rfl rfl rfl (fun u hu => y_nilCheck F rfl rfl) ?_; clear F; intro a F
 refine q_val F rfl rfl rfl (fun u hu => y_fieldAddr F fld75_1 rfl rfl) ?_; clear F; intro a F
 refine q_val F rfl rfl rfl (fun u hu => y_load1 F plain72 rfl rfl (row_at (v := .map (some m3)) ((hu.blk 1 rfl).row) rfl)) ?_; clear F; intro a F
 refine q_val F rfl rfl rfl (fun u hu => y_loadA F agg35 rfl rfl ((hu.blk 0 rfl).row) ((bcells_length _).trans hl6)) ?_; clear F; intro a F
 refine q_val F rfl rfl rfl (fun u hu => y_mxGet2 (agg := false) (zc := [Value.int .i64 0]) F Tryd.underlying72 (keyH key35) (fun w => zero3.run w) rfl hu 5 rfl rfl (k := h) rfl hl6 hcs9) ?_; clear F; intro a F
 refine q_val F rfl rfl rfl (fun u hu => y_move F rfl rfl) ?_; clear F; intro a F
 refine q_val F rfl rfl rfl (fun u hu => y_extract F rfl rfl rfl) ?_; clear F; intro a F
 refine q_val F rfl rfl rfl (fun u hu => y_extract F rfl rfl rfl) ?_; clear F; intro a F
 refine q_val F rfl rfl rfl (fun u hu => y_assign F rfl rfl) ?_; clear F; intro a F
 refine q_val F rfl rfl rfl (fun u hu => y_assign F rfl rfl) ?_; clear F; intro a F
 refine q_nil ?_; clear H; intro w H
 replace H : St w0 w (HP.blk b7 (bcells h) 35 :: HP.blk bo0 ([.pointer (some ⟨bo0_0, 0, none⟩), .map (some m3), .map (some m4), .map (some m5)]) 75 :: HP.blk bo0_0 ([.slice p1 (s.1.1).length c1, .slice p2 (s.1.2.1).length c2, .int .i64 (s.1.2.2.1), .bool (s.1.2.2.2)]) 71 :: HP.ow (rSl rByte) 33 p1 c1 s.1.1 :: HP.ow (rPair (rInt .i64) (rSl rByte)) 88 p2 c2 s.1.2.1 :: HP.mm (some m3) hv false (rInt .i64) (fun l => l.length = 32) s.2.1 :: HP.mm (some m4) (Value.int .i64) true (rBytesN 32) (fun _ => True) s.2.2.1 :: HP.mm (some m5) hv false (rInt .i64) (fun l => l.length = 32) s.2.2.2 :: l) := H.mxShut 5 rfl
 refine c_then ?_
 refine wp_seq ?_
 refine r_lit ?_
 refine s_val wkP F rfl rfl rfl rfl (y_move F rfl rfl) ?_; clear F; intro a F
 refine s_val wkP F rfl rfl rfl rfl (y_assign F rfl rfl) ?_; clear F; intro a F
 refine wpList_nil ?_
 refine c_then ?_
 refine wp_ret ?_
 obtain rfl := Option.some.inj hm
 refine x_ret1 F rfl rfl ?_
 exact ⟨_, rfl, rfl, ((((((((H.mv 7 rfl).mv 7 rfl).mv 7 rfl).mv 7 rfl).mv 7 rfl).mv 7 rfl).mv 7 rfl).keep 7 1)⟩
theorem fld75_3 : FieldT Tryd.prog 75 3 3 := by unfold FieldT; rw [Tryd.underlying75]; kernel_rfl
theorem zero72 : Zero1 Tryd.prog 72 (.map none) := ⟨by kernel_rfl, rfl⟩
set_option maxRecDepth 100000 in
set_option maxHeartbeats 4000000 in
theorem w_stHold (s : ((List (List UInt8)) × (List (Int × (List UInt8))) × Int × Bool) × ((List UInt8) → Option Int) × (Int → Option (List UInt8)) × ((List UInt8) → Option Int)) (list : List (List UInt8)) (bo0 : Nat) (bo0_0 : Nat) (p1 : Option Addr) (c1 : Nat) (p2 : Option Addr) (c2 : Nat) (m3 : Nat) (m4 : Nat) (m5 : Nat) (p6 : Option Addr) (c6 : Nat) (w0 w : World) (l : List HP)  (r : (((List (List UInt8)) × (List (Int × (List UInt8))) × Int × Bool) × ((List UInt8) → Option Int) × (Int → Option (List UInt8)) × ((List UInt8) → Option Int))) (hm : stHold s list = some r) (H : St w0 w (HP.blk bo0 ([.pointer (some ⟨bo0_0, 0, none⟩), .map (some m3), .map (some m4), .map (some m5)]) 75 :: HP.blk bo0_0 ([.slice p1 (s.1.1).length c1, .slice p2 (s.1.2.1).length c2, .int .i64 (s.1.2.2.1), .bool (s.1.2.2.2)]) 71 :: HP.ow (rSl rByte) 33 p1 c1 s.1.1 :: HP.ow (rPair (rInt .i64) (rSl rByte)) 88 p2 c2 s.1.2.1 :: HP.mm (some m3) hv false (rInt .i64) (fun l => l.length = 32) s.2.1 :: HP.mm (some m4) (Value.int .i64) true (rBytesN 32) (fun _ => True) s.2.2.1 :: HP.mm (some m5) hv false (rInt .i64) (fun l => l.length = 32) s.2.2.2 :: HP.sl (rBytesN 32) p6 c6 list :: l)) :
  Calls Tryd.prog 14 [.pointer (some ⟨bo0, 0, none⟩), .slice p6 (list).length c6].toArray w (fun e w' => ∃ v, e = .returned v ∧ ∃ (p7 : Option Addr) (c7 : Nat) (p8 : Option Addr) (c8 : Nat) (m9 : Nat) (m10 : Nat) (m11 : Nat), v = .tuple [].toArray ∧ St w0 w' (HP.blk bo0 ([.pointer (some ⟨bo0_0, 0, none⟩), .map (some m9), .map (some m10), .map (some m11)]) 75 :: HP.blk bo0_0 ([.slice p7 (r.1.1).length c7, .slice p8 (r.1.2.1).length c8, .int .i64 (r.1.2.2.1), .bool (r.1.2.2.2)]) 71 :: HP.ow (rSl rByte) 33 p7 c7 r.1.1 :: HP.ow (rPair (rInt .i64) (rSl rByte)) 88 p8 c8 r.1.2.1 :: HP.mm (some m9) hv false (rInt .i64) (fun l => l.length = 32) r.2.1 :: HP.mm (some m10) (Value.int .i64) true (rBytesN 32) (fun _ => True) r.2.2.1 :: HP.mm (some m11) hv false (rInt .i64) (fun l => l.length = 32) r.2.2.2 :: l)) := by
 unfold stHold at hm
 refine x_enter Tryd.func14 rfl rfl rfl ?_
 intro a F
 replace F : Fr ⟨22, []⟩ a [(0, .pointer (some ⟨bo0, 0, none⟩)), (1, .slice p6 (list).length c6)] := F
 refine wp_seq ?_
 refine r_lit ?_
 refine s_val wkP F rfl rfl rfl rfl (y_move F rfl rfl) ?_; clear F; intro a F
 refine s_mmNew hv false (rInt .i64) (fun l => l.length = 32) wkP F rfl rfl rfl rfl H ?_; clear F H; intro m12 w a H F
 replace H : St w0 w (HP.mm (some m12) hv false (rInt .i64) (fun l => l.length = 32) (fnil : (List UInt8) → Option Int) :: HP.blk bo0 ([.pointer (some ⟨bo0_0, 0, none⟩), .map (some m3), .map (some m4), .map (some m5)]) 75 :: HP.blk bo0_0 ([.slice p1 (s.1.1).length c1, .slice p2 (s.1.2.1).length c2, .int .i64 (s.1.2.2.1), .bool (s.1.2.2.2)]) 71 :: HP.ow (rSl rByte) 33 p1 c1 s.1.1 :: HP.ow (rPair (rInt .i64) (rSl rByte)) 88 p2 c2 s.1.2.1 :: HP.mm (some m3) hv false (rInt .i64) (fun l => l.length = 32) s.2.1 :: HP.mm (some m4) (Value.int .i64) true (rBytesN 32) (fun _ => True) s.2.2.1 :: HP.mm (some m5) hv false (rInt .i64) (fun l => l.length = 32) s.2.2.2 :: HP.sl (rBytesN 32) p6 c6 list :: l) := H
 refine s_val wkP F rfl rfl rfl rfl (y_nilCheck F rfl rfl) ?_; clear F; intro a F
 refine s_val wkP F rfl rfl rfl rfl (y_fieldAddr F fld75_3 rfl rfl) ?_; clear F; intro a F
 refine s_store1 wkP F rfl rfl zero72 rfl rfl rfl rfl rfl H 1 rfl (by simp [icells_length, bcells_length]) ?_; clear H; intro w H
 replace H : St w0 w (HP.mm (some m12) hv false (rInt .i64) (fun l => l.length = 32) (fnil : (List UInt8) → Option Int) :: HP.blk bo0 ([.pointer (some ⟨bo0_0, 0, none⟩), .map (some m3), .map (some m4), .map (some m12)]) 75 :: HP.blk bo0_0 ([.slice p1 (s.1.1).length c1, .slice p2 (s.1.2.1).length c2, .int .i64 (s.1.2.2.1), .bool (s.1.2.2.2)]) 71 :: HP.ow (rSl rByte) 33 p1 c1 s.1.1 :: HP.ow (rPair (rInt .i64) (rSl rByte)) 88 p2 c2 s.1.2.1 :: HP.mm (some m3) hv false (rInt .i64) (fun l => l.length = 32) s.2.1 :: HP.mm (some m4) (Value.int .i64) true (rBytesN 32) (fun _ => True) s.2.2.1 :: HP.mm (some m5) hv false (rInt .i64) (fun l => l.length = 32) s.2.2.2 :: HP.sl (rBytesN 32) p6 c6 list :: l) := H
 refine wpList_nil ?_
 refine c_then ?_
 refine wp_seq ?_
 refine r_lit ?_
 refine s_val wkP F rfl rfl rfl rfl (y_move F rfl rfl) ?_; clear F; intro a F
 refine s_val wkP F rfl rfl rfl rfl (y_lenS F rfl Tryd.underlying32 rfl) ?_; clear F; intro a F
 refine s_val wkP F rfl rfl rfl rfl (y_move F rfl rfl) ?_; clear F; intro a F
 refine wpList_nil ?_
 refine c_then ?_
 obtain ⟨r32, er32, hm32⟩ := ob hm; clear hm; revert er32; intro hm
 refine x_mid (fun aa ww => Fr ⟨22, []⟩ aa [] ∧ St w0 ww (HP.mm (some m12) hv false (rInt .i64) (fun l => l.length = 32) r32 :: HP.blk bo0 ([.pointer (some ⟨bo0_0, 0, none⟩), .map (some m3), .map (some m4), .map (some m12)]) 75 :: HP.blk bo0_0 ([.slice p1 (s.1.1).length c1, .slice p2 (s.1.2.1).length c2, .int .i64 (s.1.2.2.1), .bool (s.1.2.2.2)]) 71 :: HP.ow (rSl rByte) 33 p1 c1 s.1.1 :: HP.ow (rPair (rInt .i64) (rSl rByte)) 88 p2 c2 s.1.2.1 :: HP.mm (some m3) hv false (rInt .i64) (fun l => l.length = 32) s.2.1 :: HP.mm (some m4) (Value.int .i64) true (rBytesN 32) (fun _ => True) s.2.2.1 :: HP.mm (some m5) hv false (rInt .i64) (fun l => l.length = 32) s.2.2.2 :: l)) ?_ ?_
 · skip
   refine wp_block ?_
   refine x_loopO _ (fun (s45 : ((List UInt8) → Option Int) × Int) aa ww => Fr ⟨22, []⟩ aa [(0, .pointer (some ⟨bo0, 0, none⟩)), (10, .slice p6 (list).length c6), (11, .int .i64 (((list).length : Int))), (12, .int .i64 (s45.2))] ∧ St w0 ww (HP.mm (some m12) hv false (rInt .i64) (fun l => l.length = 32) s45.1 :: HP.blk bo0 ([.pointer (some ⟨bo0_0, 0, none⟩), .map (some m3), .map (some m4), .map (some m12)]) 75 :: HP.blk bo0_0 ([.slice p1 (s.1.1).length c1, .slice p2 (s.1.2.1).length c2, .int .i64 (s.1.2.2.1), .bool (s.1.2.2.2)]) 71 :: HP.ow (rSl rByte) 33 p1 c1 s.1.1 :: HP.ow (rPair (rInt .i64) (rSl rByte)) 88 p2 c2 s.1.2.1 :: HP.mm (some m3) hv false (rInt .i64) (fun l => l.length = 32) s.2.1 :: HP.mm (some m4) (Value.int .i64) true (rBytesN 32) (fun _ => True) s.2.2.1 :: HP.mm (some m5) hv false (rInt .i64) (fun l => l.length = 32) s.2.2.2 :: HP.sl (rBytesN 32) p6 c6 list :: l)) hm ⟨F.cut _ ⟨rfl, rfl, rfl, rfl, trivial⟩, ((((((((((H.cp 8 rfl pers_sl).mv 8 rfl).mv 8 rfl).mv 8 rfl).mv 8 rfl).mv 8 rfl).mv 8 rfl).mv 8 rfl).mv 8 rfl).keep 9 1)⟩ ?_
   clear F H hm
   rintro s45 a w o ⟨F, H⟩ hm
   refine wp_seq ?_
   refine r_lit ?_
   refine s_val wkP F rfl rfl rfl rfl (y_lss F rfl rfl rfl) ?_; clear F; intro a F
   refine wpList_nil ?_
   refine c_then ?_
   refine wp_seq ?_
   refine x_condP F rfl (fun hg46 => ?_) (fun hg46 => ?_)
   · replace hm := ifT hg46 hm
     refine wp_skip ?_
     refine c_then ?_
     refine wp_seq ?_
     refine wp_block ?_
     refine wp_seq ?_
     refine r_lit ?_
     obtain ⟨x47, ex47, hn⟩ := ob hm; clear hm; revert hn; intro hm
     obtain ⟨b48, o48, hp48⟩ := H.slP 8 rfl (idxO_some ex47).2
     obtain ⟨cs49, hcl49, H⟩ := H.slEl 8 rfl hp48 (idxO_some ex47).2
     obtain ⟨rfl, hl50⟩ := H.rcBN 1 rfl
     replace H := H.dp 1 rfl
     clear hcl49
     refine s_val wkP F rfl rfl rfl rfl (y_idxS F elem32 rfl rfl rfl hp48 ex47) ?_; clear F; intro a F
     refine s_val wkP F rfl rfl rfl rfl (y_loadA F agg35 rfl rfl (H.rowAt 0 rfl) ((bcells_length _).trans hl50)) ?_; clear F; intro a F
     refine s_allocA wkP F rfl rfl rfl agz35 rfl H ?_; clear F H; intro b51 w a H F
     replace H : St w0 w (HP.blk b51 (bcells (List.replicate 32 0)) 35 :: HP.row b48 (o48 + (s45.2 : Int).toNat * 32) (bcells x47) :: HP.mm (some m12) hv false (rInt .i64) (fun l => l.length = 32) s45.1 :: HP.blk bo0 ([.pointer (some ⟨bo0_0, 0, none⟩), .map (some m3), .map (some m4), .map (some m12)]) 75 :: HP.blk bo0_0 ([.slice p1 (s.1.1).length c1, .slice p2 (s.1.2.1).length c2, .int .i64 (s.1.2.2.1), .bool (s.1.2.2.2)]) 71 :: HP.ow (rSl rByte) 33 p1 c1 s.1.1 :: HP.ow (rPair (rInt .i64) (rSl rByte)) 88 p2 c2 s.1.2.1 :: HP.mm (some m3) hv false (rInt .i64) (fun l => l.length = 32) s.2.1 :: HP.mm (some m4) (Value.int .i64) true (rBytesN 32) (fun _ => True) s.2.2.1 :: HP.mm (some m5) hv false (rInt .i64) (fun l => l.length = 32) s.2.2.2 :: HP.sl (rBytesN 32) p6 c6 list :: l) := H
     refine s_storeA wkP F rfl rfl agg35 rfl rfl rfl H 0 rfl ((bcells_length _).trans hl50) ((bcells_length _).trans (List.length_replicate (n := 32))) (bcells_flat _) ?_; clear H; intro w H
     replace H : St w0 w (HP.blk b51 (bcells x47) 35 :: HP.row b48 (o48 + (s45.2 : Int).toNat * 32) (bcells x47) :: HP.mm (some m12) hv false (rInt .i64) (fun l => l.length = 32) s45.1 :: HP.blk bo0 ([.pointer (some ⟨bo0_0, 0, none⟩), .map (some m3), .map (some m4), .map (some m12)]) 75 :: HP.blk bo0_0 ([.slice p1 (s.1.1).length c1, .slice p2 (s.1.2.1).length c2, .int .i64 (s.1.2.2.1), .bool (s.1.2.2.2)]) 71 :: HP.ow (rSl rByte) 33 p1 c1 s.1.1 :: HP.ow (rPair (rInt .i64) (rSl rByte)) 88 p2 c2 s.1.2.1 :: HP.mm (some m3) hv false (rInt .i64) (fun l => l.length = 32) s.2.1 :: HP.mm (some m4) (Value.int .i64) true (rBytesN 32) (fun _ => True) s.2.2.1 :: HP.mm (some m5) hv false (rInt .i64) (fun l => l.length = 32) s.2.2.2 :: HP.sl (rBytesN 32) p6 c6 list :: l) := H
     refine wpList_nil ?_
     refine c_then ?_
     refine mix_region [5] [5] (.step 0 0 (.step 0 1 (.step 0 2 (.step 1 3 (.step 1 4 (.step 3 5 .done)))))) (fun u => ∃ ls, St w0 u (ls)) (by kernel_rfl) (by kernel_rfl) ⟨_, H.drew⟩ ?_
     replace H := H.drew
     generalize w.drew = w at H ⊢
     refine m_pure F rfl rfl rfl rfl (fun u hu => y_move F rfl rfl) ?_; clear F; intro a F
     refine m_pure F rfl rfl rfl rfl (fun u hu => y_nilCheck F rfl rfl) ?_; clear F; intro a F
     refine m_pure F rfl rfl rfl rfl (fun u hu => y_fieldAddr F fld75_3 rfl rfl) ?_; clear F; intro a F
     refine m_read F rfl rfl rfl rfl (y_load1 F plain72 rfl rfl (row_at (v := .map (some m12)) ((H.blk 3 rfl).row) rfl)) ?_; clear F; intro a F
     refine m_read F rfl rfl rfl rfl (y_loadA F agg35 rfl rfl ((H.blk 0 rfl).row) ((bcells_length _).trans hl50)) ?_; clear F; intro a F
     refine m_last rfl rfl ?_
     refine s_mmSet wkP F rfl rfl Tryd.underlying72 (keyH key35) rfl H 2 rfl rfl (k := x47) rfl (cs := [.int .i64 (1)]) rfl hl50 (v := 1) (fun gg => rfl) ?_; clear H; intro w H
     replace H : St w0 w (HP.blk b51 (bcells x47) 35 :: HP.row b48 (o48 + (s45.2 : Int).toNat * 32) (bcells x47) :: HP.mm (some m12) hv false (rInt .i64) (fun l => l.length = 32) (fset x47 1 s45.1) :: HP.blk bo0 ([.pointer (some ⟨bo0_0, 0, none⟩), .map (some m3), .map (some m4), .map (some m12)]) 75 :: HP.blk bo0_0 ([.slice p1 (s.1.1).length c1, .slice p2 (s.1.2.1).length c2, .int .i64 (s.1.2.2.1), .bool (s.1.2.2.2)]) 71 :: HP.ow (rSl rByte) 33 p1 c1 s.1.1 :: HP.ow (rPair (rInt .i64) (rSl rByte)) 88 p2 c2 s.1.2.1 :: HP.mm (some m3) hv false (rInt .i64) (fun l => l.length = 32) s.2.1 :: HP.mm (some m4) (Value.int .i64) true (rBytesN 32) (fun _ => True) s.2.2.1 :: HP.mm (some m5) hv false (rInt .i64) (fun l => l.length = 32) s.2.2.2 :: HP.sl (rBytesN 32) p6 c6 list :: l) := H
     refine wpList_nil ?_; refine c_then ?_
     refine m_nil ?_
     refine c_blkN ?_
     refine c_then ?_
     refine r_lit ?_
     refine s_val wkP F rfl rfl rfl rfl (i_add F rfl rfl rfl) ?_; clear F; intro a F
     refine s_val wkP F rfl rfl rfl rfl (y_move F rfl rfl) ?_; clear F; intro a F
     refine wpList_nil ?_
     refine c_then ?_; obtain rfl := Option.some.inj hm
     exact ⟨_, rfl, ⟨F.cut _ ⟨rfl, rfl, rfl, rfl, trivial⟩, ((((((((((H.cp 10 rfl pers_sl).mv 10 rfl).mv 10 rfl).mv 10 rfl).mv 10 rfl).mv 10 rfl).mv 10 rfl).mv 10 rfl).mv 10 rfl).keep 9 3)⟩⟩
   · replace hm := ifF hg46 hm
     refine wp_exit ?_
     refine c_thenX ?_
     refine c_thenX ?_; obtain rfl := Option.some.inj hm; refine ⟨_, rfl, ?_⟩; rintro rfl
     refine c_hit ?_
     refine c_then ?_
     exact ⟨F.cut _ trivial, (((((((((H.mv 7 rfl).mv 7 rfl).mv 7 rfl).mv 7 rfl).mv 7 rfl).mv 7 rfl).mv 7 rfl).mv 7 rfl).keep 8 1)⟩
 · skip
   clear F H hm
   rintro a w ⟨F, H⟩; have hm := hm32; clear hm32
   obtain rfl := Option.some.inj hm
   refine x_end0 F rfl ?_
   exact ⟨_, rfl, p1, c1, p2, c2, m3, m4, m12, rfl, ((((((((H.mv 0 rfl).mv 6 rfl).mv 6 rfl).mv 6 rfl).mv 6 rfl).mv 6 rfl).mv 6 rfl).keep 7 1)⟩
theorem fld75_2 : FieldT Tryd.prog 75 2 2 := by unfold FieldT; rw [Tryd.underlying75]; kernel_rfl
theorem plain73 : Plain Tryd.prog 73 := by unfold Plain; rw [Tryd.underlying73]; rfl
set_option maxRecDepth 100000 in
set_option maxHeartbeats 4000000 in
theorem w_stfree (s : ((List (List UInt8)) × (List (Int × (List UInt8))) × Int × Bool) × ((List UInt8) → Option Int) × (Int → Option (List UInt8)) × ((List UInt8) → Option Int)) (i : Int) (bo0 : Nat) (bo0_0 : Nat) (p1 : Option Addr) (c1 : Nat) (p2 : Option Addr) (c2 : Nat) (m3 : Nat) (m4 : Nat) (m5 : Nat) (w0 w : World) (l : List HP)  (r : Bool) (hm : stfree s i = some r) (H : St w0 w (HP.blk bo0 ([.pointer (some ⟨bo0_0, 0, none⟩), .map (some m3), .map (some m4), .map (some m5)]) 75 :: HP.blk bo0_0 ([.slice p1 (s.1.1).length c1, .slice p2 (s.1.2.1).length c2, .int .i64 (s.1.2.2.1), .bool (s.1.2.2.2)]) 71 :: HP.ow (rSl rByte) 33 p1 c1 s.1.1 :: HP.ow (rPair (rInt .i64) (rSl rByte)) 88 p2 c2 s.1.2.1 :: HP.mm (some m3) hv false (rInt .i64) (fun l => l.length = 32) s.2.1 :: HP.mm (some m4) (Value.int .i64) true (rBytesN 32) (fun _ => True) s.2.2.1 :: HP.mm (some m5) hv false (rInt .i64) (fun l => l.length = 32) s.2.2.2 :: l)) :
  Calls Tryd.prog 37 [.pointer (some ⟨bo0, 0, none⟩), .int .i64 (i)].toArray w (fun e w' => ∃ v, e = .returned v ∧ v = .bool (r) ∧ St w0 w' (HP.blk bo0 ([.pointer (some ⟨bo0_0, 0, none⟩), .map (some m3), .map (some m4), .map (some m5)]) 75 :: HP.blk bo0_0 ([.slice p1 (s.1.1).length c1, .slice p2 (s.1.2.1).length c2, .int .i64 (s.1.2.2.1), .bool (s.1.2.2.2)]) 71 :: HP.ow (rSl rByte) 33 p1 c1 s.1.1 :: HP.ow (rPair (rInt .i64) (rSl rByte)) 88 p2 c2 s.1.2.1 :: HP.mm (some m3) hv false (rInt .i64) (fun l => l.length = 32) s.2.1 :: HP.mm (some m4) (Value.int .i64) true (rBytesN 32) (fun _ => True) s.2.2.1 :: HP.mm (some m5) hv false (rInt .i64) (fun l => l.length = 32) s.2.2.2 :: l)) := by
 unfold stfree at hm
 refine x_enter Tryd.func37 rfl rfl rfl ?_
 intro a F
 replace F : Fr ⟨27, []⟩ a [(0, .pointer (some ⟨bo0, 0, none⟩)), (1, .int .i64 (i))] := F
 refine wp_seq ?_
 refine r_lit ?_
 refine s_val wkP F rfl rfl rfl rfl (y_assign F rfl rfl) ?_; clear F; intro a F
 refine wpList_nil ?_
 refine c_then ?_
 refine wp_seq ?_
 refine r_lit ?_
 refine s_val wkP F rfl rfl rfl rfl (y_move F rfl rfl) ?_; clear F; intro a F
 refine s_val wkP F rfl rfl rfl rfl (y_nilCheck F rfl rfl) ?_; clear F; intro a F
 refine s_val wkP F rfl rfl rfl rfl (y_fieldAddr F fld75_2 rfl rfl) ?_; clear F; intro a F
 refine s_val wkP F rfl rfl rfl rfl (y_load1 F plain73 rfl rfl (row_at (v := .map (some m4)) ((H.blk 0 rfl).row) rfl)) ?_; clear F; intro a F
 refine s_val wkP F rfl rfl rfl rfl (y_move F rfl rfl) ?_; clear F; intro a F
 obtain ⟨es6, H⟩ := H.mmOpen 5 rfl; replace H : St w0 w (HP.blk bo0 ([.pointer (some ⟨bo0_0, 0, none⟩), .map (some m3), .map (some m4), .map (some m5)]) 75 :: HP.blk bo0_0 ([.slice p1 (s.1.1).length c1, .slice p2 (s.1.2.1).length c2, .int .i64 (s.1.2.2.1), .bool (s.1.2.2.2)]) 71 :: HP.ow (rSl rByte) 33 p1 c1 s.1.1 :: HP.ow (rPair (rInt .i64) (rSl rByte)) 88 p2 c2 s.1.2.1 :: HP.mm (some m3) hv false (rInt .i64) (fun l => l.length = 32) s.2.1 :: HP.mx (some m4) (Value.int .i64) true (rBytesN 32) (fun _ => True) es6 s.2.2.1 :: HP.mm (some m5) hv false (rInt .i64) (fun l => l.length = 32) s.2.2.2 :: l) := H
 obtain ⟨cs7, hcs7, H⟩ := H.mxGet 5 rfl i (zc := (bcells (List.replicate 32 0))) (z0 := (List.replicate 32 0)) (fun _ => ⟨rfl, List.length_replicate⟩)
 obtain ⟨rfl, hl8⟩ := H.rcBN 0 rfl
 replace H := H.dp 0 rfl
 refine s_val wkP F rfl rfl rfl rfl (y_mxGet2 (agg := true) (zc := (bcells (List.replicate 32 0))) F Tryd.underlying73 (keyInt Tryd.underlying3) (fun w => aggz35.run_zero w) rfl H 5 rfl rfl (k := i) rfl trivial hcs7) ?_; clear F; intro a F
 refine s_val wkP F rfl rfl rfl rfl (y_move F rfl rfl) ?_; clear F; intro a F
 refine s_val wkP F rfl rfl rfl rfl (y_extract F rfl rfl rfl) ?_; clear F; intro a F
 refine s_val wkP F rfl rfl rfl rfl (y_extract F rfl rfl rfl) ?_; clear F; intro a F
 refine s_allocA wkP F rfl rfl rfl agz35 rfl H ?_; clear F H; intro b9 w a H F
 replace H : St w0 w (HP.blk b9 (bcells (List.replicate 32 0)) 35 :: HP.blk bo0 ([.pointer (some ⟨bo0_0, 0, none⟩), .map (some m3), .map (some m4), .map (some m5)]) 75 :: HP.blk bo0_0 ([.slice p1 (s.1.1).length c1, .slice p2 (s.1.2.1).length c2, .int .i64 (s.1.2.2.1), .bool (s.1.2.2.2)]) 71 :: HP.ow (rSl rByte) 33 p1 c1 s.1.1 :: HP.ow (rPair (rInt .i64) (rSl rByte)) 88 p2 c2 s.1.2.1 :: HP.mm (some m3) hv false (rInt .i64) (fun l => l.length = 32) s.2.1 :: HP.mx (some m4) (Value.int .i64) true (rBytesN 32) (fun _ => True) es6 s.2.2.1 :: HP.mm (some m5) hv false (rInt .i64) (fun l => l.length = 32) s.2.2.2 :: l) := H
 refine s_storeA wkP F rfl rfl agg35 rfl rfl rfl H 0 rfl ((bcells_length _).trans hl8) ((bcells_length _).trans (List.length_replicate (n := 32))) (bcells_flat _) ?_; clear H; intro w H
 replace H : St w0 w (HP.blk b9 (bcells ((s.2.2.1 i).getD (List.replicate 32 0))) 35 :: HP.blk bo0 ([.pointer (some ⟨bo0_0, 0, none⟩), .map (some m3), .map (some m4), .map (some m5)]) 75 :: HP.blk bo0_0 ([.slice p1 (s.1.1).length c1, .slice p2 (s.1.2.1).length c2, .int .i64 (s.1.2.2.1), .bool (s.1.2.2.2)]) 71 :: HP.ow (rSl rByte) 33 p1 c1 s.1.1 :: HP.ow (rPair (rInt .i64) (rSl rByte)) 88 p2 c2 s.1.2.1 :: HP.mm (some m3) hv false (rInt .i64) (fun l => l.length = 32) s.2.1 :: HP.mx (some m4) (Value.int .i64) true (rBytesN 32) (fun _ => True) es6 s.2.2.1 :: HP.mm (some m5) hv false (rInt .i64) (fun l => l.length = 32) s.2.2.2 :: l) := H
 refine s_val wkP F rfl rfl rfl rfl (y_assign F rfl rfl) ?_; clear F; intro a F
 refine wpList_nil ?_
 replace H : St w0 w (HP.blk b9 (bcells ((s.2.2.1 i).getD (List.replicate 32 0))) 35 :: HP.blk bo0 ([.pointer (some ⟨bo0_0, 0, none⟩), .map (some m3), .map (some m4), .map (some m5)]) 75 :: HP.blk bo0_0 ([.slice p1 (s.1.1).length c1, .slice p2 (s.1.2.1).length c2, .int .i64 (s.1.2.2.1), .bool (s.1.2.2.2)]) 71 :: HP.ow (rSl rByte) 33 p1 c1 s.1.1 :: HP.ow (rPair (rInt .i64) (rSl rByte)) 88 p2 c2 s.1.2.1 :: HP.mm (some m3) hv false (rInt .i64) (fun l => l.length = 32) s.2.1 :: HP.mm (some m4) (Value.int .i64) true (rBytesN 32) (fun _ => True) s.2.2.1 :: HP.mm (some m5) hv false (rInt .i64) (fun l => l.length = 32) s.2.2.2 :: l) := H.mxShut 6 rfl
 refine c_then ?_
 refine wp_seq ?_
 by_cases hg10 : (!((s.2.2.1 i).isSome)) = true
 · replace hm := ifT hg10 hm
   refine q_region (fun u => St w0 u (HP.blk b9 (bcells ((s.2.2.1 i).getD (List.replicate 32 0))) 35 :: HP.blk bo0 ([.pointer (some ⟨bo0_0, 0, none⟩), .map (some m3), .map (some m4), .map (some m5)]) 75 :: HP.blk bo0_0 ([.slice p1 (s.1.1).length c1, .slice p2 (s.1.2.1).length c2, .int .i64 (s.1.2.2.1), .bool (s.1.2.2.2)]) 71 :: HP.ow (rSl rByte) 33 p1 c1 s.1.1 :: HP.ow (rPair (rInt .i64) (rSl rByte)) 88 p2 c2 s.1.2.1 :: HP.mm (some m3) hv false (rInt .i64) (fun l => l.length = 32) s.2.1 :: HP.mm (some m4) (Value.int .i64) true (rBytesN 32) (fun _ => True) s.2.2.1 :: HP.mm (some m5) hv false (rInt .i64) (fun l => l.length = 32) s.2.2.2 :: l)) (by kernel_rfl) (by kernel_rfl) H.drew ?_
   refine q_val F rfl rfl rfl (fun u hu => y_move F rfl rfl) ?_; clear F; intro a F
   refine q_val F rfl rfl rfl (fun u hu => y_not F rfl rfl) ?_; clear F; intro a F
   refine q_val F rfl rfl rfl (fun u hu => y_move F rfl rfl) ?_; clear F; intro a F
   replace F := F.bool (k := 18) (u := .bool true) rfl (by rw [hg10])
   refine qg_off F rfl rfl rfl rfl rfl rfl rfl ?_; clear F; intro a F
   refine qg_off F rfl rfl rfl rfl rfl rfl rfl ?_; clear F; intro a F
   refine qg_off F rfl rfl rfl rfl rfl rfl rfl ?_; clear F; intro a F
   refine qg_off F rfl rfl rfl rfl rfl rfl rfl ?_; clear F; intro a F
   refine qg_off F rfl rfl rfl rfl rfl rfl rfl ?_; clear F; intro a F
   refine qg_off F rfl rfl rfl rfl rfl rfl rfl ?_; clear F; intro a F
   refine qg_off F rfl rfl rfl rfl rfl rfl rfl ?_; clear F; intro a F
   refine q_val F rfl rfl rfl (fun u hu => y_pickT F rfl rfl rfl) ?_; clear F; intro a F
   refine q_val F rfl rfl rfl (fun u hu => y_assign F rfl rfl) ?_; clear F; intro a F
   refine q_nil ?_; clear H; intro w H
   refine c_then ?_
   refine wp_ret ?_
   obtain rfl := Option.some.inj hm
   refine x_ret1 F rfl rfl ?_
   exact ⟨_, rfl, rfl, ((((((((H.mv 7 rfl).mv 7 rfl).mv 7 rfl).mv 7 rfl).mv 7 rfl).mv 7 rfl).mv 7 rfl).keep 7 1)⟩
 · replace hm := ifF hg10 hm
   obtain ⟨es11, H⟩ := H.mmOpen 7 rfl; replace H : St w0 w (HP.blk b9 (bcells ((s.2.2.1 i).getD (List.replicate 32 0))) 35 :: HP.blk bo0 ([.pointer (some ⟨bo0_0, 0, none⟩), .map (some m3), .map (some m4), .map (some m5)]) 75 :: HP.blk bo0_0 ([.slice p1 (s.1.1).length c1, .slice p2 (s.1.2.1).length c2, .int .i64 (s.1.2.2.1), .bool (s.1.2.2.2)]) 71 :: HP.ow (rSl rByte) 33 p1 c1 s.1.1 :: HP.ow (rPair (rInt .i64) (rSl rByte)) 88 p2 c2 s.1.2.1 :: HP.mm (some m3) hv false (rInt .i64) (fun l => l.length = 32) s.2.1 :: HP.mm (some m4) (Value.int .i64) true (rBytesN 32) (fun _ => True) s.2.2.1 :: HP.mx (some m5) hv false (rInt .i64) (fun l => l.length = 32) es11 s.2.2.2 :: l) := H
   obtain ⟨cs12, hcs12, H⟩ := H.mxGet 7 rfl ((s.2.2.1 i).getD (List.replicate 32 0)) (zc := [Value.int .i64 0]) (z0 := 0) (fun _ => rfl)
   obtain rfl := H.rcI 0 rfl
   replace H := H.dp 0 rfl
   refine q_region (fun u => St w0 u (HP.blk b9 (bcells ((s.2.2.1 i).getD (List.replicate 32 0))) 35 :: HP.blk bo0 ([.pointer (some ⟨bo0_0, 0, none⟩), .map (some m3), .map (some m4), .map (some m5)]) 75 :: HP.blk bo0_0 ([.slice p1 (s.1.1).length c1, .slice p2 (s.1.2.1).length c2, .int .i64 (s.1.2.2.1), .bool (s.1.2.2.2)]) 71 :: HP.ow (rSl rByte) 33 p1 c1 s.1.1 :: HP.ow (rPair (rInt .i64) (rSl rByte)) 88 p2 c2 s.1.2.1 :: HP.mm (some m3) hv false (rInt .i64) (fun l => l.length = 32) s.2.1 :: HP.mm (some m4) (Value.int .i64) true (rBytesN 32) (fun _ => True) s.2.2.1 :: HP.mx (some m5) hv false (rInt .i64) (fun l => l.length = 32) es11 s.2.2.2 :: l)) (by kernel_rfl) (by kernel_rfl) H.drew ?_
   refine q_val F rfl rfl rfl (fun u hu => y_move F rfl rfl) ?_; clear F; intro a F
   refine q_val F rfl rfl rfl (fun u hu => y_not F rfl rfl) ?_; clear F; intro a F
   refine q_val F rfl rfl rfl (fun u hu => y_move F rfl rfl) ?_; clear F; intro a F
   replace F := F.bool (k := 18) (u := .bool false) rfl (by rw [eq_false_of_ne_true hg10])
   refine qg_on F rfl rfl rfl rfl ?_
   refine q_val F rfl rfl rfl (fun u hu => y_move F rfl rfl) ?_; clear F; intro a F
   refine qg_on F rfl rfl rfl rfl ?_
   refine q_val F rfl rfl rfl (fun u hu => y_nilCheck F rfl rfl) ?_; clear F; intro a F
   refine qg_on F rfl rfl rfl rfl ?_
   refine q_val F rfl rfl rfl (fun u hu => y_fieldAddr F fld75_3 rfl rfl) ?_; clear F; intro a F
   refine qg_on F rfl rfl rfl rfl ?_
   refine q_val F rfl rfl rfl (fun u hu => y_load1 F plain72 rfl rfl (row_at (v := .map (some m5)) ((hu.blk 1 rfl).row) rfl)) ?_; clear F; intro a F
   refine qg_on F rfl rfl rfl rfl ?_
   refine q_val F rfl rfl rfl (fun u hu => y_loadA F agg35 rfl rfl ((hu.blk 0 rfl).row) ((bcells_length _).trans hl8)) ?_; clear F; intro a F
   refine qg_on F rfl rfl rfl rfl ?_
   refine q_val F rfl rfl rfl (fun u hu => y_mxGet (agg := false) (zc := [Value.int .i64 0]) F Tryd.underlying72 (keyH key35) (fun w => zero3.run w) rfl hu 7 rfl rfl (k := ((s.2.2.1 i).getD (List.replicate 32 0))) rfl hl8 hcs12) ?_; clear F; intro a F
   refine qg_on F rfl rfl rfl rfl ?_
   refine q_val F rfl rfl rfl (fun u hu => y_eql F rfl rfl rfl) ?_; clear F; intro a F
   refine q_val F rfl rfl rfl (fun u hu => y_pickF F rfl rfl rfl) ?_; clear F; intro a F
   refine q_val F rfl rfl rfl (fun u hu => y_assign F rfl rfl) ?_; clear F; intro a F
   refine q_nil ?_; clear H; intro w H
   replace H : St w0 w (HP.blk b9 (bcells ((s.2.2.1 i).getD (List.replicate 32 0))) 35 :: HP.blk bo0 ([.pointer (some ⟨bo0_0, 0, none⟩), .map (some m3), .map (some m4), .map (some m5)]) 75 :: HP.blk bo0_0 ([.slice p1 (s.1.1).length c1, .slice p2 (s.1.2.1).length c2, .int .i64 (s.1.2.2.1), .bool (s.1.2.2.2)]) 71 :: HP.ow (rSl rByte) 33 p1 c1 s.1.1 :: HP.ow (rPair (rInt .i64) (rSl rByte)) 88 p2 c2 s.1.2.1 :: HP.mm (some m3) hv false (rInt .i64) (fun l => l.length = 32) s.2.1 :: HP.mm (some m4) (Value.int .i64) true (rBytesN 32) (fun _ => True) s.2.2.1 :: HP.mm (some m5) hv false (rInt .i64) (fun l => l.length = 32) s.2.2.2 :: l) := H.mxShut 7 rfl
   refine c_then ?_
   refine wp_ret ?_
   obtain rfl := Option.some.inj hm
   refine x_ret1 F rfl rfl ?_
   exact ⟨_, rfl, rfl, ((((((((H.mv 7 rfl).mv 7 rfl).mv 7 rfl).mv 7 rfl).mv 7 rfl).mv 7 rfl).mv 7 rfl).keep 7 1)⟩
theorem fld75_0 : FieldT Tryd.prog 75 0 0 := by unfold FieldT; rw [Tryd.underlying75]; kernel_rfl
theorem plain25 : Plain Tryd.prog 25 := by unfold Plain; rw [Tryd.underlying25]; rfl
theorem ent32 : ∀ args w, (callFunc 32 args).run Tryd.prog w = .ok (.enter 32 args) w := enters Tryd.func32 (by kernel_rfl) rfl
theorem ent37 : ∀ args w, (callFunc 37 args).run Tryd.prog w = .ok (.enter 37 args) w := enters Tryd.func37 (by kernel_rfl) rfl
set_option maxRecDepth 100000 in
set_option maxHeartbeats 4000000 in
theorem w_stFree (s : ((List (List UInt8)) × (List (Int × (List UInt8))) × Int × Bool) × ((List UInt8) → Option Int) × (Int → Option (List UInt8)) × ((List UInt8) → Option Int)) (bo0 : Nat) (bo0_0 : Nat) (p1 : Option Addr) (c1 : Nat) (p2 : Option Addr) (c2 : Nat) (m3 : Nat) (m4 : Nat) (m5 : Nat) (w0 w : World) (l : List HP)  (r : Int) (hm : stFree s = some r) (H : St w0 w (HP.blk bo0 ([.pointer (some ⟨bo0_0, 0, none⟩), .map (some m3), .map (some m4), .map (some m5)]) 75 :: HP.blk bo0_0 ([.slice p1 (s.1.1).length c1, .slice p2 (s.1.2.1).length c2, .int .i64 (s.1.2.2.1), .bool (s.1.2.2.2)]) 71 :: HP.ow (rSl rByte) 33 p1 c1 s.1.1 :: HP.ow (rPair (rInt .i64) (rSl rByte)) 88 p2 c2 s.1.2.1 :: HP.mm (some m3) hv false (rInt .i64) (fun l => l.length = 32) s.2.1 :: HP.mm (some m4) (Value.int .i64) true (rBytesN 32) (fun _ => True) s.2.2.1 :: HP.mm (some m5) hv false (rInt .i64) (fun l => l.length = 32) s.2.2.2 :: l)) :
  Calls Tryd.prog 17 [.pointer (some ⟨bo0, 0, none⟩)].toArray w (fun e w' => ∃ v, e = .returned v ∧ v = .int .i64 (r) ∧ St w0 w' (HP.blk bo0 ([.pointer (some ⟨bo0_0, 0, none⟩), .map (some m3), .map (some m4), .map (some m5)]) 75 :: HP.blk bo0_0 ([.slice p1 (s.1.1).length c1, .slice p2 (s.1.2.1).length c2, .int .i64 (s.1.2.2.1), .bool (s.1.2.2.2)]) 71 :: HP.ow (rSl rByte) 33 p1 c1 s.1.1 :: HP.ow (rPair (rInt .i64) (rSl rByte)) 88 p2 c2 s.1.2.1 :: HP.mm (some m3) hv false (rInt .i64) (fun l => l.length = 32) s.2.1 :: HP.mm (some m4) (Value.int .i64) true (rBytesN 32) (fun _ => True) s.2.2.1 :: HP.mm (some m5) hv false (rInt .i64) (fun l => l.length = 32) s.2.2.2 :: l)) := by
 unfold stFree at hm
 refine x_enter Tryd.func17 rfl rfl rfl ?_
 intro a F
 replace F : Fr ⟨19, []⟩ a [(0, .pointer (some ⟨bo0, 0, none⟩))] := F
 refine wp_seq ?_
 refine r_lit ?_
 refine s_val wkP F rfl rfl rfl rfl (y_assign F rfl rfl) ?_; clear F; intro a F
 refine wpList_nil ?_
 refine c_then ?_
 refine wp_seq ?_
 refine wp_seq ?_
 refine r_lit ?_
 refine s_val wkP F rfl rfl rfl rfl (y_assign F rfl rfl) ?_; clear F; intro a F
 refine wpList_nil ?_
 refine c_then ?_
 obtain ⟨r40, er40, hm40⟩ := ob hm; clear hm; revert er40; intro hm
 refine x_mid (fun aa ww => Fr ⟨19, []⟩ aa [(2, .int .i64 (r40))] ∧ St w0 ww (HP.blk bo0 ([.pointer (some ⟨bo0_0, 0, none⟩), .map (some m3), .map (some m4), .map (some m5)]) 75 :: HP.blk bo0_0 ([.slice p1 (s.1.1).length c1, .slice p2 (s.1.2.1).length c2, .int .i64 (s.1.2.2.1), .bool (s.1.2.2.2)]) 71 :: HP.ow (rSl rByte) 33 p1 c1 s.1.1 :: HP.ow (rPair (rInt .i64) (rSl rByte)) 88 p2 c2 s.1.2.1 :: HP.mm (some m3) hv false (rInt .i64) (fun l => l.length = 32) s.2.1 :: HP.mm (some m4) (Value.int .i64) true (rBytesN 32) (fun _ => True) s.2.2.1 :: HP.mm (some m5) hv false (rInt .i64) (fun l => l.length = 32) s.2.2.2 :: l)) ?_ ?_
 · skip
   refine wp_block ?_
   refine x_loopO _ (fun (s63 : Int × Int) aa ww => Fr ⟨19, []⟩ aa [(0, .pointer (some ⟨bo0, 0, none⟩)), (2, .int .i64 (s63.1)), (3, .int .i64 (s63.2))] ∧ St w0 ww (HP.blk bo0 ([.pointer (some ⟨bo0_0, 0, none⟩), .map (some m3), .map (some m4), .map (some m5)]) 75 :: HP.blk bo0_0 ([.slice p1 (s.1.1).length c1, .slice p2 (s.1.2.1).length c2, .int .i64 (s.1.2.2.1), .bool (s.1.2.2.2)]) 71 :: HP.ow (rSl rByte) 33 p1 c1 s.1.1 :: HP.ow (rPair (rInt .i64) (rSl rByte)) 88 p2 c2 s.1.2.1 :: HP.mm (some m3) hv false (rInt .i64) (fun l => l.length = 32) s.2.1 :: HP.mm (some m4) (Value.int .i64) true (rBytesN 32) (fun _ => True) s.2.2.1 :: HP.mm (some m5) hv false (rInt .i64) (fun l => l.length = 32) s.2.2.2 :: l)) hm ⟨F.cut _ ⟨rfl, rfl, rfl, trivial⟩, (((((((H.mv 6 rfl).mv 6 rfl).mv 6 rfl).mv 6 rfl).mv 6 rfl).mv 6 rfl).mv 6 rfl)⟩ ?_
   clear F H hm
   rintro s63 a w o ⟨F, H⟩ hm
   refine wp_seq ?_
   refine wp_seq ?_
   refine r_lit ?_
   refine s_val wkP F rfl rfl rfl rfl (y_move F rfl rfl) ?_; clear F; intro a F
   refine s_val wkP F rfl rfl rfl rfl (y_move F rfl rfl) ?_; clear F; intro a F
   refine s_val wkP F rfl rfl rfl rfl (y_nilCheck F rfl rfl) ?_; clear F; intro a F
   refine s_val wkP F rfl rfl rfl rfl (y_fieldAddr F fld75_0 rfl rfl) ?_; clear F; intro a F
   refine s_val wkP F rfl rfl rfl rfl (y_load1 F plain25 rfl rfl (row_at (v := .pointer (some ⟨bo0_0, 0, none⟩)) ((H.blk 0 rfl).row) rfl)) ?_; clear F; intro a F
   obtain ⟨x64, ex64, hn⟩ := ob hm; clear hm; revert hn; intro hm
   refine s_call wkP F rfl rfl rfl rfl (y_call F rfl rfl ent32) (w_diskSectors (s.1.1, s.1.2.1, s.1.2.2.1, s.1.2.2.2) bo0_0 p1 c1 p2 c2 w0 _ _  _ ex64 (((H.mv 3 rfl).mv 3 rfl).mv 3 rfl)) ?_; clear F H; rintro _ w a ⟨rfl, H⟩ F
   replace H : St w0 w (HP.blk bo0_0 ([.slice p1 (s.1.1).length c1, .slice p2 (s.1.2.1).length c2, .int .i64 (s.1.2.2.1), .bool (s.1.2.2.2)]) 71 :: HP.ow (rSl rByte) 33 p1 c1 s.1.1 :: HP.ow (rPair (rInt .i64) (rSl rByte)) 88 p2 c2 s.1.2.1 :: HP.blk bo0 ([.pointer (some ⟨bo0_0, 0, none⟩), .map (some m3), .map (some m4), .map (some m5)]) 75 :: HP.mm (some m3) hv false (rInt .i64) (fun l => l.length = 32) s.2.1 :: HP.mm (some m4) (Value.int .i64) true (rBytesN 32) (fun _ => True) s.2.2.1 :: HP.mm (some m5) hv false (rInt .i64) (fun l => l.length = 32) s.2.2.2 :: l) := H
   refine s_val wkP F rfl rfl rfl rfl (y_lss F rfl rfl rfl) ?_; clear F; intro a F
   refine wpList_nil ?_
   refine c_then ?_
   refine x_condP F rfl (fun hg65 => ?_) (fun hg65 => ?_)
   · replace hm := ifT hg65 hm
     refine wp_skip ?_
     refine c_then ?_
     refine wp_seq ?_
     obtain ⟨r70, er70, hm70⟩ := ob hm; clear hm; revert er70; intro hm
     refine x_mid (fun aa ww => Fr ⟨19, []⟩ aa [(0, .pointer (some ⟨bo0, 0, none⟩)), (2, .int .i64 (r70)), (3, .int .i64 (s63.2))] ∧ St w0 ww (HP.blk bo0_0 ([.slice p1 (s.1.1).length c1, .slice p2 (s.1.2.1).length c2, .int .i64 (s.1.2.2.1), .bool (s.1.2.2.2)]) 71 :: HP.ow (rSl rByte) 33 p1 c1 s.1.1 :: HP.ow (rPair (rInt .i64) (rSl rByte)) 88 p2 c2 s.1.2.1 :: HP.blk bo0 ([.pointer (some ⟨bo0_0, 0, none⟩), .map (some m3), .map (some m4), .map (some m5)]) 75 :: HP.mm (some m3) hv false (rInt .i64) (fun l => l.length = 32) s.2.1 :: HP.mm (some m4) (Value.int .i64) true (rBytesN 32) (fun _ => True) s.2.2.1 :: HP.mm (some m5) hv false (rInt .i64) (fun l => l.length = 32) s.2.2.2 :: l)) ?_ ?_
     · skip
       refine wp_block ?_
       refine wp_seq ?_
       refine r_lit ?_
       refine s_val wkP F rfl rfl rfl rfl (y_move F rfl rfl) ?_; clear F; intro a F
       refine s_val wkP F rfl rfl rfl rfl (y_move F rfl rfl) ?_; clear F; intro a F
       obtain ⟨x71, ex71, hn⟩ := ob hm; clear hm; revert hn; intro hm
       refine s_call wkP F rfl rfl rfl rfl (y_call F rfl rfl ent37) (w_stfree ((s.1.1, s.1.2.1, s.1.2.2.1, s.1.2.2.2), s.2.1, s.2.2.1, s.2.2.2) s63.2 bo0 bo0_0 p1 c1 p2 c2 m3 m4 m5 w0 _ _  _ ex71 (((((((H.mv 6 rfl).mv 6 rfl).mv 6 rfl).mv 5 rfl).mv 5 rfl).mv 5 rfl).mv 6 rfl)) ?_; clear F H; rintro _ w a ⟨rfl, H⟩ F
       replace H : St w0 w (HP.blk bo0 ([.pointer (some ⟨bo0_0, 0, none⟩), .map (some m3), .map (some m4), .map (some m5)]) 75 :: HP.blk bo0_0 ([.slice p1 (s.1.1).length c1, .slice p2 (s.1.2.1).length c2, .int .i64 (s.1.2.2.1), .bool (s.1.2.2.2)]) 71 :: HP.ow (rSl rByte) 33 p1 c1 s.1.1 :: HP.ow (rPair (rInt .i64) (rSl rByte)) 88 p2 c2 s.1.2.1 :: HP.mm (some m3) hv false (rInt .i64) (fun l => l.length = 32) s.2.1 :: HP.mm (some m4) (Value.int .i64) true (rBytesN 32) (fun _ => True) s.2.2.1 :: HP.mm (some m5) hv false (rInt .i64) (fun l => l.length = 32) s.2.2.2 :: l) := H
       refine wpList_nil ?_
       refine c_then ?_
       obtain ⟨r73, er73, hm73⟩ := ob hm; clear hm; revert er73; intro hm
       refine x_mid (fun aa ww => Fr ⟨19, []⟩ aa [(0, .pointer (some ⟨bo0, 0, none⟩)), (2, .int .i64 (r73)), (3, .int .i64 (s63.2))] ∧ St w0 ww (HP.blk bo0 ([.pointer (some ⟨bo0_0, 0, none⟩), .map (some m3), .map (some m4), .map (some m5)]) 75 :: HP.blk bo0_0 ([.slice p1 (s.1.1).length c1, .slice p2 (s.1.2.1).length c2, .int .i64 (s.1.2.2.1), .bool (s.1.2.2.2)]) 71 :: HP.ow (rSl rByte) 33 p1 c1 s.1.1 :: HP.ow (rPair (rInt .i64) (rSl rByte)) 88 p2 c2 s.1.2.1 :: HP.mm (some m3) hv false (rInt .i64) (fun l => l.length = 32) s.2.1 :: HP.mm (some m4) (Value.int .i64) true (rBytesN 32) (fun _ => True) s.2.2.1 :: HP.mm (some m5) hv false (rInt .i64) (fun l => l.length = 32) s.2.2.2 :: l)) ?_ ?_
       · skip
         refine x_cond F rfl (fun hg74 => ?_) (fun hg74 => ?_)
         · replace hm := ifT hg74 hm
           refine r_lit ?_
           refine s_val wkP F rfl rfl rfl rfl (y_move F rfl rfl) ?_; clear F; intro a F
           refine s_val wkP F rfl rfl rfl rfl (i_add F rfl rfl rfl) ?_; clear F; intro a F
           refine s_val wkP F rfl rfl rfl rfl (y_assign F rfl rfl) ?_; clear F; intro a F
           refine wpList_nil ?_
           obtain rfl := Option.some.inj hm
           refine c_then ?_
           exact ⟨F.cut _ ⟨rfl, rfl, rfl, trivial⟩, (((((((H.mv 6 rfl).mv 6 rfl).mv 6 rfl).mv 6 rfl).mv 6 rfl).mv 6 rfl).mv 6 rfl)⟩
         · replace hm := ifF (nT hg74) hm
           refine wp_skip ?_
           obtain rfl := Option.some.inj hm
           refine c_then ?_
           exact ⟨F.cut _ ⟨rfl, rfl, rfl, trivial⟩, (((((((H.mv 6 rfl).mv 6 rfl).mv 6 rfl).mv 6 rfl).mv 6 rfl).mv 6 rfl).mv 6 rfl)⟩
       · skip
         clear F H hm
         rintro a w ⟨F, H⟩; have hm := hm73; clear hm73
         refine c_blkN ?_
         obtain rfl := Option.some.inj hm
         refine c_then ?_
         exact ⟨F.cut _ ⟨rfl, rfl, rfl, trivial⟩, (((((((H.mv 6 rfl).mv 6 rfl).mv 6 rfl).mv 3 rfl).mv 6 rfl).mv 6 rfl).mv 6 rfl)⟩
     · skip
       clear F H hm
       rintro a w ⟨F, H⟩; have hm := hm70; clear hm70
       refine c_then ?_
       refine r_lit ?_
       refine s_val wkP F rfl rfl rfl rfl (y_move F rfl rfl) ?_; clear F; intro a F
       refine s_val wkP F rfl rfl rfl rfl (i_add F rfl rfl rfl) ?_; clear F; intro a F
       refine s_val wkP F rfl rfl rfl rfl (y_assign F rfl rfl) ?_; clear F; intro a F
       refine wpList_nil ?_
       refine c_then ?_; obtain rfl := Option.some.inj hm
       exact ⟨_, rfl, ⟨F.cut _ ⟨rfl, rfl, rfl, trivial⟩, (((((((H.mv 6 rfl).mv 6 rfl).mv 6 rfl).mv 5 rfl).mv 5 rfl).mv 5 rfl).mv 6 rfl)⟩⟩
   · replace hm := ifF hg65 hm
     refine wp_exit ?_
     refine c_thenX ?_
     refine c_thenX ?_; obtain rfl := Option.some.inj hm; refine ⟨_, rfl, ?_⟩; rintro rfl
     refine c_hit ?_
     refine c_then ?_
     exact ⟨F.cut _ ⟨rfl, trivial⟩, (((((((H.mv 6 rfl).mv 6 rfl).mv 6 rfl).mv 5 rfl).mv 5 rfl).mv 5 rfl).mv 6 rfl)⟩
 · skip
   clear F H hm
   rintro a w ⟨F, H⟩; have hm := hm40; clear hm40
   refine c_then ?_
   refine wp_seq ?_
   refine r_lit ?_
   refine s_val wkP F rfl rfl rfl rfl (y_move F rfl rfl) ?_; clear F; intro a F
   refine s_val wkP F rfl rfl rfl rfl (y_assign F rfl rfl) ?_; clear F; intro a F
   refine wpList_nil ?_
   refine c_then ?_
   refine wp_ret ?_
   obtain rfl := Option.some.inj hm
   refine x_ret1 F rfl rfl ?_
   exact ⟨_, rfl, rfl, (((((((H.mv 6 rfl).mv 6 rfl).mv 6 rfl).mv 6 rfl).mv 6 rfl).mv 6 rfl).mv 6 rfl)⟩
theorem ent35 : ∀ args w, (callFunc 35 args).run Tryd.prog w = .ok (.enter 35 args) w := enters Tryd.func35 (by kernel_rfl) rfl
theorem ent30 : ∀ args w, (callFunc 30 args).run Tryd.prog w = .ok (.enter 30 args) w := enters Tryd.func30 (by kernel_rfl) rfl
theorem ent19 : ∀ args w, (callFunc 19 args).run Tryd.prog w = .ok (.enter 19 args) w := enters Tryd.func19 (by kernel_rfl) rfl
set_option maxRecDepth 100000 in
set_option maxHeartbeats 4000000 in
theorem w_stPut (s : ((List (List UInt8)) × (List (Int × (List UInt8))) × Int × Bool) × ((List UInt8) → Option Int) × (Int → Option (List UInt8)) × ((List UInt8) → Option Int)) (block : List UInt8) (bo0 : Nat) (bo0_0 : Nat) (p1 : Option Addr) (c1 : Nat) (p2 : Option Addr) (c2 : Nat) (m3 : Nat) (m4 : Nat) (m5 : Nat) (p6 : Option Addr) (c6 : Nat) (w0 w : World) (l : List HP)  (r : (List UInt8) × Int × (((List (List UInt8)) × (List (Int × (List UInt8))) × Int × Bool) × ((List UInt8) → Option Int) × (Int → Option (List UInt8)) × ((List UInt8) → Option Int))) (hm : stPut s block = some r) (H : St w0 w (HP.row 0 (0) (icells .u32 shaStart) :: HP.row 2 (0) (icells .u32 shaRounds) :: HP.blk bo0 ([.pointer (some ⟨bo0_0, 0, none⟩), .map (some m3), .map (some m4), .map (some m5)]) 75 :: HP.blk bo0_0 ([.slice p1 (s.1.1).length c1, .slice p2 (s.1.2.1).length c2, .int .i64 (s.1.2.2.1), .bool (s.1.2.2.2)]) 71 :: HP.ow (rSl rByte) 33 p1 c1 s.1.1 :: HP.ow (rPair (rInt .i64) (rSl rByte)) 88 p2 c2 s.1.2.1 :: HP.mm (some m3) hv false (rInt .i64) (fun l => l.length = 32) s.2.1 :: HP.mm (some m4) (Value.int .i64) true (rBytesN 32) (fun _ => True) s.2.2.1 :: HP.mm (some m5) hv false (rInt .i64) (fun l => l.length = 32) s.2.2.2 :: HP.sl rByte p6 c6 block :: l)) :
  Calls Tryd.prog 11 [.pointer (some ⟨bo0, 0, none⟩), .slice p6 (block).length c6].toArray w (fun e w' => ∃ v, e = .returned v ∧ ∃ (p8 : Option Addr) (c8 : Nat) (p9 : Option Addr) (c9 : Nat) (m10 : Nat) (m11 : Nat) (m12 : Nat), v = .tuple [.agg (bcells r.1).toArray, .int .i64 (r.2.1)].toArray ∧ ((r.1).length = 32) ∧ St w0 w' (HP.blk bo0 ([.pointer (some ⟨bo0_0, 0, none⟩), .map (some m10), .map (some m11), .map (some m12)]) 75 :: HP.blk bo0_0 ([.slice p8 (r.2.2.1.1).length c8, .slice p9 (r.2.2.1.2.1).length c9, .int .i64 (r.2.2.1.2.2.1), .bool (r.2.2.1.2.2.2)]) 71 :: HP.ow (rSl rByte) 33 p8 c8 r.2.2.1.1 :: HP.ow (rPair (rInt .i64) (rSl rByte)) 88 p9 c9 r.2.2.1.2.1 :: HP.mm (some m10) hv false (rInt .i64) (fun l => l.length = 32) r.2.2.2.1 :: HP.mm (some m11) (Value.int .i64) true (rBytesN 32) (fun _ => True) r.2.2.2.2.1 :: HP.mm (some m12) hv false (rInt .i64) (fun l => l.length = 32) r.2.2.2.2.2 :: l)) := by
 unfold stPut at hm
 refine x_enter Tryd.func11 rfl rfl rfl ?_
 intro a F
 replace F : Fr ⟨97, []⟩ a [(0, .pointer (some ⟨bo0, 0, none⟩)), (1, .slice p6 (block).length c6)] := F
 refine wp_seq ?_
 refine r_lit ?_
 refine s_allocA wkP F rfl rfl rfl agz35 rfl H ?_; clear F H; intro b13 w a H F
 replace H : St w0 w (HP.blk b13 (bcells (List.replicate 32 0)) 35 :: HP.row 0 (0) (icells .u32 shaStart) :: HP.row 2 (0) (icells .u32 shaRounds) :: HP.blk bo0 ([.pointer (some ⟨bo0_0, 0, none⟩), .map (some m3), .map (some m4), .map (some m5)]) 75 :: HP.blk bo0_0 ([.slice p1 (s.1.1).length c1, .slice p2 (s.1.2.1).length c2, .int .i64 (s.1.2.2.1), .bool (s.1.2.2.2)]) 71 :: HP.ow (rSl rByte) 33 p1 c1 s.1.1 :: HP.ow (rPair (rInt .i64) (rSl rByte)) 88 p2 c2 s.1.2.1 :: HP.mm (some m3) hv false (rInt .i64) (fun l => l.length = 32) s.2.1 :: HP.mm (some m4) (Value.int .i64) true (rBytesN 32) (fun _ => True) s.2.2.1 :: HP.mm (some m5) hv false (rInt .i64) (fun l => l.length = 32) s.2.2.2 :: HP.sl rByte p6 c6 block :: l) := H
 refine s_val wkP F rfl rfl rfl rfl (y_assign F rfl rfl) ?_; clear F; intro a F
 refine wpList_nil ?_
 refine c_then ?_
 refine wp_seq ?_
 refine r_lit ?_
 refine s_val wkP F rfl rfl rfl rfl (y_move F rfl rfl) ?_; clear F; intro a F
 obtain ⟨x14, ex14, hn⟩ := ob hm; clear hm; revert hn; intro hm
 refine s_call wkP F rfl rfl rfl rfl (y_call F rfl rfl ent36) (w_wrap block p6 c6 w0 _ _  _ ex14 (H.cp 10 rfl pers_sl)) ?_; clear F H; rintro _ w a ⟨p15, c15, rfl, H⟩ F
 replace H : St w0 w (HP.ow rByte 5 p15 c15 x14.1 :: HP.blk b13 (bcells (List.replicate 32 0)) 35 :: HP.row 0 (0) (icells .u32 shaStart) :: HP.row 2 (0) (icells .u32 shaRounds) :: HP.blk bo0 ([.pointer (some ⟨bo0_0, 0, none⟩), .map (some m3), .map (some m4), .map (some m5)]) 75 :: HP.blk bo0_0 ([.slice p1 (s.1.1).length c1, .slice p2 (s.1.2.1).length c2, .int .i64 (s.1.2.2.1), .bool (s.1.2.2.2)]) 71 :: HP.ow (rSl rByte) 33 p1 c1 s.1.1 :: HP.ow (rPair (rInt .i64) (rSl rByte)) 88 p2 c2 s.1.2.1 :: HP.mm (some m3) hv false (rInt .i64) (fun l => l.length = 32) s.2.1 :: HP.mm (some m4) (Value.int .i64) true (rBytesN 32) (fun _ => True) s.2.2.1 :: HP.mm (some m5) hv false (rInt .i64) (fun l => l.length = 32) s.2.2.2 :: HP.sl rByte p6 c6 block :: l) := H
 refine s_val wkP F rfl rfl rfl rfl (y_move F rfl rfl) ?_; clear F; intro a F
 refine s_val wkP F rfl rfl rfl rfl (y_extract F rfl rfl rfl) ?_; clear F; intro a F
 refine s_val wkP F rfl rfl rfl rfl (y_extract F rfl rfl rfl) ?_; clear F; intro a F
 refine s_val wkP F rfl rfl rfl rfl (y_assign F rfl rfl) ?_; clear F; intro a F
 refine s_val wkP F rfl rfl rfl rfl (y_assign F rfl rfl) ?_; clear F; intro a F
 refine wpList_nil ?_
 refine c_then ?_
 refine wp_seq ?_
 refine wp_seq ?_
 refine r_lit ?_
 refine s_val wkP F rfl rfl rfl rfl (y_move F rfl rfl) ?_; clear F; intro a F
 refine s_val wkP F rfl rfl rfl rfl (y_neq F rfl rfl rfl) ?_; clear F; intro a F
 refine wpList_nil ?_
 refine c_then ?_
 refine x_condN F rfl (fun hg16 => ?_) (fun hg16 => ?_)
 · replace hm := ifF hg16 hm
   refine wp_seq ?_
   refine r_lit ?_
   refine s_val wkP F rfl rfl rfl rfl (y_build F rfl rfl (cs := bcells ((List.replicate 32 0) : List UInt8)) (by kernel_rfl)) ?_; clear F; intro a F
   refine s_val wkP F rfl rfl rfl rfl (y_move F rfl rfl) ?_; clear F; intro a F
   refine s_storeA wkP F rfl rfl agg35 rfl rfl rfl H 1 rfl ((bcells_length _).trans rfl) ((bcells_length _).trans (List.length_replicate (n := 32))) (bcells_flat _) ?_; clear H; intro w H
   replace H : St w0 w (HP.ow rByte 5 p15 c15 x14.1 :: HP.blk b13 (bcells ((List.replicate 32 0) : List UInt8)) 35 :: HP.row 0 (0) (icells .u32 shaStart) :: HP.row 2 (0) (icells .u32 shaRounds) :: HP.blk bo0 ([.pointer (some ⟨bo0_0, 0, none⟩), .map (some m3), .map (some m4), .map (some m5)]) 75 :: HP.blk bo0_0 ([.slice p1 (s.1.1).length c1, .slice p2 (s.1.2.1).length c2, .int .i64 (s.1.2.2.1), .bool (s.1.2.2.2)]) 71 :: HP.ow (rSl rByte) 33 p1 c1 s.1.1 :: HP.ow (rPair (rInt .i64) (rSl rByte)) 88 p2 c2 s.1.2.1 :: HP.mm (some m3) hv false (rInt .i64) (fun l => l.length = 32) s.2.1 :: HP.mm (some m4) (Value.int .i64) true (rBytesN 32) (fun _ => True) s.2.2.1 :: HP.mm (some m5) hv false (rInt .i64) (fun l => l.length = 32) s.2.2.2 :: HP.sl rByte p6 c6 block :: l) := H
   refine s_val wkP F rfl rfl rfl rfl (y_assign F rfl rfl) ?_; clear F; intro a F
   refine wpList_nil ?_
   refine c_then ?_
   refine wp_ret ?_
   refine c_thenR ?_
   obtain rfl := Option.some.inj hm
   refine x_resC2 F rfl (⟨_, rfl, agg35.run_load (H.blk 1 rfl).row ((bcells_length _).trans rfl)⟩) rfl ?_
   exact ⟨_, rfl, p1, c1, p2, c2, m3, m4, m5, rfl, rfl, ((((((((H.mv 10 rfl).mv 10 rfl).mv 10 rfl).mv 10 rfl).mv 10 rfl).mv 10 rfl).mv 10 rfl).keep 7 5)⟩
 · replace hm := ifT hg16 hm
   refine wp_skip ?_
   refine c_then ?_
   refine wp_seq ?_
   refine r_lit ?_
   refine s_val wkP F rfl rfl rfl rfl (y_move F rfl rfl) ?_; clear F; intro a F
   obtain ⟨x17, ex17, hn⟩ := ob hm; clear hm; revert hn; intro hm
   refine s_call wkP F rfl rfl rfl rfl (y_call F rfl rfl ent35) (w_shaSum block p6 c6 w0 _ _  _ ex17 (((H.cp 11 rfl pers_sl).cp 4 rfl pers_row).cp 4 rfl pers_row)) ?_; clear F H; rintro _ w a ⟨rfl, hl18, H⟩ F
   replace H : St w0 w (HP.ow rByte 5 p15 c15 x14.1 :: HP.blk b13 (bcells (List.replicate 32 0)) 35 :: HP.row 0 (0) (icells .u32 shaStart) :: HP.row 2 (0) (icells .u32 shaRounds) :: HP.blk bo0 ([.pointer (some ⟨bo0_0, 0, none⟩), .map (some m3), .map (some m4), .map (some m5)]) 75 :: HP.blk bo0_0 ([.slice p1 (s.1.1).length c1, .slice p2 (s.1.2.1).length c2, .int .i64 (s.1.2.2.1), .bool (s.1.2.2.2)]) 71 :: HP.ow (rSl rByte) 33 p1 c1 s.1.1 :: HP.ow (rPair (rInt .i64) (rSl rByte)) 88 p2 c2 s.1.2.1 :: HP.mm (some m3) hv false (rInt .i64) (fun l => l.length = 32) s.2.1 :: HP.mm (some m4) (Value.int .i64) true (rBytesN 32) (fun _ => True) s.2.2.1 :: HP.mm (some m5) hv false (rInt .i64) (fun l => l.length = 32) s.2.2.2 :: HP.sl rByte p6 c6 block :: l) := H
   refine s_allocA wkP F rfl rfl rfl agz35 rfl H ?_; clear F H; intro b19 w a H F
   replace H : St w0 w (HP.blk b19 (bcells (List.replicate 32 0)) 35 :: HP.ow rByte 5 p15 c15 x14.1 :: HP.blk b13 (bcells (List.replicate 32 0)) 35 :: HP.row 0 (0) (icells .u32 shaStart) :: HP.row 2 (0) (icells .u32 shaRounds) :: HP.blk bo0 ([.pointer (some ⟨bo0_0, 0, none⟩), .map (some m3), .map (some m4), .map (some m5)]) 75 :: HP.blk bo0_0 ([.slice p1 (s.1.1).length c1, .slice p2 (s.1.2.1).length c2, .int .i64 (s.1.2.2.1), .bool (s.1.2.2.2)]) 71 :: HP.ow (rSl rByte) 33 p1 c1 s.1.1 :: HP.ow (rPair (rInt .i64) (rSl rByte)) 88 p2 c2 s.1.2.1 :: HP.mm (some m3) hv false (rInt .i64) (fun l => l.length = 32) s.2.1 :: HP.mm (some m4) (Value.int .i64) true (rBytesN 32) (fun _ => True) s.2.2.1 :: HP.mm (some m5) hv false (rInt .i64) (fun l => l.length = 32) s.2.2.2 :: HP.sl rByte p6 c6 block :: l) := H
   refine s_storeA wkP F rfl rfl agg35 rfl rfl rfl H 0 rfl ((bcells_length _).trans hl18) ((bcells_length _).trans (List.length_replicate (n := 32))) (bcells_flat _) ?_; clear H; intro w H
   replace H : St w0 w (HP.blk b19 (bcells x17) 35 :: HP.ow rByte 5 p15 c15 x14.1 :: HP.blk b13 (bcells (List.replicate 32 0)) 35 :: HP.row 0 (0) (icells .u32 shaStart) :: HP.row 2 (0) (icells .u32 shaRounds) :: HP.blk bo0 ([.pointer (some ⟨bo0_0, 0, none⟩), .map (some m3), .map (some m4), .map (some m5)]) 75 :: HP.blk bo0_0 ([.slice p1 (s.1.1).length c1, .slice p2 (s.1.2.1).length c2, .int .i64 (s.1.2.2.1), .bool (s.1.2.2.2)]) 71 :: HP.ow (rSl rByte) 33 p1 c1 s.1.1 :: HP.ow (rPair (rInt .i64) (rSl rByte)) 88 p2 c2 s.1.2.1 :: HP.mm (some m3) hv false (rInt .i64) (fun l => l.length = 32) s.2.1 :: HP.mm (some m4) (Value.int .i64) true (rBytesN 32) (fun _ => True) s.2.2.1 :: HP.mm (some m5) hv false (rInt .i64) (fun l => l.length = 32) s.2.2.2 :: HP.sl rByte p6 c6 block :: l) := H
   refine wpList_nil ?_
   refine c_then ?_
   refine wp_seq ?_
   refine wp_seq ?_
   refine r_lit ?_
   refine s_val wkP F rfl rfl rfl rfl (y_move F rfl rfl) ?_; clear F; intro a F
   refine s_val wkP F rfl rfl rfl rfl (y_loadA F agg35 rfl rfl ((H.blk 0 rfl).row) ((bcells_length _).trans hl18)) ?_; clear F; intro a F
   obtain ⟨x20, ex20, hn⟩ := ob hm; clear hm; revert hn; intro hm
   refine s_call wkP F rfl rfl rfl rfl (y_call F rfl rfl ent30) (w_stHas ((s.1.1, s.1.2.1, s.1.2.2.1, s.1.2.2.2), s.2.1, s.2.2.1, s.2.2.2) x17 bo0 bo0_0 p1 c1 p2 c2 m3 m4 m5 w0 _ _ hl18 _ ex20 (((((((H.mv 11 rfl).mv 11 rfl).mv 11 rfl).mv 11 rfl).mv 11 rfl).mv 11 rfl).mv 11 rfl)) ?_; clear F H; rintro _ w a ⟨rfl, H⟩ F
   replace H : St w0 w (HP.blk bo0 ([.pointer (some ⟨bo0_0, 0, none⟩), .map (some m3), .map (some m4), .map (some m5)]) 75 :: HP.blk bo0_0 ([.slice p1 (s.1.1).length c1, .slice p2 (s.1.2.1).length c2, .int .i64 (s.1.2.2.1), .bool (s.1.2.2.2)]) 71 :: HP.ow (rSl rByte) 33 p1 c1 s.1.1 :: HP.ow (rPair (rInt .i64) (rSl rByte)) 88 p2 c2 s.1.2.1 :: HP.mm (some m3) hv false (rInt .i64) (fun l => l.length = 32) s.2.1 :: HP.mm (some m4) (Value.int .i64) true (rBytesN 32) (fun _ => True) s.2.2.1 :: HP.mm (some m5) hv false (rInt .i64) (fun l => l.length = 32) s.2.2.2 :: HP.blk b19 (bcells x17) 35 :: HP.ow rByte 5 p15 c15 x14.1 :: HP.blk b13 (bcells (List.replicate 32 0)) 35 :: HP.row 0 (0) (icells .u32 shaStart) :: HP.row 2 (0) (icells .u32 shaRounds) :: HP.sl rByte p6 c6 block :: l) := H
   refine wpList_nil ?_
   refine c_then ?_
   refine x_cond F rfl (fun hg21 => ?_) (fun hg21 => ?_)
   · replace hm := ifT hg21 hm
     refine wp_seq ?_
     refine mix_region [5] [5] (.step 0 0 (.step 0 1 (.step 0 2 (.step 1 3 (.step 1 4 (.step 3 5 .done)))))) (fun u => ∃ ls, St w0 u (ls)) (by kernel_rfl) (by kernel_rfl) ⟨_, H.drew⟩ ?_
     replace H := H.drew
     generalize w.drew = w at H ⊢
     refine m_pure F rfl rfl rfl rfl (fun u hu => y_move F rfl rfl) ?_; clear F; intro a F
     refine m_pure F rfl rfl rfl rfl (fun u hu => y_nilCheck F rfl rfl) ?_; clear F; intro a F
     refine m_pure F rfl rfl rfl rfl (fun u hu => y_fieldAddr F fld75_3 rfl rfl) ?_; clear F; intro a F
     refine m_read F rfl rfl rfl rfl (y_load1 F plain72 rfl rfl (row_at (v := .map (some m5)) ((H.blk 0 rfl).row) rfl)) ?_; clear F; intro a F
     refine m_read F rfl rfl rfl rfl (y_loadA F agg35 rfl rfl ((H.blk 7 rfl).row) ((bcells_length _).trans hl18)) ?_; clear F; intro a F
     refine m_last rfl rfl ?_
     refine s_mmSet wkP F rfl rfl Tryd.underlying72 (keyH key35) rfl H 6 rfl rfl (k := x17) rfl (cs := [.int .i64 (1)]) rfl hl18 (v := 1) (fun gg => rfl) ?_; clear H; intro w H
     replace H : St w0 w (HP.blk bo0 ([.pointer (some ⟨bo0_0, 0, none⟩), .map (some m3), .map (some m4), .map (some m5)]) 75 :: HP.blk bo0_0 ([.slice p1 (s.1.1).length c1, .slice p2 (s.1.2.1).length c2, .int .i64 (s.1.2.2.1), .bool (s.1.2.2.2)]) 71 :: HP.ow (rSl rByte) 33 p1 c1 s.1.1 :: HP.ow (rPair (rInt .i64) (rSl rByte)) 88 p2 c2 s.1.2.1 :: HP.mm (some m3) hv false (rInt .i64) (fun l => l.length = 32) s.2.1 :: HP.mm (some m4) (Value.int .i64) true (rBytesN 32) (fun _ => True) s.2.2.1 :: HP.mm (some m5) hv false (rInt .i64) (fun l => l.length = 32) (fset x17 1 s.2.2.2) :: HP.blk b19 (bcells x17) 35 :: HP.ow rByte 5 p15 c15 x14.1 :: HP.blk b13 (bcells (List.replicate 32 0)) 35 :: HP.row 0 (0) (icells .u32 shaStart) :: HP.row 2 (0) (icells .u32 shaRounds) :: HP.sl rByte p6 c6 block :: l) := H
     refine wpList_nil ?_; refine c_then ?_
     refine m_nil ?_
     refine c_then ?_
     refine wp_seq ?_
     refine r_lit ?_
     refine s_val wkP F rfl rfl rfl rfl (y_loadA F agg35 rfl rfl ((H.blk 7 rfl).row) ((bcells_length _).trans hl18)) ?_; clear F; intro a F
     refine s_storeA wkP F rfl rfl agg35 rfl rfl rfl H 9 rfl ((bcells_length _).trans hl18) ((bcells_length _).trans (List.length_replicate (n := 32))) (bcells_flat _) ?_; clear H; intro w H
     replace H : St w0 w (HP.blk bo0 ([.pointer (some ⟨bo0_0, 0, none⟩), .map (some m3), .map (some m4), .map (some m5)]) 75 :: HP.blk bo0_0 ([.slice p1 (s.1.1).length c1, .slice p2 (s.1.2.1).length c2, .int .i64 (s.1.2.2.1), .bool (s.1.2.2.2)]) 71 :: HP.ow (rSl rByte) 33 p1 c1 s.1.1 :: HP.ow (rPair (rInt .i64) (rSl rByte)) 88 p2 c2 s.1.2.1 :: HP.mm (some m3) hv false (rInt .i64) (fun l => l.length = 32) s.2.1 :: HP.mm (some m4) (Value.int .i64) true (rBytesN 32) (fun _ => True) s.2.2.1 :: HP.mm (some m5) hv false (rInt .i64) (fun l => l.length = 32) (fset x17 1 s.2.2.2) :: HP.blk b19 (bcells x17) 35 :: HP.ow rByte 5 p15 c15 x14.1 :: HP.blk b13 (bcells x17) 35 :: HP.row 0 (0) (icells .u32 shaStart) :: HP.row 2 (0) (icells .u32 shaRounds) :: HP.sl rByte p6 c6 block :: l) := H
     refine s_val wkP F rfl rfl rfl rfl (y_assign F rfl rfl) ?_; clear F; intro a F
     refine wpList_nil ?_
     refine c_then ?_
     refine wp_ret ?_
     refine c_thenR ?_
     obtain rfl := Option.some.inj hm
     refine x_resC2 F rfl (⟨_, rfl, agg35.run_load (H.blk 9 rfl).row ((bcells_length _).trans hl18)⟩) rfl ?_
     exact ⟨_, rfl, p1, c1, p2, c2, m3, m4, m5, rfl, hl18, ((((((((H.mv 6 rfl).mv 6 rfl).mv 6 rfl).mv 6 rfl).mv 6 rfl).mv 6 rfl).mv 6 rfl).keep 7 6)⟩
   · replace hm := ifF (nT hg21) hm
     refine wp_skip ?_
     refine c_then ?_
     refine wp_seq ?_
     refine wp_seq ?_
     refine r_lit ?_
     refine s_val wkP F rfl rfl rfl rfl (y_assign F rfl rfl) ?_; clear F; intro a F
     refine wpList_nil ?_
     refine c_then ?_
     obtain ⟨o86, eo86, hm86⟩ := ob hm; clear hm; revert eo86; intro hm
     refine x_mid (fun aa ww => ∃ r86, o86 = Sum.inl r86 ∧ Fr ⟨97, []⟩ aa [(4, .pointer (some ⟨b13, 0, none⟩))] ∧ St w0 ww (HP.blk bo0 ([.pointer (some ⟨bo0_0, 0, none⟩), .map (some m3), .map (some m4), .map (some m5)]) 75 :: HP.blk bo0_0 ([.slice p1 (s.1.1).length c1, .slice p2 (s.1.2.1).length c2, .int .i64 (s.1.2.2.1), .bool (s.1.2.2.2)]) 71 :: HP.ow (rSl rByte) 33 p1 c1 s.1.1 :: HP.ow (rPair (rInt .i64) (rSl rByte)) 88 p2 c2 s.1.2.1 :: HP.mm (some m3) hv false (rInt .i64) (fun l => l.length = 32) s.2.1 :: HP.mm (some m4) (Value.int .i64) true (rBytesN 32) (fun _ => True) s.2.2.1 :: HP.mm (some m5) hv false (rInt .i64) (fun l => l.length = 32) s.2.2.2 :: HP.blk b19 (bcells x17) 35 :: HP.ow rByte 5 p15 c15 x14.1 :: HP.blk b13 (bcells (List.replicate 32 0)) 35 :: HP.row 0 (0) (icells .u32 shaStart) :: HP.row 2 (0) (icells .u32 shaRounds) :: l)) ?_ ?_
     · skip
       refine wp_block ?_
       refine x_loopO _ (fun (s129 : Int) aa ww => Fr ⟨97, []⟩ aa [(0, .pointer (some ⟨bo0, 0, none⟩)), (4, .pointer (some ⟨b13, 0, none⟩)), (6, .slice p15 (x14.1).length c15), (8, .pointer (some ⟨b19, 0, none⟩)), (9, .int .i64 (s129))] ∧ St w0 ww (HP.blk bo0 ([.pointer (some ⟨bo0_0, 0, none⟩), .map (some m3), .map (some m4), .map (some m5)]) 75 :: HP.blk bo0_0 ([.slice p1 (s.1.1).length c1, .slice p2 (s.1.2.1).length c2, .int .i64 (s.1.2.2.1), .bool (s.1.2.2.2)]) 71 :: HP.ow (rSl rByte) 33 p1 c1 s.1.1 :: HP.ow (rPair (rInt .i64) (rSl rByte)) 88 p2 c2 s.1.2.1 :: HP.mm (some m3) hv false (rInt .i64) (fun l => l.length = 32) s.2.1 :: HP.mm (some m4) (Value.int .i64) true (rBytesN 32) (fun _ => True) s.2.2.1 :: HP.mm (some m5) hv false (rInt .i64) (fun l => l.length = 32) s.2.2.2 :: HP.blk b19 (bcells x17) 35 :: HP.ow rByte 5 p15 c15 x14.1 :: HP.blk b13 (bcells (List.replicate 32 0)) 35 :: HP.row 0 (0) (icells .u32 shaStart) :: HP.row 2 (0) (icells .u32 shaRounds) :: l)) hm ⟨F.cut _ ⟨rfl, rfl, rfl, rfl, rfl, trivial⟩, (((((((((((((H.cp 11 rfl pers_row).cp 11 rfl pers_row).mv 11 rfl).mv 11 rfl).mv 11 rfl).mv 11 rfl).mv 11 rfl).mv 11 rfl).mv 11 rfl).mv 11 rfl).mv 11 rfl).mv 11 rfl).keep 12 3)⟩ ?_
       clear F H hm
       rintro s129 a w o ⟨F, H⟩ hm
       refine wp_seq ?_
       refine wp_seq ?_
       refine r_lit ?_
       refine s_val wkP F rfl rfl rfl rfl (y_move F rfl rfl) ?_; clear F; intro a F
       refine s_val wkP F rfl rfl rfl rfl (y_move F rfl rfl) ?_; clear F; intro a F
       refine s_val wkP F rfl rfl rfl rfl (y_nilCheck F rfl rfl) ?_; clear F; intro a F
       refine s_val wkP F rfl rfl rfl rfl (y_fieldAddr F fld75_0 rfl rfl) ?_; clear F; intro a F
       refine s_val wkP F rfl rfl rfl rfl (y_load1 F plain25 rfl rfl (row_at (v := .pointer (some ⟨bo0_0, 0, none⟩)) ((H.blk 0 rfl).row) rfl)) ?_; clear F; intro a F
       obtain ⟨x130, ex130, hn⟩ := ob hm; clear hm; revert hn; intro hm
       refine s_call wkP F rfl rfl rfl rfl (y_call F rfl rfl ent32) (w_diskSectors (s.1.1, s.1.2.1, s.1.2.2.1, s.1.2.2.2) bo0_0 p1 c1 p2 c2 w0 _ _  _ ex130 (((H.mv 3 rfl).mv 3 rfl).mv 3 rfl)) ?_; clear F H; rintro _ w a ⟨rfl, H⟩ F
       replace H : St w0 w (HP.blk bo0_0 ([.slice p1 (s.1.1).length c1, .slice p2 (s.1.2.1).length c2, .int .i64 (s.1.2.2.1), .bool (s.1.2.2.2)]) 71 :: HP.ow (rSl rByte) 33 p1 c1 s.1.1 :: HP.ow (rPair (rInt .i64) (rSl rByte)) 88 p2 c2 s.1.2.1 :: HP.blk bo0 ([.pointer (some ⟨bo0_0, 0, none⟩), .map (some m3), .map (some m4), .map (some m5)]) 75 :: HP.mm (some m3) hv false (rInt .i64) (fun l => l.length = 32) s.2.1 :: HP.mm (some m4) (Value.int .i64) true (rBytesN 32) (fun _ => True) s.2.2.1 :: HP.mm (some m5) hv false (rInt .i64) (fun l => l.length = 32) s.2.2.2 :: HP.blk b19 (bcells x17) 35 :: HP.ow rByte 5 p15 c15 x14.1 :: HP.blk b13 (bcells (List.replicate 32 0)) 35 :: HP.row 0 (0) (icells .u32 shaStart) :: HP.row 2 (0) (icells .u32 shaRounds) :: l) := H
       refine s_val wkP F rfl rfl rfl rfl (y_lss F rfl rfl rfl) ?_; clear F; intro a F
       refine wpList_nil ?_
       refine c_then ?_
       refine x_condP F rfl (fun hg131 => ?_) (fun hg131 => ?_)
       · replace hm := ifT hg131 hm
         refine wp_skip ?_
         refine c_then ?_
         refine wp_seq ?_
         refine wp_block ?_
         refine wp_seq ?_
         refine wp_seq ?_
         refine r_lit ?_
         refine s_val wkP F rfl rfl rfl rfl (y_move F rfl rfl) ?_; clear F; intro a F
         refine s_val wkP F rfl rfl rfl rfl (y_move F rfl rfl) ?_; clear F; intro a F
         obtain ⟨x132, ex132, hn⟩ := ob hm; clear hm; revert hn; intro hm
         refine s_call wkP F rfl rfl rfl rfl (y_call F rfl rfl ent37) (w_stfree ((s.1.1, s.1.2.1, s.1.2.2.1, s.1.2.2.2), s.2.1, s.2.2.1, s.2.2.2) s129 bo0 bo0_0 p1 c1 p2 c2 m3 m4 m5 w0 _ _  _ ex132 (((((((H.mv 6 rfl).mv 6 rfl).mv 6 rfl).mv 5 rfl).mv 5 rfl).mv 5 rfl).mv 6 rfl)) ?_; clear F H; rintro _ w a ⟨rfl, H⟩ F
         replace H : St w0 w (HP.blk bo0 ([.pointer (some ⟨bo0_0, 0, none⟩), .map (some m3), .map (some m4), .map (some m5)]) 75 :: HP.blk bo0_0 ([.slice p1 (s.1.1).length c1, .slice p2 (s.1.2.1).length c2, .int .i64 (s.1.2.2.1), .bool (s.1.2.2.2)]) 71 :: HP.ow (rSl rByte) 33 p1 c1 s.1.1 :: HP.ow (rPair (rInt .i64) (rSl rByte)) 88 p2 c2 s.1.2.1 :: HP.mm (some m3) hv false (rInt .i64) (fun l => l.length = 32) s.2.1 :: HP.mm (some m4) (Value.int .i64) true (rBytesN 32) (fun _ => True) s.2.2.1 :: HP.mm (some m5) hv false (rInt .i64) (fun l => l.length = 32) s.2.2.2 :: HP.blk b19 (bcells x17) 35 :: HP.ow rByte 5 p15 c15 x14.1 :: HP.blk b13 (bcells (List.replicate 32 0)) 35 :: HP.row 0 (0) (icells .u32 shaStart) :: HP.row 2 (0) (icells .u32 shaRounds) :: l) := H
         refine s_val wkP F rfl rfl rfl rfl (y_not F rfl rfl) ?_; clear F; intro a F
         refine wpList_nil ?_
         refine c_then ?_
         refine x_cond F rfl (fun hg133 => ?_) (fun hg133 => ?_)
         · replace hm := ifT hg133 hm
           refine wp_exit ?_
           refine c_thenX ?_
           refine c_hit ?_
           refine c_then ?_
           refine r_lit ?_
           refine s_val wkP F rfl rfl rfl rfl (y_move F rfl rfl) ?_; clear F; intro a F
           refine s_val wkP F rfl rfl rfl rfl (i_add F rfl rfl rfl) ?_; clear F; intro a F
           refine s_val wkP F rfl rfl rfl rfl (y_assign F rfl rfl) ?_; clear F; intro a F
           refine wpList_nil ?_
           refine c_then ?_; obtain rfl := Option.some.inj hm
           exact ⟨_, rfl, ⟨F.cut _ ⟨rfl, rfl, rfl, rfl, rfl, trivial⟩, (((((((((((((H.cp 11 rfl pers_row).cp 11 rfl pers_row).mv 11 rfl).mv 11 rfl).mv 11 rfl).mv 11 rfl).mv 11 rfl).mv 11 rfl).mv 11 rfl).mv 11 rfl).mv 11 rfl).mv 11 rfl).keep 12 2)⟩⟩
         · replace hm := ifF (nT hg133) hm
           refine wp_skip ?_
           refine c_then ?_
           refine wp_seq ?_
           refine wp_seq ?_
           refine r_lit ?_
           refine s_val wkP F rfl rfl rfl rfl (y_move F rfl rfl) ?_; clear F; intro a F
           refine s_val wkP F rfl rfl rfl rfl (y_nilCheck F rfl rfl) ?_; clear F; intro a F
           refine s_val wkP F rfl rfl rfl rfl (y_fieldAddr F fld75_0 rfl rfl) ?_; clear F; intro a F
           refine s_val wkP F rfl rfl rfl rfl (y_load1 F plain25 rfl rfl (row_at (v := .pointer (some ⟨bo0_0, 0, none⟩)) ((H.blk 0 rfl).row) rfl)) ?_; clear F; intro a F
           refine s_val wkP F rfl rfl rfl rfl (y_move F rfl rfl) ?_; clear F; intro a F
           refine s_val wkP F rfl rfl rfl rfl (y_move F rfl rfl) ?_; clear F; intro a F
           replace H : St w0 w (HP.sl rByte p15 c15 x14.1 :: HP.blk bo0 ([.pointer (some ⟨bo0_0, 0, none⟩), .map (some m3), .map (some m4), .map (some m5)]) 75 :: HP.blk bo0_0 ([.slice p1 (s.1.1).length c1, .slice p2 (s.1.2.1).length c2, .int .i64 (s.1.2.2.1), .bool (s.1.2.2.2)]) 71 :: HP.ow (rSl rByte) 33 p1 c1 s.1.1 :: HP.ow (rPair (rInt .i64) (rSl rByte)) 88 p2 c2 s.1.2.1 :: HP.mm (some m3) hv false (rInt .i64) (fun l => l.length = 32) s.2.1 :: HP.mm (some m4) (Value.int .i64) true (rBytesN 32) (fun _ => True) s.2.2.1 :: HP.mm (some m5) hv false (rInt .i64) (fun l => l.length = 32) s.2.2.2 :: HP.blk b19 (bcells x17) 35 :: HP.blk b13 (bcells (List.replicate 32 0)) 35 :: HP.row 0 (0) (icells .u32 shaStart) :: HP.row 2 (0) (icells .u32 shaRounds) :: l) := H.frz 8 rfl
           obtain ⟨x134, ex134, hn⟩ := ob hm; clear hm; revert hn; intro hm
           refine s_call wkP F rfl rfl rfl rfl (y_call F rfl rfl ent19) (w_diskWrite (s.1.1, s.1.2.1, s.1.2.2.1, s.1.2.2.2) s129 x14.1 bo0_0 p1 c1 p2 c2 p15 c15 w0 _ _  _ ex134 ((((H.cp 0 rfl pers_sl).mv 5 rfl).mv 5 rfl).mv 5 rfl)) ?_; clear F H; rintro _ w a ⟨p135, c135, p136, c136, rfl, H⟩ F
           replace H : St w0 w (HP.blk bo0_0 ([.slice p135 (x134.2.1).length c135, .slice p136 (x134.2.2.1).length c136, .int .i64 (x134.2.2.2.1), .bool (x134.2.2.2.2)]) 71 :: HP.ow (rSl rByte) 33 p135 c135 x134.2.1 :: HP.ow (rPair (rInt .i64) (rSl rByte)) 88 p136 c136 x134.2.2.1 :: HP.sl rByte p15 c15 x14.1 :: HP.blk bo0 ([.pointer (some ⟨bo0_0, 0, none⟩), .map (some m3), .map (some m4), .map (some m5)]) 75 :: HP.mm (some m3) hv false (rInt .i64) (fun l => l.length = 32) s.2.1 :: HP.mm (some m4) (Value.int .i64) true (rBytesN 32) (fun _ => True) s.2.2.1 :: HP.mm (some m5) hv false (rInt .i64) (fun l => l.length = 32) s.2.2.2 :: HP.blk b19 (bcells x17) 35 :: HP.blk b13 (bcells (List.replicate 32 0)) 35 :: HP.row 0 (0) (icells .u32 shaStart) :: HP.row 2 (0) (icells .u32 shaRounds) :: l) := H
           refine s_val wkP F rfl rfl rfl rfl (y_assign F rfl rfl) ?_; clear F; intro a F
           refine wpList_nil ?_
           refine c_then ?_
           refine wp_seq ?_
           refine r_lit ?_
           refine s_val wkP F rfl rfl rfl rfl (y_move F rfl rfl) ?_; clear F; intro a F
           refine s_val wkP F rfl rfl rfl rfl (y_neq F rfl rfl rfl) ?_; clear F; intro a F
           refine wpList_nil ?_
           refine c_then ?_
           refine x_condN F rfl (fun hg137 => ?_) (fun hg137 => ?_)
           · replace hm := ifF hg137 hm
             refine wp_seq ?_
             refine r_lit ?_
             refine s_val wkP F rfl rfl rfl rfl (y_build F rfl rfl (cs := bcells ((List.replicate 32 0) : List UInt8)) (by kernel_rfl)) ?_; clear F; intro a F
             refine s_val wkP F rfl rfl rfl rfl (y_move F rfl rfl) ?_; clear F; intro a F
             refine s_storeA wkP F rfl rfl agg35 rfl rfl rfl H 9 rfl ((bcells_length _).trans rfl) ((bcells_length _).trans (List.length_replicate (n := 32))) (bcells_flat _) ?_; clear H; intro w H
             replace H : St w0 w (HP.blk bo0_0 ([.slice p135 (x134.2.1).length c135, .slice p136 (x134.2.2.1).length c136, .int .i64 (x134.2.2.2.1), .bool (x134.2.2.2.2)]) 71 :: HP.ow (rSl rByte) 33 p135 c135 x134.2.1 :: HP.ow (rPair (rInt .i64) (rSl rByte)) 88 p136 c136 x134.2.2.1 :: HP.sl rByte p15 c15 x14.1 :: HP.blk bo0 ([.pointer (some ⟨bo0_0, 0, none⟩), .map (some m3), .map (some m4), .map (some m5)]) 75 :: HP.mm (some m3) hv false (rInt .i64) (fun l => l.length = 32) s.2.1 :: HP.mm (some m4) (Value.int .i64) true (rBytesN 32) (fun _ => True) s.2.2.1 :: HP.mm (some m5) hv false (rInt .i64) (fun l => l.length = 32) s.2.2.2 :: HP.blk b19 (bcells x17) 35 :: HP.blk b13 (bcells ((List.replicate 32 0) : List UInt8)) 35 :: HP.row 0 (0) (icells .u32 shaStart) :: HP.row 2 (0) (icells .u32 shaRounds) :: l) := H
             refine s_val wkP F rfl rfl rfl rfl (y_assign F rfl rfl) ?_; clear F; intro a F
             refine wpList_nil ?_
             refine c_then ?_
             refine wp_ret ?_
             refine c_thenR ?_
             refine c_blkR ?_
             refine c_thenR ?_
             refine c_thenR ?_; obtain rfl := Option.some.inj hm; refine ⟨_, rfl, ?_⟩; rintro rfl
             refine c_blkR ?_
             refine c_thenR ?_
             replace hm := elimR hm86
             refine c_thenR ?_
             obtain rfl := Option.some.inj hm
             refine x_resC2 F rfl (⟨_, rfl, agg35.run_load (H.blk 9 rfl).row ((bcells_length _).trans rfl)⟩) rfl ?_
             exact ⟨_, rfl, p135, c135, p136, c136, m3, m4, m5, rfl, rfl, ((((((((H.mv 7 rfl).mv 7 rfl).mv 7 rfl).mv 5 rfl).mv 5 rfl).mv 5 rfl).mv 7 rfl).keep 7 5)⟩
           · replace hm := ifT hg137 hm
             refine wp_skip ?_
             refine c_then ?_
             refine wp_seq ?_
             refine wp_seq ?_
             refine r_lit ?_
             refine s_val wkP F rfl rfl rfl rfl (y_move F rfl rfl) ?_; clear F; intro a F
             refine s_val wkP F rfl rfl rfl rfl (y_nilCheck F rfl rfl) ?_; clear F; intro a F
             refine s_val wkP F rfl rfl rfl rfl (y_fieldAddr F fld75_2 rfl rfl) ?_; clear F; intro a F
             refine s_val wkP F rfl rfl rfl rfl (y_load1 F plain73 rfl rfl (row_at (v := .map (some m4)) ((H.blk 4 rfl).row) rfl)) ?_; clear F; intro a F
             refine s_val wkP F rfl rfl rfl rfl (y_move F rfl rfl) ?_; clear F; intro a F
             obtain ⟨es138, H⟩ := H.mmOpen 6 rfl; replace H : St w0 w (HP.blk bo0_0 ([.slice p135 (x134.2.1).length c135, .slice p136 (x134.2.2.1).length c136, .int .i64 (x134.2.2.2.1), .bool (x134.2.2.2.2)]) 71 :: HP.ow (rSl rByte) 33 p135 c135 x134.2.1 :: HP.ow (rPair (rInt .i64) (rSl rByte)) 88 p136 c136 x134.2.2.1 :: HP.sl rByte p15 c15 x14.1 :: HP.blk bo0 ([.pointer (some ⟨bo0_0, 0, none⟩), .map (some m3), .map (some m4), .map (some m5)]) 75 :: HP.mm (some m3) hv false (rInt .i64) (fun l => l.length = 32) s.2.1 :: HP.mx (some m4) (Value.int .i64) true (rBytesN 32) (fun _ => True) es138 s.2.2.1 :: HP.mm (some m5) hv false (rInt .i64) (fun l => l.length = 32) s.2.2.2 :: HP.blk b19 (bcells x17) 35 :: HP.blk b13 (bcells (List.replicate 32 0)) 35 :: HP.row 0 (0) (icells .u32 shaStart) :: HP.row 2 (0) (icells .u32 shaRounds) :: l) := H
             obtain ⟨cs139, hcs139, H⟩ := H.mxGet 6 rfl s129 (zc := (bcells (List.replicate 32 0))) (z0 := (List.replicate 32 0)) (fun _ => ⟨rfl, List.length_replicate⟩)
             obtain ⟨rfl, hl140⟩ := H.rcBN 0 rfl
             replace H := H.dp 0 rfl
             refine s_val wkP F rfl rfl rfl rfl (y_mxGet2 (agg := true) (zc := (bcells (List.replicate 32 0))) F Tryd.underlying73 (keyInt Tryd.underlying3) (fun w => aggz35.run_zero w) rfl H 6 rfl rfl (k := s129) rfl trivial hcs139) ?_; clear F; intro a F
             refine s_val wkP F rfl rfl rfl rfl (y_move F rfl rfl) ?_; clear F; intro a F
             refine s_val wkP F rfl rfl rfl rfl (y_extract F rfl rfl rfl) ?_; clear F; intro a F
             refine s_val wkP F rfl rfl rfl rfl (y_extract F rfl rfl rfl) ?_; clear F; intro a F
             refine s_allocA wkP F rfl rfl rfl agz35 rfl H ?_; clear F H; intro b141 w a H F
             replace H : St w0 w (HP.blk b141 (bcells (List.replicate 32 0)) 35 :: HP.blk bo0_0 ([.slice p135 (x134.2.1).length c135, .slice p136 (x134.2.2.1).length c136, .int .i64 (x134.2.2.2.1), .bool (x134.2.2.2.2)]) 71 :: HP.ow (rSl rByte) 33 p135 c135 x134.2.1 :: HP.ow (rPair (rInt .i64) (rSl rByte)) 88 p136 c136 x134.2.2.1 :: HP.sl rByte p15 c15 x14.1 :: HP.blk bo0 ([.pointer (some ⟨bo0_0, 0, none⟩), .map (some m3), .map (some m4), .map (some m5)]) 75 :: HP.mm (some m3) hv false (rInt .i64) (fun l => l.length = 32) s.2.1 :: HP.mx (some m4) (Value.int .i64) true (rBytesN 32) (fun _ => True) es138 s.2.2.1 :: HP.mm (some m5) hv false (rInt .i64) (fun l => l.length = 32) s.2.2.2 :: HP.blk b19 (bcells x17) 35 :: HP.blk b13 (bcells (List.replicate 32 0)) 35 :: HP.row 0 (0) (icells .u32 shaStart) :: HP.row 2 (0) (icells .u32 shaRounds) :: l) := H
             refine s_storeA wkP F rfl rfl agg35 rfl rfl rfl H 0 rfl ((bcells_length _).trans hl140) ((bcells_length _).trans (List.length_replicate (n := 32))) (bcells_flat _) ?_; clear H; intro w H
             replace H : St w0 w (HP.blk b141 (bcells ((s.2.2.1 s129).getD (List.replicate 32 0))) 35 :: HP.blk bo0_0 ([.slice p135 (x134.2.1).length c135, .slice p136 (x134.2.2.1).length c136, .int .i64 (x134.2.2.2.1), .bool (x134.2.2.2.2)]) 71 :: HP.ow (rSl rByte) 33 p135 c135 x134.2.1 :: HP.ow (rPair (rInt .i64) (rSl rByte)) 88 p136 c136 x134.2.2.1 :: HP.sl rByte p15 c15 x14.1 :: HP.blk bo0 ([.pointer (some ⟨bo0_0, 0, none⟩), .map (some m3), .map (some m4), .map (some m5)]) 75 :: HP.mm (some m3) hv false (rInt .i64) (fun l => l.length = 32) s.2.1 :: HP.mx (some m4) (Value.int .i64) true (rBytesN 32) (fun _ => True) es138 s.2.2.1 :: HP.mm (some m5) hv false (rInt .i64) (fun l => l.length = 32) s.2.2.2 :: HP.blk b19 (bcells x17) 35 :: HP.blk b13 (bcells (List.replicate 32 0)) 35 :: HP.row 0 (0) (icells .u32 shaStart) :: HP.row 2 (0) (icells .u32 shaRounds) :: l) := H
             refine s_val wkP F rfl rfl rfl rfl (y_assign F rfl rfl) ?_; clear F; intro a F
             refine wpList_nil ?_
             replace H : St w0 w (HP.blk b141 (bcells ((s.2.2.1 s129).getD (List.replicate 32 0))) 35 :: HP.blk bo0_0 ([.slice p135 (x134.2.1).length c135, .slice p136 (x134.2.2.1).length c136, .int .i64 (x134.2.2.2.1), .bool (x134.2.2.2.2)]) 71 :: HP.ow (rSl rByte) 33 p135 c135 x134.2.1 :: HP.ow (rPair (rInt .i64) (rSl rByte)) 88 p136 c136 x134.2.2.1 :: HP.sl rByte p15 c15 x14.1 :: HP.blk bo0 ([.pointer (some ⟨bo0_0, 0, none⟩), .map (some m3), .map (some m4), .map (some m5)]) 75 :: HP.mm (some m3) hv false (rInt .i64) (fun l => l.length = 32) s.2.1 :: HP.mm (some m4) (Value.int .i64) true (rBytesN 32) (fun _ => True) s.2.2.1 :: HP.mm (some m5) hv false (rInt .i64) (fun l => l.length = 32) s.2.2.2 :: HP.blk b19 (bcells x17) 35 :: HP.blk b13 (bcells (List.replicate 32 0)) 35 :: HP.row 0 (0) (icells .u32 shaStart) :: HP.row 2 (0) (icells .u32 shaRounds) :: l) := H.mxShut 7 rfl
             refine c_then ?_
             refine wp_seq ?_
             refine r_lit ?_
             refine s_val wkP F rfl rfl rfl rfl (y_move F rfl rfl) ?_; clear F; intro a F
             refine wpList_nil ?_
             refine c_then ?_
             obtain ⟨r143, er143, hm143⟩ := ob hm; clear hm; revert er143; intro hm
             refine x_mid (fun aa ww => Fr ⟨97, []⟩ aa [(0, .pointer (some ⟨bo0, 0, none⟩)), (4, .pointer (some ⟨b13, 0, none⟩)), (8, .pointer (some ⟨b19, 0, none⟩)), (9, .int .i64 (s129))] ∧ St w0 ww (HP.blk b141 (bcells ((s.2.2.1 s129).getD (List.replicate 32 0))) 35 :: HP.blk bo0_0 ([.slice p135 (x134.2.1).length c135, .slice p136 (x134.2.2.1).length c136, .int .i64 (x134.2.2.2.1), .bool (x134.2.2.2.2)]) 71 :: HP.ow (rSl rByte) 33 p135 c135 x134.2.1 :: HP.ow (rPair (rInt .i64) (rSl rByte)) 88 p136 c136 x134.2.2.1 :: HP.blk bo0 ([.pointer (some ⟨bo0_0, 0, none⟩), .map (some m3), .map (some m4), .map (some m5)]) 75 :: HP.mm (some m3) hv false (rInt .i64) (fun l => l.length = 32) r143 :: HP.mm (some m4) (Value.int .i64) true (rBytesN 32) (fun _ => True) s.2.2.1 :: HP.mm (some m5) hv false (rInt .i64) (fun l => l.length = 32) s.2.2.2 :: HP.blk b19 (bcells x17) 35 :: HP.blk b13 (bcells (List.replicate 32 0)) 35 :: HP.row 0 (0) (icells .u32 shaStart) :: HP.row 2 (0) (icells .u32 shaRounds) :: l)) ?_ ?_
             · skip
               refine x_cond F rfl (fun hg144 => ?_) (fun hg144 => ?_)
               · replace hm := ifT hg144 hm
                 refine mix_region [5] [5] (.step 0 0 (.step 0 1 (.step 0 2 (.step 1 3 (.step 1 4 (.step 3 5 .done)))))) (fun u => ∃ ls, St w0 u (ls)) (by kernel_rfl) (by kernel_rfl) ⟨_, H.drew⟩ ?_
                 replace H := H.drew
                 generalize w.drew = w at H ⊢
                 refine m_pure F rfl rfl rfl rfl (fun u hu => y_move F rfl rfl) ?_; clear F; intro a F
                 refine m_pure F rfl rfl rfl rfl (fun u hu => y_nilCheck F rfl rfl) ?_; clear F; intro a F
                 refine m_pure F rfl rfl rfl rfl (fun u hu => y_fieldAddr F fld75_1 rfl rfl) ?_; clear F; intro a F
                 refine m_read F rfl rfl rfl rfl (y_load1 F plain72 rfl rfl (row_at (v := .map (some m3)) ((H.blk 5 rfl).row) rfl)) ?_; clear F; intro a F
                 refine m_read F rfl rfl rfl rfl (y_loadA F agg35 rfl rfl ((H.blk 0 rfl).row) ((bcells_length _).trans hl140)) ?_; clear F; intro a F
                 refine m_last rfl rfl ?_
                 refine s_mmDelN wkP F rfl rfl Tryd.underlying72 (keyH key35) rfl H 6 rfl rfl (k := ((s.2.2.1 s129).getD (List.replicate 32 0))) rfl hl140 ?_; clear H; intro w H
                 replace H : St w0 w (HP.blk b141 (bcells ((s.2.2.1 s129).getD (List.replicate 32 0))) 35 :: HP.blk bo0_0 ([.slice p135 (x134.2.1).length c135, .slice p136 (x134.2.2.1).length c136, .int .i64 (x134.2.2.2.1), .bool (x134.2.2.2.2)]) 71 :: HP.ow (rSl rByte) 33 p135 c135 x134.2.1 :: HP.ow (rPair (rInt .i64) (rSl rByte)) 88 p136 c136 x134.2.2.1 :: HP.sl rByte p15 c15 x14.1 :: HP.blk bo0 ([.pointer (some ⟨bo0_0, 0, none⟩), .map (some m3), .map (some m4), .map (some m5)]) 75 :: HP.mm (some m3) hv false (rInt .i64) (fun l => l.length = 32) (fdel ((s.2.2.1 s129).getD (List.replicate 32 0)) s.2.1) :: HP.mm (some m4) (Value.int .i64) true (rBytesN 32) (fun _ => True) s.2.2.1 :: HP.mm (some m5) hv false (rInt .i64) (fun l => l.length = 32) s.2.2.2 :: HP.blk b19 (bcells x17) 35 :: HP.blk b13 (bcells (List.replicate 32 0)) 35 :: HP.row 0 (0) (icells .u32 shaStart) :: HP.row 2 (0) (icells .u32 shaRounds) :: l) := H
                 refine wpList_nil ?_; refine c_then ?_
                 refine m_nil ?_
                 obtain rfl := Option.some.inj hm
                 refine c_then ?_
                 exact ⟨F.cut _ ⟨rfl, rfl, rfl, rfl, trivial⟩, (((((((((((((H.cp 12 rfl pers_row).cp 12 rfl pers_row).mv 12 rfl).mv 12 rfl).mv 12 rfl).mv 12 rfl).mv 12 rfl).mv 12 rfl).mv 11 rfl).mv 11 rfl).mv 11 rfl).mv 11 rfl).keep 12 3)⟩
               · replace hm := ifF (nT hg144) hm
                 refine wp_skip ?_
                 obtain rfl := Option.some.inj hm
                 refine c_then ?_
                 exact ⟨F.cut _ ⟨rfl, rfl, rfl, rfl, trivial⟩, (((((((((((((H.cp 12 rfl pers_row).cp 12 rfl pers_row).mv 12 rfl).mv 12 rfl).mv 12 rfl).mv 12 rfl).mv 12 rfl).mv 12 rfl).mv 11 rfl).mv 11 rfl).mv 11 rfl).mv 11 rfl).keep 12 3)⟩
             · skip
               clear F H hm
               rintro a w ⟨F, H⟩; have hm := hm143; clear hm143
               refine c_then ?_
               refine wp_seq ?_
               refine mix_region [17, 19, 20, 22, 23, 25] [25] (.step 0 0 (.step 0 1 (.step 0 2 (.step 1 3 (.step 1 4 (.step 0 5 (.step 0 6 (.step 0 7 (.step 1 8 (.step 0 9 (.step 0 10 (.step 0 11 (.step 0 12 (.step 1 13 (.step 0 14 (.step 0 15 (.step 0 16 (.step 2 17 (.step 0 18 (.step 2 19 (.step 2 20 (.step 0 21 (.step 2 22 (.step 2 23 (.step 0 24 (.step 3 25 .done)))))))))))))))))))))))))) (fun u => ∃ ls, St w0 u (HP.blk b19 (bcells x17) 35 :: ls)) (by kernel_rfl) (by kernel_rfl) ⟨_, (H.drew.mv 8 rfl)⟩ ?_
               replace H := H.drew
               generalize w.drew = w at H ⊢
               refine m_pure F rfl rfl rfl rfl (fun u hu => y_move F rfl rfl) ?_; clear F; intro a F
               refine m_pure F rfl rfl rfl rfl (fun u hu => y_nilCheck F rfl rfl) ?_; clear F; intro a F
               refine m_pure F rfl rfl rfl rfl (fun u hu => y_fieldAddr F fld75_1 rfl rfl) ?_; clear F; intro a F
               refine m_read F rfl rfl rfl rfl (y_load1 F plain72 rfl rfl (row_at (v := .map (some m3)) ((H.blk 4 rfl).row) rfl)) ?_; clear F; intro a F
               refine m_read F rfl rfl rfl rfl (y_loadA F agg35 rfl rfl ((H.blk 8 rfl).row) ((bcells_length _).trans hl18)) ?_; clear F; intro a F
               refine m_pure F rfl rfl rfl rfl (fun u hu => y_move F rfl rfl) ?_; clear F; intro a F
               refine m_pure F rfl rfl rfl rfl (fun u hu => y_nilCheck F rfl rfl) ?_; clear F; intro a F
               refine m_pure F rfl rfl rfl rfl (fun u hu => y_fieldAddr F fld75_2 rfl rfl) ?_; clear F; intro a F
               refine m_read F rfl rfl rfl rfl (y_load1 F plain73 rfl rfl (row_at (v := .map (some m4)) ((H.blk 4 rfl).row) rfl)) ?_; clear F; intro a F
               refine m_pure F rfl rfl rfl rfl (fun u hu => y_move F rfl rfl) ?_; clear F; intro a F
               refine m_pure F rfl rfl rfl rfl (fun u hu => y_move F rfl rfl) ?_; clear F; intro a F
               refine m_pure F rfl rfl rfl rfl (fun u hu => y_nilCheck F rfl rfl) ?_; clear F; intro a F
               refine m_pure F rfl rfl rfl rfl (fun u hu => y_fieldAddr F fld75_3 rfl rfl) ?_; clear F; intro a F
               refine m_read F rfl rfl rfl rfl (y_load1 F plain72 rfl rfl (row_at (v := .map (some m5)) ((H.blk 4 rfl).row) rfl)) ?_; clear F; intro a F
               refine m_pure F rfl rfl rfl rfl (fun u hu => y_loadA F agg35 rfl rfl ((hu.choose_spec.blk 0 rfl).row) ((bcells_length _).trans hl18)) ?_; clear F; intro a F
               refine m_pure F rfl rfl rfl rfl (fun u hu => y_move F rfl rfl) ?_; clear F; intro a F
               refine m_pure F rfl rfl rfl rfl (fun u hu => y_loadA F agg35 rfl rfl ((hu.choose_spec.blk 0 rfl).row) ((bcells_length _).trans hl18)) ?_; clear F; intro a F
               refine m_heavy rfl rfl ?_
               refine s_mmEntry (agg := false) (R := (rInt .i64)) (ek := hv) (ok := (fun l => l.length = 32)) wkP F rfl rfl rfl Tryd.underlying72 (keyH key35) (zc := [Value.int .i64 0]) (z0 := 0) (fun w => zero3.run w) (fun _ => rfl) rfl H 5 rfl rfl (k := x17) rfl hl18 ?_; clear F H; intro v148 q148 w a H F
               replace H : St w0 w (HP.blk b141 (bcells ((s.2.2.1 s129).getD (List.replicate 32 0))) 35 :: HP.blk bo0_0 ([.slice p135 (x134.2.1).length c135, .slice p136 (x134.2.2.1).length c136, .int .i64 (x134.2.2.2.1), .bool (x134.2.2.2.2)]) 71 :: HP.ow (rSl rByte) 33 p135 c135 x134.2.1 :: HP.ow (rPair (rInt .i64) (rSl rByte)) 88 p136 c136 x134.2.2.1 :: HP.blk bo0 ([.pointer (some ⟨bo0_0, 0, none⟩), .map (some m3), .map (some m4), .map (some m5)]) 75 :: HP.me m3 hv false (rInt .i64) (fun l => l.length = 32) r143 x17 q148 :: HP.mm (some m4) (Value.int .i64) true (rBytesN 32) (fun _ => True) s.2.2.1 :: HP.mm (some m5) hv false (rInt .i64) (fun l => l.length = 32) s.2.2.2 :: HP.blk b19 (bcells x17) 35 :: HP.blk b13 (bcells (List.replicate 32 0)) 35 :: HP.row 0 (0) (icells .u32 shaStart) :: HP.row 2 (0) (icells .u32 shaRounds) :: l) := H
               refine wpList_nil ?_; refine c_then ⟨⟨_, (H.mv 8 rfl)⟩, ?_⟩
               refine m_pure F rfl rfl rfl rfl (fun u hu => y_extract F rfl rfl rfl) ?_; clear F; intro a F
               refine m_heavy rfl rfl ?_
               refine s_entStore wkP F rfl rfl rfl H 5 rfl inj_hv hl18 rfl rfl (cs := [.int .i64 (s129)]) rfl (v := s129) (fun gg => rfl) ?_; clear H; intro w H
               replace H : St w0 w (HP.blk b141 (bcells ((s.2.2.1 s129).getD (List.replicate 32 0))) 35 :: HP.blk bo0_0 ([.slice p135 (x134.2.1).length c135, .slice p136 (x134.2.2.1).length c136, .int .i64 (x134.2.2.2.1), .bool (x134.2.2.2.2)]) 71 :: HP.ow (rSl rByte) 33 p135 c135 x134.2.1 :: HP.ow (rPair (rInt .i64) (rSl rByte)) 88 p136 c136 x134.2.2.1 :: HP.blk bo0 ([.pointer (some ⟨bo0_0, 0, none⟩), .map (some m3), .map (some m4), .map (some m5)]) 75 :: HP.mm (some m3) hv false (rInt .i64) (fun l => l.length = 32) (fset x17 s129 r143) :: HP.mm (some m4) (Value.int .i64) true (rBytesN 32) (fun _ => True) s.2.2.1 :: HP.mm (some m5) hv false (rInt .i64) (fun l => l.length = 32) s.2.2.2 :: HP.blk b19 (bcells x17) 35 :: HP.blk b13 (bcells (List.replicate 32 0)) 35 :: HP.row 0 (0) (icells .u32 shaStart) :: HP.row 2 (0) (icells .u32 shaRounds) :: l) := H
               refine wpList_nil ?_; refine c_then ⟨⟨_, (H.mv 8 rfl)⟩, ?_⟩
               refine m_heavy rfl rfl ?_
               refine s_mmEntry (agg := true) (R := (rBytesN 32)) (ek := (Value.int .i64)) (ok := (fun _ => True)) wkP F rfl rfl rfl Tryd.underlying73 (keyInt Tryd.underlying3) (zc := (bcells (List.replicate 32 0))) (z0 := (List.replicate 32 0)) (fun w => aggz35.run_zero w) (fun _ => ⟨rfl, List.length_replicate⟩) rfl H 6 rfl rfl (k := s129) rfl trivial ?_; clear F H; intro v149 q149 w a H F
               replace H : St w0 w (HP.blk b141 (bcells ((s.2.2.1 s129).getD (List.replicate 32 0))) 35 :: HP.blk bo0_0 ([.slice p135 (x134.2.1).length c135, .slice p136 (x134.2.2.1).length c136, .int .i64 (x134.2.2.2.1), .bool (x134.2.2.2.2)]) 71 :: HP.ow (rSl rByte) 33 p135 c135 x134.2.1 :: HP.ow (rPair (rInt .i64) (rSl rByte)) 88 p136 c136 x134.2.2.1 :: HP.blk bo0 ([.pointer (some ⟨bo0_0, 0, none⟩), .map (some m3), .map (some m4), .map (some m5)]) 75 :: HP.mm (some m3) hv false (rInt .i64) (fun l => l.length = 32) (fset x17 s129 r143) :: HP.me m4 (Value.int .i64) true (rBytesN 32) (fun _ => True) s.2.2.1 s129 q149 :: HP.mm (some m5) hv false (rInt .i64) (fun l => l.length = 32) s.2.2.2 :: HP.blk b19 (bcells x17) 35 :: HP.blk b13 (bcells (List.replicate 32 0)) 35 :: HP.row 0 (0) (icells .u32 shaStart) :: HP.row 2 (0) (icells .u32 shaRounds) :: l) := H
               refine wpList_nil ?_; refine c_then ⟨⟨_, (H.mv 8 rfl)⟩, ?_⟩
               refine m_pure F rfl rfl rfl rfl (fun u hu => y_extract F rfl rfl rfl) ?_; clear F; intro a F
               refine m_heavy rfl rfl ?_
               refine s_entStore wkP F rfl rfl rfl H 6 rfl inj_int trivial rfl rfl (cs := bcells x17) rfl (v := x17) (fun gg => ⟨rfl, hl18⟩) ?_; clear H; intro w H
               replace H : St w0 w (HP.blk b141 (bcells ((s.2.2.1 s129).getD (List.replicate 32 0))) 35 :: HP.blk bo0_0 ([.slice p135 (x134.2.1).length c135, .slice p136 (x134.2.2.1).length c136, .int .i64 (x134.2.2.2.1), .bool (x134.2.2.2.2)]) 71 :: HP.ow (rSl rByte) 33 p135 c135 x134.2.1 :: HP.ow (rPair (rInt .i64) (rSl rByte)) 88 p136 c136 x134.2.2.1 :: HP.blk bo0 ([.pointer (some ⟨bo0_0, 0, none⟩), .map (some m3), .map (some m4), .map (some m5)]) 75 :: HP.mm (some m3) hv false (rInt .i64) (fun l => l.length = 32) (fset x17 s129 r143) :: HP.mm (some m4) (Value.int .i64) true (rBytesN 32) (fun _ => True) (fset s129 x17 s.2.2.1) :: HP.mm (some m5) hv false (rInt .i64) (fun l => l.length = 32) s.2.2.2 :: HP.blk b19 (bcells x17) 35 :: HP.blk b13 (bcells (List.replicate 32 0)) 35 :: HP.row 0 (0) (icells .u32 shaStart) :: HP.row 2 (0) (icells .u32 shaRounds) :: l) := H
               refine wpList_nil ?_; refine c_then ⟨⟨_, (H.mv 8 rfl)⟩, ?_⟩
               refine m_heavy rfl rfl ?_
               refine s_mmEntry (agg := false) (R := (rInt .i64)) (ek := hv) (ok := (fun l => l.length = 32)) wkP F rfl rfl rfl Tryd.underlying72 (keyH key35) (zc := [Value.int .i64 0]) (z0 := 0) (fun w => zero3.run w) (fun _ => rfl) rfl H 7 rfl rfl (k := x17) rfl hl18 ?_; clear F H; intro v150 q150 w a H F
               replace H : St w0 w (HP.blk b141 (bcells ((s.2.2.1 s129).getD (List.replicate 32 0))) 35 :: HP.blk bo0_0 ([.slice p135 (x134.2.1).length c135, .slice p136 (x134.2.2.1).length c136, .int .i64 (x134.2.2.2.1), .bool (x134.2.2.2.2)]) 71 :: HP.ow (rSl rByte) 33 p135 c135 x134.2.1 :: HP.ow (rPair (rInt .i64) (rSl rByte)) 88 p136 c136 x134.2.2.1 :: HP.blk bo0 ([.pointer (some ⟨bo0_0, 0, none⟩), .map (some m3), .map (some m4), .map (some m5)]) 75 :: HP.mm (some m3) hv false (rInt .i64) (fun l => l.length = 32) (fset x17 s129 r143) :: HP.mm (some m4) (Value.int .i64) true (rBytesN 32) (fun _ => True) (fset s129 x17 s.2.2.1) :: HP.me m5 hv false (rInt .i64) (fun l => l.length = 32) s.2.2.2 x17 q150 :: HP.blk b19 (bcells x17) 35 :: HP.blk b13 (bcells (List.replicate 32 0)) 35 :: HP.row 0 (0) (icells .u32 shaStart) :: HP.row 2 (0) (icells .u32 shaRounds) :: l) := H
               refine wpList_nil ?_; refine c_then ⟨⟨_, (H.mv 8 rfl)⟩, ?_⟩
               refine m_pure F rfl rfl rfl rfl (fun u hu => y_extract F rfl rfl rfl) ?_; clear F; intro a F
               refine m_last rfl rfl ?_
               refine s_entStore wkP F rfl rfl rfl H 7 rfl inj_hv hl18 rfl rfl (cs := [.int .i64 (1)]) rfl (v := 1) (fun gg => rfl) ?_; clear H; intro w H
               replace H : St w0 w (HP.blk b141 (bcells ((s.2.2.1 s129).getD (List.replicate 32 0))) 35 :: HP.blk bo0_0 ([.slice p135 (x134.2.1).length c135, .slice p136 (x134.2.2.1).length c136, .int .i64 (x134.2.2.2.1), .bool (x134.2.2.2.2)]) 71 :: HP.ow (rSl rByte) 33 p135 c135 x134.2.1 :: HP.ow (rPair (rInt .i64) (rSl rByte)) 88 p136 c136 x134.2.2.1 :: HP.blk bo0 ([.pointer (some ⟨bo0_0, 0, none⟩), .map (some m3), .map (some m4), .map (some m5)]) 75 :: HP.mm (some m3) hv false (rInt .i64) (fun l => l.length = 32) (fset x17 s129 r143) :: HP.mm (some m4) (Value.int .i64) true (rBytesN 32) (fun _ => True) (fset s129 x17 s.2.2.1) :: HP.mm (some m5) hv false (rInt .i64) (fun l => l.length = 32) (fset x17 1 s.2.2.2) :: HP.blk b19 (bcells x17) 35 :: HP.blk b13 (bcells (List.replicate 32 0)) 35 :: HP.row 0 (0) (icells .u32 shaStart) :: HP.row 2 (0) (icells .u32 shaRounds) :: l) := H
               refine wpList_nil ?_; refine c_then ?_
               refine m_nil ?_
               refine c_then ?_
               refine wp_seq ?_
               refine r_lit ?_
               refine s_val wkP F rfl rfl rfl rfl (y_loadA F agg35 rfl rfl ((H.blk 8 rfl).row) ((bcells_length _).trans hl18)) ?_; clear F; intro a F
               refine s_storeA wkP F rfl rfl agg35 rfl rfl rfl H 9 rfl ((bcells_length _).trans hl18) ((bcells_length _).trans (List.length_replicate (n := 32))) (bcells_flat _) ?_; clear H; intro w H
               replace H : St w0 w (HP.blk b141 (bcells ((s.2.2.1 s129).getD (List.replicate 32 0))) 35 :: HP.blk bo0_0 ([.slice p135 (x134.2.1).length c135, .slice p136 (x134.2.2.1).length c136, .int .i64 (x134.2.2.2.1), .bool (x134.2.2.2.2)]) 71 :: HP.ow (rSl rByte) 33 p135 c135 x134.2.1 :: HP.ow (rPair (rInt .i64) (rSl rByte)) 88 p136 c136 x134.2.2.1 :: HP.blk bo0 ([.pointer (some ⟨bo0_0, 0, none⟩), .map (some m3), .map (some m4), .map (some m5)]) 75 :: HP.mm (some m3) hv false (rInt .i64) (fun l => l.length = 32) (fset x17 s129 r143) :: HP.mm (some m4) (Value.int .i64) true (rBytesN 32) (fun _ => True) (fset s129 x17 s.2.2.1) :: HP.mm (some m5) hv false (rInt .i64) (fun l => l.length = 32) (fset x17 1 s.2.2.2) :: HP.blk b19 (bcells x17) 35 :: HP.blk b13 (bcells x17) 35 :: HP.row 0 (0) (icells .u32 shaStart) :: HP.row 2 (0) (icells .u32 shaRounds) :: l) := H
               refine s_val wkP F rfl rfl rfl rfl (y_assign F rfl rfl) ?_; clear F; intro a F
               refine wpList_nil ?_
               refine c_then ?_
               refine wp_ret ?_
               refine c_blkR ?_
               refine c_thenR ?_
               refine c_thenR ?_; obtain rfl := Option.some.inj hm; refine ⟨_, rfl, ?_⟩; rintro rfl
               refine c_blkR ?_
               refine c_thenR ?_
               replace hm := elimR hm86
               refine c_thenR ?_
               obtain rfl := Option.some.inj hm
               refine x_resC2 F rfl (⟨_, rfl, agg35.run_load (H.blk 9 rfl).row ((bcells_length _).trans hl18)⟩) rfl ?_
               exact ⟨_, rfl, p135, c135, p136, c136, m3, m4, m5, rfl, hl18, ((((((((H.mv 7 rfl).mv 7 rfl).mv 7 rfl).mv 6 rfl).mv 6 rfl).mv 6 rfl).mv 7 rfl).keep 7 5)⟩
       · replace hm := ifF hg131 hm
         refine wp_exit ?_
         refine c_thenX ?_
         refine c_thenX ?_; obtain rfl := Option.some.inj hm; refine ⟨_, rfl, ?_⟩; rintro rfl
         refine c_hit ?_
         refine c_then ?_
         exact ⟨_, rfl, F.cut _ ⟨rfl, trivial⟩, (((((((((((((H.cp 11 rfl pers_row).cp 11 rfl pers_row).mv 11 rfl).mv 11 rfl).mv 11 rfl).mv 11 rfl).mv 11 rfl).mv 11 rfl).mv 10 rfl).mv 10 rfl).mv 10 rfl).mv 11 rfl).keep 12 2)⟩
     · skip
       clear F H hm
       rintro a w ⟨r86, rfl, F, H⟩; have hm := elimL hm86; clear hm86
       refine c_then ?_
       refine wp_seq ?_
       refine r_lit ?_
       refine s_val wkP F rfl rfl rfl rfl (y_build F rfl rfl (cs := bcells ((List.replicate 32 0) : List UInt8)) (by kernel_rfl)) ?_; clear F; intro a F
       refine s_storeA wkP F rfl rfl agg35 rfl rfl rfl H 9 rfl ((bcells_length _).trans rfl) ((bcells_length _).trans (List.length_replicate (n := 32))) (bcells_flat _) ?_; clear H; intro w H
       replace H : St w0 w (HP.blk bo0 ([.pointer (some ⟨bo0_0, 0, none⟩), .map (some m3), .map (some m4), .map (some m5)]) 75 :: HP.blk bo0_0 ([.slice p1 (s.1.1).length c1, .slice p2 (s.1.2.1).length c2, .int .i64 (s.1.2.2.1), .bool (s.1.2.2.2)]) 71 :: HP.ow (rSl rByte) 33 p1 c1 s.1.1 :: HP.ow (rPair (rInt .i64) (rSl rByte)) 88 p2 c2 s.1.2.1 :: HP.mm (some m3) hv false (rInt .i64) (fun l => l.length = 32) s.2.1 :: HP.mm (some m4) (Value.int .i64) true (rBytesN 32) (fun _ => True) s.2.2.1 :: HP.mm (some m5) hv false (rInt .i64) (fun l => l.length = 32) s.2.2.2 :: HP.blk b19 (bcells x17) 35 :: HP.ow rByte 5 p15 c15 x14.1 :: HP.blk b13 (bcells ((List.replicate 32 0) : List UInt8)) 35 :: HP.row 0 (0) (icells .u32 shaStart) :: HP.row 2 (0) (icells .u32 shaRounds) :: l) := H
       refine s_val wkP F rfl rfl rfl rfl (y_assign F rfl rfl) ?_; clear F; intro a F
       refine wpList_nil ?_
       refine c_then ?_
       refine wp_ret ?_
       obtain rfl := Option.some.inj hm
       refine x_resC2 F rfl (⟨_, rfl, agg35.run_load (H.blk 9 rfl).row ((bcells_length _).trans rfl)⟩) rfl ?_
       exact ⟨_, rfl, p1, c1, p2, c2, m3, m4, m5, rfl, rfl, ((((((((H.mv 6 rfl).mv 6 rfl).mv 6 rfl).mv 6 rfl).mv 6 rfl).mv 6 rfl).mv 6 rfl).keep 7 5)⟩
theorem ent33 : ∀ args w, (callFunc 33 args).run Tryd.prog w = .ok (.enter 33 args) w := enters Tryd.func33 (by kernel_rfl) rfl
theorem ent34 : ∀ args w, (callFunc 34 args).run Tryd.prog w = .ok (.enter 34 args) w := enters Tryd.func34 (by kernel_rfl) rfl
set_option maxRecDepth 100000 in
set_option maxHeartbeats 4000000 in
theorem w_stGet (s : ((List (List UInt8)) × (List (Int × (List UInt8))) × Int × Bool) × ((List UInt8) → Option Int) × (Int → Option (List UInt8)) × ((List UInt8) → Option Int)) (h : List UInt8) (bo0 : Nat) (bo0_0 : Nat) (p1 : Option Addr) (c1 : Nat) (p2 : Option Addr) (c2 : Nat) (m3 : Nat) (m4 : Nat) (m5 : Nat) (w0 w : World) (l : List HP) (hl6 : (h).length = 32) (r : (List UInt8) × Int) (hm : stGet s h = some r) (H : St w0 w (HP.row 0 (0) (icells .u32 shaStart) :: HP.row 2 (0) (icells .u32 shaRounds) :: HP.blk bo0 ([.pointer (some ⟨bo0_0, 0, none⟩), .map (some m3), .map (some m4), .map (some m5)]) 75 :: HP.blk bo0_0 ([.slice p1 (s.1.1).length c1, .slice p2 (s.1.2.1).length c2, .int .i64 (s.1.2.2.1), .bool (s.1.2.2.2)]) 71 :: HP.ow (rSl rByte) 33 p1 c1 s.1.1 :: HP.ow (rPair (rInt .i64) (rSl rByte)) 88 p2 c2 s.1.2.1 :: HP.mm (some m3) hv false (rInt .i64) (fun l => l.length = 32) s.2.1 :: HP.mm (some m4) (Value.int .i64) true (rBytesN 32) (fun _ => True) s.2.2.1 :: HP.mm (some m5) hv false (rInt .i64) (fun l => l.length = 32) s.2.2.2 :: l)) :
  Calls Tryd.prog 16 [.pointer (some ⟨bo0, 0, none⟩), .agg (bcells h).toArray].toArray w (fun e w' => ∃ v, e = .returned v ∧ ∃ (p7 : Option Addr) (c7 : Nat), v = .tuple [.slice p7 (r.1).length c7, .int .i64 (r.2)].toArray ∧ St w0 w' (HP.sl rByte p7 c7 r.1 :: HP.blk bo0 ([.pointer (some ⟨bo0_0, 0, none⟩), .map (some m3), .map (some m4), .map (some m5)]) 75 :: HP.blk bo0_0 ([.slice p1 (s.1.1).length c1, .slice p2 (s.1.2.1).length c2, .int .i64 (s.1.2.2.1), .bool (s.1.2.2.2)]) 71 :: HP.ow (rSl rByte) 33 p1 c1 s.1.1 :: HP.ow (rPair (rInt .i64) (rSl rByte)) 88 p2 c2 s.1.2.1 :: HP.mm (some m3) hv false (rInt .i64) (fun l => l.length = 32) s.2.1 :: HP.mm (some m4) (Value.int .i64) true (rBytesN 32) (fun _ => True) s.2.2.1 :: HP.mm (some m5) hv false (rInt .i64) (fun l => l.length = 32) s.2.2.2 :: l)) := by
 unfold stGet at hm
 refine x_enter Tryd.func16 rfl rfl rfl ?_
 intro a F
 replace F : Fr ⟨48, []⟩ a [(0, .pointer (some ⟨bo0, 0, none⟩)), (1, .agg (bcells h).toArray)] := F
 refine wp_seq ?_
 refine r_lit ?_
 refine s_boxA wkP F rfl rfl rfl rfl rfl H ?_; clear F H; intro b8 w a H F
 replace H : St w0 w (HP.blk b8 (bcells h) 35 :: HP.row 0 (0) (icells .u32 shaStart) :: HP.row 2 (0) (icells .u32 shaRounds) :: HP.blk bo0 ([.pointer (some ⟨bo0_0, 0, none⟩), .map (some m3), .map (some m4), .map (some m5)]) 75 :: HP.blk bo0_0 ([.slice p1 (s.1.1).length c1, .slice p2 (s.1.2.1).length c2, .int .i64 (s.1.2.2.1), .bool (s.1.2.2.2)]) 71 :: HP.ow (rSl rByte) 33 p1 c1 s.1.1 :: HP.ow (rPair (rInt .i64) (rSl rByte)) 88 p2 c2 s.1.2.1 :: HP.mm (some m3) hv false (rInt .i64) (fun l => l.length = 32) s.2.1 :: HP.mm (some m4) (Value.int .i64) true (rBytesN 32) (fun _ => True) s.2.2.1 :: HP.mm (some m5) hv false (rInt .i64) (fun l => l.length = 32) s.2.2.2 :: l) := H
 refine s_val wkP F rfl rfl rfl rfl (y_assign F rfl rfl) ?_; clear F; intro a F
 refine s_val wkP F rfl rfl rfl rfl (y_assign F rfl rfl) ?_; clear F; intro a F
 refine wpList_nil ?_
 refine c_then ?_
 refine wp_seq ?_
 obtain ⟨es9, H⟩ := H.mmOpen 7 rfl; replace H : St w0 w (HP.blk b8 (bcells h) 35 :: HP.row 0 (0) (icells .u32 shaStart) :: HP.row 2 (0) (icells .u32 shaRounds) :: HP.blk bo0 ([.pointer (some ⟨bo0_0, 0, none⟩), .map (some m3), .map (some m4), .map (some m5)]) 75 :: HP.blk bo0_0 ([.slice p1 (s.1.1).length c1, .slice p2 (s.1.2.1).length c2, .int .i64 (s.1.2.2.1), .bool (s.1.2.2.2)]) 71 :: HP.ow (rSl rByte) 33 p1 c1 s.1.1 :: HP.ow (rPair (rInt .i64) (rSl rByte)) 88 p2 c2 s.1.2.1 :: HP.mx (some m3) hv false (rInt .i64) (fun l => l.length = 32) es9 s.2.1 :: HP.mm (some m4) (Value.int .i64) true (rBytesN 32) (fun _ => True) s.2.2.1 :: HP.mm (some m5) hv false (rInt .i64) (fun l => l.length = 32) s.2.2.2 :: l) := H
 obtain ⟨cs10, hcs10, H⟩ := H.mxGet 7 rfl h (zc := [Value.int .i64 0]) (z0 := 0) (fun _ => rfl)
 obtain rfl := H.rcI 0 rfl
 replace H := H.dp 0 rfl
 refine q_region (fun u => St w0 u (HP.blk b8 (bcells h) 35 :: HP.row 0 (0) (icells .u32 shaStart) :: HP.row 2 (0) (icells .u32 shaRounds) :: HP.blk bo0 ([.pointer (some ⟨bo0_0, 0, none⟩), .map (some m3), .map (some m4), .map (some m5)]) 75 :: HP.blk bo0_0 ([.slice p1 (s.1.1).length c1, .slice p2 (s.1.2.1).length c2, .int .i64 (s.1.2.2.1), .bool (s.1.2.2.2)]) 71 :: HP.ow (rSl rByte) 33 p1 c1 s.1.1 :: HP.ow (rPair (rInt .i64) (rSl rByte)) 88 p2 c2 s.1.2.1 :: HP.mx (some m3) hv false (rInt .i64) (fun l => l.length = 32) es9 s.2.1 :: HP.mm (some m4) (Value.int .i64) true (rBytesN 32) (fun _ => True) s.2.2.1 :: HP.mm (some m5) hv false (rInt .i64) (fun l => l.length = 32) s.2.2.2 :: l)) (by kernel_rfl) (by kernel_rfl) H.drew ?_
 refine q_val F rfl rfl rfl (fun u hu => y_move F rfl rfl) ?_; clear F; intro a F
 refine q_val F rfl rfl rfl (fun u hu => y_nilCheck F rfl rfl) ?_; clear F; intro a F
 refine q_val F rfl rfl rfl (fun u hu => y_fieldAddr F fld75_1 rfl rfl) ?_; clear F; intro a F
 refine q_val F rfl rfl rfl (fun u hu => y_load1 F plain72 rfl rfl (row_at (v := .map (some m3)) ((hu.blk 3 rfl).row) rfl)) ?_; clear F; intro a F
 refine q_val F rfl rfl rfl (fun u hu => y_loadA F agg35 rfl rfl ((hu.blk 0 rfl).row) ((bcells_length _).trans hl6)) ?_; clear F; intro a F
 refine q_val F rfl rfl rfl (fun u hu => y_mxGet2 (agg := false) (zc := [Value.int .i64 0]) F Tryd.underlying72 (keyH key35) (fun w => zero3.run w) rfl hu 7 rfl rfl (k := h) rfl hl6 hcs10) ?_; clear F; intro a F
 refine q_val F rfl rfl rfl (fun u hu => y_move F rfl rfl) ?_; clear F; intro a F
 refine q_val F rfl rfl rfl (fun u hu => y_extract F rfl rfl rfl) ?_; clear F; intro a F
 refine q_val F rfl rfl rfl (fun u hu => y_extract F rfl rfl rfl) ?_; clear F; intro a F
 refine q_val F rfl rfl rfl (fun u hu => y_assign F rfl rfl) ?_; clear F; intro a F
 refine q_val F rfl rfl rfl (fun u hu => y_assign F rfl rfl) ?_; clear F; intro a F
 refine q_nil ?_; clear H; intro w H
 replace H : St w0 w (HP.blk b8 (bcells h) 35 :: HP.row 0 (0) (icells .u32 shaStart) :: HP.row 2 (0) (icells .u32 shaRounds) :: HP.blk bo0 ([.pointer (some ⟨bo0_0, 0, none⟩), .map (some m3), .map (some m4), .map (some m5)]) 75 :: HP.blk bo0_0 ([.slice p1 (s.1.1).length c1, .slice p2 (s.1.2.1).length c2, .int .i64 (s.1.2.2.1), .bool (s.1.2.2.2)]) 71 :: HP.ow (rSl rByte) 33 p1 c1 s.1.1 :: HP.ow (rPair (rInt .i64) (rSl rByte)) 88 p2 c2 s.1.2.1 :: HP.mm (some m3) hv false (rInt .i64) (fun l => l.length = 32) s.2.1 :: HP.mm (some m4) (Value.int .i64) true (rBytesN 32) (fun _ => True) s.2.2.1 :: HP.mm (some m5) hv false (rInt .i64) (fun l => l.length = 32) s.2.2.2 :: l) := H.mxShut 7 rfl
 refine c_then ?_
 refine wp_seq ?_
 refine wp_seq ?_
 refine r_lit ?_
 refine s_val wkP F rfl rfl rfl rfl (y_move F rfl rfl) ?_; clear F; intro a F
 refine s_val wkP F rfl rfl rfl rfl (y_not F rfl rfl) ?_; clear F; intro a F
 refine wpList_nil ?_
 refine c_then ?_
 refine x_cond F rfl (fun hg11 => ?_) (fun hg11 => ?_)
 · replace hm := ifT hg11 hm
   refine wp_seq ?_
   refine r_lit ?_
   refine s_val wkP F rfl rfl rfl rfl (y_assign F rfl rfl) ?_; clear F; intro a F
   refine s_val wkP F rfl rfl rfl rfl (y_assign F rfl rfl) ?_; clear F; intro a F
   refine wpList_nil ?_
   refine c_then ?_
   refine wp_ret ?_
   refine c_thenR ?_
   replace H : St w0 w (HP.sl rByte none 0 ([] : List UInt8) :: HP.blk b8 (bcells h) 35 :: HP.row 0 (0) (icells .u32 shaStart) :: HP.row 2 (0) (icells .u32 shaRounds) :: HP.blk bo0 ([.pointer (some ⟨bo0_0, 0, none⟩), .map (some m3), .map (some m4), .map (some m5)]) 75 :: HP.blk bo0_0 ([.slice p1 (s.1.1).length c1, .slice p2 (s.1.2.1).length c2, .int .i64 (s.1.2.2.1), .bool (s.1.2.2.2)]) 71 :: HP.ow (rSl rByte) 33 p1 c1 s.1.1 :: HP.ow (rPair (rInt .i64) (rSl rByte)) 88 p2 c2 s.1.2.1 :: HP.mm (some m3) hv false (rInt .i64) (fun l => l.length = 32) s.2.1 :: HP.mm (some m4) (Value.int .i64) true (rBytesN 32) (fun _ => True) s.2.2.1 :: HP.mm (some m5) hv false (rInt .i64) (fun l => l.length = 32) s.2.2.2 :: l) := H.slNil rByte
   obtain rfl := Option.some.inj hm
   refine x_ret2 F rfl rfl rfl ?_
   exact ⟨_, rfl, none, 0, rfl, (((((((((H.mv 10 rfl).mv 10 rfl).mv 10 rfl).mv 10 rfl).mv 10 rfl).mv 10 rfl).mv 10 rfl).cp 7 rfl pers_sl).keep 8 4)⟩
 · replace hm := ifF (nT hg11) hm
   refine wp_skip ?_
   refine c_then ?_
   refine wp_seq ?_
   refine r_lit ?_
   refine s_val wkP F rfl rfl rfl rfl (y_move F rfl rfl) ?_; clear F; intro a F
   refine s_val wkP F rfl rfl rfl rfl (y_nilCheck F rfl rfl) ?_; clear F; intro a F
   refine s_val wkP F rfl rfl rfl rfl (y_fieldAddr F fld75_0 rfl rfl) ?_; clear F; intro a F
   refine s_val wkP F rfl rfl rfl rfl (y_load1 F plain25 rfl rfl (row_at (v := .pointer (some ⟨bo0_0, 0, none⟩)) ((H.blk 3 rfl).row) rfl)) ?_; clear F; intro a F
   refine s_val wkP F rfl rfl rfl rfl (y_move F rfl rfl) ?_; clear F; intro a F
   obtain ⟨x12, ex12, hn⟩ := ob hm; clear hm; revert hn; intro hm
   refine s_call wkP F rfl rfl rfl rfl (y_call F rfl rfl ent33) (w_diskRead (s.1.1, s.1.2.1, s.1.2.2.1, s.1.2.2.2) ((s.2.1 h).getD 0) bo0_0 p1 c1 p2 c2 w0 _ _  _ ex12 (((H.mv 6 rfl).mv 6 rfl).mv 6 rfl)) ?_; clear F H; rintro _ w a ⟨p13, c13, rfl, H⟩ F
   replace H : St w0 w (HP.sl rByte p13 c13 x12.1 :: HP.blk bo0_0 ([.slice p1 (s.1.1).length c1, .slice p2 (s.1.2.1).length c2, .int .i64 (s.1.2.2.1), .bool (s.1.2.2.2)]) 71 :: HP.ow (rSl rByte) 33 p1 c1 s.1.1 :: HP.ow (rPair (rInt .i64) (rSl rByte)) 88 p2 c2 s.1.2.1 :: HP.blk b8 (bcells h) 35 :: HP.row 0 (0) (icells .u32 shaStart) :: HP.row 2 (0) (icells .u32 shaRounds) :: HP.blk bo0 ([.pointer (some ⟨bo0_0, 0, none⟩), .map (some m3), .map (some m4), .map (some m5)]) 75 :: HP.mm (some m3) hv false (rInt .i64) (fun l => l.length = 32) s.2.1 :: HP.mm (some m4) (Value.int .i64) true (rBytesN 32) (fun _ => True) s.2.2.1 :: HP.mm (some m5) hv false (rInt .i64) (fun l => l.length = 32) s.2.2.2 :: l) := H
   refine s_val wkP F rfl rfl rfl rfl (y_move F rfl rfl) ?_; clear F; intro a F
   refine s_val wkP F rfl rfl rfl rfl (y_extract F rfl rfl rfl) ?_; clear F; intro a F
   refine s_val wkP F rfl rfl rfl rfl (y_extract F rfl rfl rfl) ?_; clear F; intro a F
   refine s_val wkP F rfl rfl rfl rfl (y_assign F rfl rfl) ?_; clear F; intro a F
   refine s_val wkP F rfl rfl rfl rfl (y_assign F rfl rfl) ?_; clear F; intro a F
   refine wpList_nil ?_
   refine c_then ?_
   refine wp_seq ?_
   refine wp_seq ?_
   refine r_lit ?_
   refine s_val wkP F rfl rfl rfl rfl (y_move F rfl rfl) ?_; clear F; intro a F
   refine s_val wkP F rfl rfl rfl rfl (y_neq F rfl rfl rfl) ?_; clear F; intro a F
   refine wpList_nil ?_
   refine c_then ?_
   refine x_condN F rfl (fun hg14 => ?_) (fun hg14 => ?_)
   · replace hm := ifF hg14 hm
     refine wp_seq ?_
     refine r_lit ?_
     refine s_val wkP F rfl rfl rfl rfl (y_move F rfl rfl) ?_; clear F; intro a F
     refine s_val wkP F rfl rfl rfl rfl (y_assign F rfl rfl) ?_; clear F; intro a F
     refine s_val wkP F rfl rfl rfl rfl (y_assign F rfl rfl) ?_; clear F; intro a F
     refine wpList_nil ?_
     refine c_then ?_
     refine wp_ret ?_
     refine c_thenR ?_
     replace H : St w0 w (HP.sl rByte none 0 ([] : List UInt8) :: HP.sl rByte p13 c13 x12.1 :: HP.blk bo0_0 ([.slice p1 (s.1.1).length c1, .slice p2 (s.1.2.1).length c2, .int .i64 (s.1.2.2.1), .bool (s.1.2.2.2)]) 71 :: HP.ow (rSl rByte) 33 p1 c1 s.1.1 :: HP.ow (rPair (rInt .i64) (rSl rByte)) 88 p2 c2 s.1.2.1 :: HP.blk b8 (bcells h) 35 :: HP.row 0 (0) (icells .u32 shaStart) :: HP.row 2 (0) (icells .u32 shaRounds) :: HP.blk bo0 ([.pointer (some ⟨bo0_0, 0, none⟩), .map (some m3), .map (some m4), .map (some m5)]) 75 :: HP.mm (some m3) hv false (rInt .i64) (fun l => l.length = 32) s.2.1 :: HP.mm (some m4) (Value.int .i64) true (rBytesN 32) (fun _ => True) s.2.2.1 :: HP.mm (some m5) hv false (rInt .i64) (fun l => l.length = 32) s.2.2.2 :: l) := H.slNil rByte
     obtain rfl := Option.some.inj hm
     refine x_ret2 F rfl rfl rfl ?_
     exact ⟨_, rfl, none, 0, rfl, (((((((((H.mv 11 rfl).mv 11 rfl).mv 11 rfl).mv 7 rfl).mv 7 rfl).mv 7 rfl).mv 11 rfl).cp 7 rfl pers_sl).keep 8 5)⟩
   · replace hm := ifT hg14 hm
     refine wp_skip ?_
     refine c_then ?_
     refine wp_seq ?_
     refine r_lit ?_
     refine s_val wkP F rfl rfl rfl rfl (y_move F rfl rfl) ?_; clear F; intro a F
     obtain ⟨x15, ex15, hn⟩ := ob hm; clear hm; revert hn; intro hm
     refine s_call wkP F rfl rfl rfl rfl (y_call F rfl rfl ent34) (w_unwrap x12.1 p13 c13 w0 _ _  _ ex15 (H.cp 0 rfl pers_sl)) ?_; clear F H; rintro _ w a ⟨p16, c16, rfl, H⟩ F
     replace H : St w0 w (HP.sl rByte p16 c16 x15.1 :: HP.sl rByte p13 c13 x12.1 :: HP.blk bo0_0 ([.slice p1 (s.1.1).length c1, .slice p2 (s.1.2.1).length c2, .int .i64 (s.1.2.2.1), .bool (s.1.2.2.2)]) 71 :: HP.ow (rSl rByte) 33 p1 c1 s.1.1 :: HP.ow (rPair (rInt .i64) (rSl rByte)) 88 p2 c2 s.1.2.1 :: HP.blk b8 (bcells h) 35 :: HP.row 0 (0) (icells .u32 shaStart) :: HP.row 2 (0) (icells .u32 shaRounds) :: HP.blk bo0 ([.pointer (some ⟨bo0_0, 0, none⟩), .map (some m3), .map (some m4), .map (some m5)]) 75 :: HP.mm (some m3) hv false (rInt .i64) (fun l => l.length = 32) s.2.1 :: HP.mm (some m4) (Value.int .i64) true (rBytesN 32) (fun _ => True) s.2.2.1 :: HP.mm (some m5) hv false (rInt .i64) (fun l => l.length = 32) s.2.2.2 :: l) := H
     refine s_val wkP F rfl rfl rfl rfl (y_move F rfl rfl) ?_; clear F; intro a F
     refine s_val wkP F rfl rfl rfl rfl (y_extract F rfl rfl rfl) ?_; clear F; intro a F
     refine s_val wkP F rfl rfl rfl rfl (y_extract F rfl rfl rfl) ?_; clear F; intro a F
     refine s_val wkP F rfl rfl rfl rfl (y_assign F rfl rfl) ?_; clear F; intro a F
     refine s_val wkP F rfl rfl rfl rfl (y_assign F rfl rfl) ?_; clear F; intro a F
     refine wpList_nil ?_
     refine c_then ?_
     refine wp_seq ?_
     refine wp_seq ?_
     by_cases hg17 : x15.2 = 0
     · replace hm := ifT hg17 hm
       obtain ⟨x18, ex18, hn⟩ := ob hm; clear hm; revert hn; intro hm
       have hl19 : (x18).length = 32 := by obtain ⟨_, _, _, _, _, hx, _⟩ := calls_ex (w_shaSum x15.1 p16 c16 w0 _ _  _ ex18 (((H.cp 0 rfl pers_sl).cp 8 rfl pers_row).cp 8 rfl pers_row)); exact hx
       refine q_region (fun u => St w0 u (HP.sl rByte p16 c16 x15.1 :: HP.sl rByte p13 c13 x12.1 :: HP.blk bo0_0 ([.slice p1 (s.1.1).length c1, .slice p2 (s.1.2.1).length c2, .int .i64 (s.1.2.2.1), .bool (s.1.2.2.2)]) 71 :: HP.ow (rSl rByte) 33 p1 c1 s.1.1 :: HP.ow (rPair (rInt .i64) (rSl rByte)) 88 p2 c2 s.1.2.1 :: HP.blk b8 (bcells h) 35 :: HP.row 0 (0) (icells .u32 shaStart) :: HP.row 2 (0) (icells .u32 shaRounds) :: HP.blk bo0 ([.pointer (some ⟨bo0_0, 0, none⟩), .map (some m3), .map (some m4), .map (some m5)]) 75 :: HP.mm (some m3) hv false (rInt .i64) (fun l => l.length = 32) s.2.1 :: HP.mm (some m4) (Value.int .i64) true (rBytesN 32) (fun _ => True) s.2.2.1 :: HP.mm (some m5) hv false (rInt .i64) (fun l => l.length = 32) s.2.2.2 :: l)) (by kernel_rfl) (by kernel_rfl) H.drew ?_
       refine q_val F rfl rfl rfl (fun u hu => y_move F rfl rfl) ?_; clear F; intro a F
       refine q_val F rfl rfl rfl (fun u hu => y_neq F rfl rfl rfl) ?_; clear F; intro a F
       refine q_val F rfl rfl rfl (fun u hu => y_move F rfl rfl) ?_; clear F; intro a F
       replace F := F.bool (k := 41) (u := .bool false) rfl (congrArg (fun b => Value.bool (!b)) (decide_eq_true hg17))
       refine qg_on F rfl rfl rfl rfl ?_
       refine q_val F rfl rfl rfl (fun u hu => y_move F rfl rfl) ?_; clear F; intro a F
       refine qg_on F rfl rfl rfl rfl ?_
       refine q_call F rfl rfl rfl (fun u hu => y_call F rfl rfl ent35) (fun u hu => (w_shaSum x15.1 p16 c16 w0 _ _  _ ex18 (((hu.cp 0 rfl pers_sl).cp 8 rfl pers_row).cp 8 rfl pers_row)).mono fun e u2 he => by obtain ⟨v, rfl, rfl, _, H⟩ := he; exact ⟨rfl, H⟩) ?_; clear F; intro a F
       refine qg_on F rfl rfl rfl rfl ?_
       refine q_val F rfl rfl rfl (fun u hu => y_loadA F agg35 rfl rfl ((hu.blk 5 rfl).row) ((bcells_length _).trans hl6)) ?_; clear F; intro a F
       refine qg_on F rfl rfl rfl rfl ?_
       refine q_val F rfl rfl rfl (fun u hu => y_neqA F key35 rfl rfl rfl hl19 hl6) ?_; clear F; intro a F
       refine q_val F rfl rfl rfl (fun u hu => y_pickF F rfl rfl rfl) ?_; clear F; intro a F
       refine q_nil ?_; clear H; intro w H
       refine c_then ?_
       refine x_condN F rfl (fun hg20 => ?_) (fun hg20 => ?_)
       · replace hm := ifF hg20 hm
         refine wp_seq ?_
         refine r_lit ?_
         refine s_val wkP F rfl rfl rfl rfl (y_assign F rfl rfl) ?_; clear F; intro a F
         refine s_val wkP F rfl rfl rfl rfl (y_assign F rfl rfl) ?_; clear F; intro a F
         refine wpList_nil ?_
         refine c_then ?_
         refine wp_ret ?_
         refine c_thenR ?_
         replace H : St w0 w (HP.sl rByte none 0 ([] : List UInt8) :: HP.sl rByte p16 c16 x15.1 :: HP.sl rByte p13 c13 x12.1 :: HP.blk bo0_0 ([.slice p1 (s.1.1).length c1, .slice p2 (s.1.2.1).length c2, .int .i64 (s.1.2.2.1), .bool (s.1.2.2.2)]) 71 :: HP.ow (rSl rByte) 33 p1 c1 s.1.1 :: HP.ow (rPair (rInt .i64) (rSl rByte)) 88 p2 c2 s.1.2.1 :: HP.blk b8 (bcells h) 35 :: HP.row 0 (0) (icells .u32 shaStart) :: HP.row 2 (0) (icells .u32 shaRounds) :: HP.blk bo0 ([.pointer (some ⟨bo0_0, 0, none⟩), .map (some m3), .map (some m4), .map (some m5)]) 75 :: HP.mm (some m3) hv false (rInt .i64) (fun l => l.length = 32) s.2.1 :: HP.mm (some m4) (Value.int .i64) true (rBytesN 32) (fun _ => True) s.2.2.1 :: HP.mm (some m5) hv false (rInt .i64) (fun l => l.length = 32) s.2.2.2 :: l) := H.slNil rByte
         obtain rfl := Option.some.inj hm
         refine x_ret2 F rfl rfl rfl ?_
         exact ⟨_, rfl, none, 0, rfl, (((((((((H.mv 12 rfl).mv 12 rfl).mv 12 rfl).mv 8 rfl).mv 8 rfl).mv 8 rfl).mv 12 rfl).cp 7 rfl pers_sl).keep 8 6)⟩
       · replace hm := ifT hg20 hm
         refine wp_skip ?_
         refine c_then ?_
         refine wp_seq ?_
         refine r_lit ?_
         refine s_val wkP F rfl rfl rfl rfl (y_move F rfl rfl) ?_; clear F; intro a F
         refine s_val wkP F rfl rfl rfl rfl (y_assign F rfl rfl) ?_; clear F; intro a F
         refine s_val wkP F rfl rfl rfl rfl (y_assign F rfl rfl) ?_; clear F; intro a F
         refine wpList_nil ?_
         refine c_then ?_
         refine wp_ret ?_
         obtain rfl := Option.some.inj hm
         refine x_ret2 F rfl rfl rfl ?_
         exact ⟨_, rfl, p16, c16, rfl, (((((((((H.mv 11 rfl).mv 11 rfl).mv 11 rfl).mv 7 rfl).mv 7 rfl).mv 7 rfl).mv 11 rfl).cp 7 rfl pers_sl).keep 8 5)⟩
     · replace hm := ifF hg17 hm
       refine q_region (fun u => St w0 u (HP.sl rByte p16 c16 x15.1 :: HP.sl rByte p13 c13 x12.1 :: HP.blk bo0_0 ([.slice p1 (s.1.1).length c1, .slice p2 (s.1.2.1).length c2, .int .i64 (s.1.2.2.1), .bool (s.1.2.2.2)]) 71 :: HP.ow (rSl rByte) 33 p1 c1 s.1.1 :: HP.ow (rPair (rInt .i64) (rSl rByte)) 88 p2 c2 s.1.2.1 :: HP.blk b8 (bcells h) 35 :: HP.row 0 (0) (icells .u32 shaStart) :: HP.row 2 (0) (icells .u32 shaRounds) :: HP.blk bo0 ([.pointer (some ⟨bo0_0, 0, none⟩), .map (some m3), .map (some m4), .map (some m5)]) 75 :: HP.mm (some m3) hv false (rInt .i64) (fun l => l.length = 32) s.2.1 :: HP.mm (some m4) (Value.int .i64) true (rBytesN 32) (fun _ => True) s.2.2.1 :: HP.mm (some m5) hv false (rInt .i64) (fun l => l.length = 32) s.2.2.2 :: l)) (by kernel_rfl) (by kernel_rfl) H.drew ?_
       refine q_val F rfl rfl rfl (fun u hu => y_move F rfl rfl) ?_; clear F; intro a F
       refine q_val F rfl rfl rfl (fun u hu => y_neq F rfl rfl rfl) ?_; clear F; intro a F
       refine q_val F rfl rfl rfl (fun u hu => y_move F rfl rfl) ?_; clear F; intro a F
       replace F := F.bool (k := 41) (u := .bool true) rfl (congrArg (fun b => Value.bool (!b)) (decide_eq_false hg17))
       refine qg_off F rfl rfl rfl rfl rfl rfl rfl ?_; clear F; intro a F
       refine qg_off F rfl rfl rfl rfl rfl rfl rfl ?_; clear F; intro a F
       refine qg_off F rfl rfl rfl rfl rfl rfl rfl ?_; clear F; intro a F
       refine qg_off F rfl rfl rfl rfl rfl rfl rfl ?_; clear F; intro a F
       refine q_val F rfl rfl rfl (fun u hu => y_pickT F rfl rfl rfl) ?_; clear F; intro a F
       refine q_nil ?_; clear H; intro w H
       refine c_then ?_
       refine x_condT F rfl ?_
       refine wp_seq ?_
       refine r_lit ?_
       refine s_val wkP F rfl rfl rfl rfl (y_assign F rfl rfl) ?_; clear F; intro a F
       refine s_val wkP F rfl rfl rfl rfl (y_assign F rfl rfl) ?_; clear F; intro a F
       refine wpList_nil ?_
       refine c_then ?_
       refine wp_ret ?_
       refine c_thenR ?_
       replace H : St w0 w (HP.sl rByte none 0 ([] : List UInt8) :: HP.sl rByte p16 c16 x15.1 :: HP.sl rByte p13 c13 x12.1 :: HP.blk bo0_0 ([.slice p1 (s.1.1).length c1, .slice p2 (s.1.2.1).length c2, .int .i64 (s.1.2.2.1), .bool (s.1.2.2.2)]) 71 :: HP.ow (rSl rByte) 33 p1 c1 s.1.1 :: HP.ow (rPair (rInt .i64) (rSl rByte)) 88 p2 c2 s.1.2.1 :: HP.blk b8 (bcells h) 35 :: HP.row 0 (0) (icells .u32 shaStart) :: HP.row 2 (0) (icells .u32 shaRounds) :: HP.blk bo0 ([.pointer (some ⟨bo0_0, 0, none⟩), .map (some m3), .map (some m4), .map (some m5)]) 75 :: HP.mm (some m3) hv false (rInt .i64) (fun l => l.length = 32) s.2.1 :: HP.mm (some m4) (Value.int .i64) true (rBytesN 32) (fun _ => True) s.2.2.1 :: HP.mm (some m5) hv false (rInt .i64) (fun l => l.length = 32) s.2.2.2 :: l) := H.slNil rByte
       obtain rfl := Option.some.inj hm
       refine x_ret2 F rfl rfl rfl ?_
       exact ⟨_, rfl, none, 0, rfl, (((((((((H.mv 12 rfl).mv 12 rfl).mv 12 rfl).mv 8 rfl).mv 8 rfl).mv 8 rfl).mv 12 rfl).cp 7 rfl pers_sl).keep 8 6)⟩
end Go.Proofs.YtfepdfjhejkemaaDoor
