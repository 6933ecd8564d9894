/- pack, sector -/
import Derived.Test.YtfepdfjhejkemaaDoorShaC
set_option linter.unusedSimpArgs false
set_option linter.unusedVariables false
namespace Go.Proofs.YtfepdfjhejkemaaDoor
open Go.RowKit Go.Tri
set_option maxRecDepth 100000 in
set_option maxHeartbeats 4000000 in
theorem w_cloneB (s : List UInt8) (p1 : Option Addr) (c1 : Nat) (w0 w : World) (l : List HP)  (r : (List UInt8)) (hm : cloneB s = some r) (H : St w0 w (HP.sl rByte p1 c1 s :: l)) :
  Calls Tryd.prog 42 [.slice p1 (s).length c1].toArray w (fun e w' => ∃ v, e = .returned v ∧ ∃ (p2 : Option Addr) (c2 : Nat), v = .slice p2 (r).length c2 ∧ St w0 w' (HP.ow rByte 5 p2 c2 r :: l)) := by
 unfold cloneB at hm
 refine x_enter Tryd.func42 rfl rfl rfl ?_
 intro a F
 replace F : Fr ⟨8, []⟩ a [(0, .slice p1 (s).length c1)] := F
 refine wp_seq ?_
 refine r_lit ?_
 refine s_val wkP F rfl rfl rfl rfl (y_assign F rfl rfl) ?_; clear F; intro a F
 refine wpList_nil ?_
 refine c_then ?_
 refine wp_seq ?_
 refine wp_seq ?_
 refine r_lit ?_
 refine s_val wkP F rfl rfl rfl rfl (y_move F rfl rfl) ?_; clear F; intro a F
 cases p1 with
 | none =>
   obtain ⟨hx0, hc0⟩ := H.slNone 0 rfl; subst hc0; try subst hx0
   replace H := H.dp 0 rfl
   refine s_val wkP F rfl rfl rfl rfl (y_eqNil F rfl Tryd.underlying33 rfl rfl (by simp)) ?_; clear F; intro a F
   refine wpList_nil ?_
   refine c_then ?_
   refine x_condT F rfl ?_
   refine wp_seq ?_
   refine r_lit ?_
   refine s_val wkP F rfl rfl rfl rfl (y_assign F rfl rfl) ?_; clear F; intro a F
   refine wpList_nil ?_
   refine c_then ?_
   refine wp_ret ?_
   refine c_thenR ?_
   replace H : St w0 w (HP.ow rByte 5 none 0 ([] : List UInt8) :: l) := H.owNil rByte 5
   obtain rfl := Option.some.inj hm
   refine x_ret1 F rfl rfl ?_
   exact ⟨_, rfl, none, 0, rfl, (H.mv 0 rfl)⟩
 | some ad =>
   refine s_val wkP F rfl rfl rfl rfl (y_eqSome F rfl Tryd.underlying33 rfl rfl (by simp)) ?_; clear F; intro a F
   refine wpList_nil ?_
   refine c_then ?_
   refine x_condF F rfl ?_
   refine wp_skip ?_
   refine c_then ?_
   refine wp_seq ?_
   refine r_lit ?_
   refine s_build0O (R := rByte) wkP F rfl rfl rfl elem33 rfl H ?_; clear F H; intro b3 w a H F
   replace H : St w0 w (HP.ow rByte 5 (some ⟨b3, 0, none⟩) 0 ([] : List UInt8) :: HP.sl rByte (some ad) c1 s :: l) := H
   refine s_val wkP F rfl rfl rfl rfl (y_move F rfl rfl) ?_; clear F; intro a F
   obtain ⟨x5, ex5, hn⟩ := ob hm; clear hm; revert hn; intro hm
   refine s_app wkP F rfl rfl rfl rfl rfl rfl elem33 rfl ex5 H 0 1 rfl rfl ?_; clear F H; intro p4 c4 w a H F
   replace H : St w0 w (HP.ow rByte 5 p4 c4 x5 :: HP.sl rByte (some ad) c1 s :: l) := H
   refine s_val wkP F rfl rfl rfl rfl (y_assign F rfl rfl) ?_; clear F; intro a F
   refine wpList_nil ?_
   refine c_then ?_
   refine wp_ret ?_
   obtain rfl := Option.some.inj hm
   refine x_ret1 F rfl rfl ?_
   exact ⟨_, rfl, p4, c4, rfl, ((H.mv 0 rfl).keep 1 1)⟩
theorem fld124_0 : FieldT Tryd.prog 124 0 0 := by unfold FieldT; rw [Tryd.underlying124]; kernel_rfl
set_option maxRecDepth 100000 in
set_option maxHeartbeats 4000000 in
theorem w_penRaw (p : (List UInt8)) (b : List UInt8) (bo0 : Nat) (p1 : Option Addr) (c1 : Nat) (p2 : Option Addr) (c2 : Nat) (w0 w : World) (l : List HP)  (r : (List UInt8)) (hm : penRaw p b = some r) (H : St w0 w (HP.blk bo0 ([.slice p1 (p).length c1]) 124 :: HP.ow rByte 5 p1 c1 p :: HP.sl rByte p2 c2 b :: l)) :
  Calls Tryd.prog 64 [.pointer (some ⟨bo0, 0, none⟩), .slice p2 (b).length c2].toArray w (fun e w' => ∃ v, e = .returned v ∧ ∃ (p3 : Option Addr) (c3 : Nat), v = .tuple [].toArray ∧ St w0 w' (HP.blk bo0 ([.slice p3 (r).length c3]) 124 :: HP.ow rByte 5 p3 c3 r :: l)) := by
 unfold penRaw at hm
 refine x_enter Tryd.func64 rfl rfl rfl ?_
 intro a F
 replace F : Fr ⟨13, []⟩ a [(0, .pointer (some ⟨bo0, 0, none⟩)), (1, .slice p2 (b).length c2)] := F
 refine r_lit ?_
 refine s_val wkP F rfl rfl rfl rfl (y_move F rfl rfl) ?_; clear F; intro a F
 refine s_val wkP F rfl rfl rfl rfl (y_move F rfl rfl) ?_; clear F; intro a F
 refine s_val wkP F rfl rfl rfl rfl (y_nilCheck F rfl rfl) ?_; clear F; intro a F
 refine s_val wkP F rfl rfl rfl rfl (y_fieldAddr F fld124_0 rfl rfl) ?_; clear F; intro a F
 refine s_val wkP F rfl rfl rfl rfl (y_load1 F plain33 rfl rfl (row_at (v := .slice p1 (p).length c1) ((H.blk 0 rfl).row) rfl)) ?_; clear F; intro a F
 refine s_val wkP F rfl rfl rfl rfl (y_move F rfl rfl) ?_; clear F; intro a F
 obtain ⟨x5, ex5, hn⟩ := ob hm; clear hm; revert hn; intro hm
 refine s_app wkP F rfl rfl rfl rfl rfl rfl elem33 rfl ex5 H 1 2 rfl rfl ?_; clear F H; intro p4 c4 w a H F
 replace H : St w0 w (HP.blk bo0 ([.slice p1 (p).length c1]) 124 :: HP.ow rByte 5 p4 c4 x5 :: HP.sl rByte p2 c2 b :: l) := H
 refine s_val wkP F rfl rfl rfl rfl (y_nilCheck F rfl rfl) ?_; clear F; intro a F
 refine s_val wkP F rfl rfl rfl rfl (y_fieldAddr F fld124_0 rfl rfl) ?_; clear F; intro a F
 refine s_store1 wkP F rfl rfl zero33 rfl rfl rfl rfl rfl H 0 rfl (by simp [icells_length, bcells_length]) ?_; clear H; intro w H
 replace H : St w0 w (HP.blk bo0 ([.slice p4 (x5).length c4]) 124 :: HP.ow rByte 5 p4 c4 x5 :: HP.sl rByte p2 c2 b :: l) := H
 refine wpList_nil ?_
 obtain rfl := Option.some.inj hm
 refine x_end0 F rfl ?_
 exact ⟨_, rfl, p4, c4, rfl, (((H.mv 1 rfl).mv 1 rfl).keep 2 1)⟩
set_option maxRecDepth 100000 in
set_option maxHeartbeats 4000000 in
theorem w_penUint (p : (List UInt8)) (n : Int) (size : Int) (bo0 : Nat) (p1 : Option Addr) (c1 : Nat) (w0 w : World) (l : List HP)  (r : Int × (List UInt8)) (hm : penUint p n size = some r) (H : St w0 w (HP.blk bo0 ([.slice p1 (p).length c1]) 124 :: HP.ow rByte 5 p1 c1 p :: l)) :
  Calls Tryd.prog 65 [.pointer (some ⟨bo0, 0, none⟩), .int .u64 (n), .int .i64 (size)].toArray w (fun e w' => ∃ v, e = .returned v ∧ ∃ (p2 : Option Addr) (c2 : Nat), v = .int .i64 (r.1) ∧ St w0 w' (HP.blk bo0 ([.slice p2 (r.2).length c2]) 124 :: HP.ow rByte 5 p2 c2 r.2 :: l)) := by
 unfold penUint at hm
 refine x_enter Tryd.func65 rfl rfl rfl ?_
 intro a F
 replace F : Fr ⟨45, []⟩ a [(0, .pointer (some ⟨bo0, 0, none⟩)), (1, .int .u64 (n)), (2, .int .i64 (size))] := F
 refine wp_seq ?_
 refine r_lit ?_
 refine s_val wkP F rfl rfl rfl rfl (y_assign F rfl rfl) ?_; clear F; intro a F
 refine wpList_nil ?_
 refine c_then ?_
 refine wp_seq ?_
 refine wp_seq ?_
 refine r_lit ?_
 refine s_val wkP F rfl rfl rfl rfl (y_move F rfl rfl) ?_; clear F; intro a F
 refine s_val wkP F rfl rfl rfl rfl (y_lss F rfl rfl rfl) ?_; clear F; intro a F
 refine s_val wkP F rfl rfl rfl rfl (y_move F rfl rfl) ?_; clear F; intro a F
 by_cases hg3 : size < 1
 · replace hm := ifT hg3 hm
   replace F := F.bool (k := 10) (u := .bool true) rfl (congrArg (fun b => Value.bool b) (decide_eq_true hg3))
   refine g_off wkP F rfl rfl rfl rfl rfl rfl rfl ?_; clear F; intro a F
   refine g_off wkP F rfl rfl rfl rfl rfl rfl rfl ?_; clear F; intro a F
   refine s_val wkP F rfl rfl rfl rfl (y_pickT F rfl rfl rfl) ?_; clear F; intro a F
   refine s_val wkP F rfl rfl rfl rfl (y_move F rfl rfl) ?_; clear F; intro a F
   refine g_off wkP F rfl rfl rfl rfl rfl rfl rfl ?_; clear F; intro a F
   refine g_off wkP F rfl rfl rfl rfl rfl rfl rfl ?_; clear F; intro a F
   refine g_off wkP F rfl rfl rfl rfl rfl rfl rfl ?_; clear F; intro a F
   refine g_offU wkP F rfl rfl rfl rfl rfl rfl ?_; clear F; intro a F
   refine g_offU wkP F rfl rfl rfl rfl rfl rfl ?_; clear F; intro a F
   refine g_offU wkP F rfl rfl rfl rfl rfl rfl ?_; clear F; intro a F
   refine g_offU wkP F rfl rfl rfl rfl rfl rfl ?_; clear F; intro a F
   refine g_offU wkP F rfl rfl rfl rfl rfl rfl ?_; clear F; intro a F
   refine g_off wkP F rfl rfl rfl rfl rfl rfl rfl ?_; clear F; intro a F
   refine s_val wkP F rfl rfl rfl rfl (y_pickT F rfl rfl rfl) ?_; clear F; intro a F
   refine wpList_nil ?_
   refine c_then ?_
   refine x_condT F rfl ?_
   refine wp_seq ?_
   refine r_lit ?_
   refine s_val wkP F rfl rfl rfl rfl (y_assign F rfl rfl) ?_; clear F; intro a F
   refine wpList_nil ?_
   refine c_then ?_
   refine wp_ret ?_
   refine c_thenR ?_
   obtain rfl := Option.some.inj hm
   refine x_ret1 F rfl rfl ?_
   exact ⟨_, rfl, p1, c1, rfl, ((H.mv 1 rfl).mv 1 rfl)⟩
 · replace hm := ifF hg3 hm
   replace F := F.bool (k := 10) (u := .bool false) rfl (congrArg (fun b => Value.bool b) (decide_eq_false hg3))
   refine g_onP F rfl rfl rfl rfl ?_
   refine s_val wkP F rfl rfl rfl rfl (y_move F rfl rfl) ?_; clear F; intro a F
   refine g_onP F rfl rfl rfl rfl ?_
   refine s_val wkP F rfl rfl rfl rfl (y_gtr F rfl rfl rfl) ?_; clear F; intro a F
   refine s_val wkP F rfl rfl rfl rfl (y_pickF F rfl rfl rfl) ?_; clear F; intro a F
   refine s_val wkP F rfl rfl rfl rfl (y_move F rfl rfl) ?_; clear F; intro a F
   by_cases hg4 : 8 < size
   · replace hm := ifT hg4 hm
     replace F := F.bool (k := 14) (u := .bool true) rfl (congrArg (fun b => Value.bool b) (decide_eq_true hg4))
     refine g_off wkP F rfl rfl rfl rfl rfl rfl rfl ?_; clear F; intro a F
     refine g_off wkP F rfl rfl rfl rfl rfl rfl rfl ?_; clear F; intro a F
     refine g_off wkP F rfl rfl rfl rfl rfl rfl rfl ?_; clear F; intro a F
     refine g_offU wkP F rfl rfl rfl rfl rfl rfl ?_; clear F; intro a F
     refine g_offU wkP F rfl rfl rfl rfl rfl rfl ?_; clear F; intro a F
     refine g_offU wkP F rfl rfl rfl rfl rfl rfl ?_; clear F; intro a F
     refine g_offU wkP F rfl rfl rfl rfl rfl rfl ?_; clear F; intro a F
     refine g_offU wkP F rfl rfl rfl rfl rfl rfl ?_; clear F; intro a F
     refine g_off wkP F rfl rfl rfl rfl rfl rfl rfl ?_; clear F; intro a F
     refine s_val wkP F rfl rfl rfl rfl (y_pickT F rfl rfl rfl) ?_; clear F; intro a F
     refine wpList_nil ?_
     refine c_then ?_
     refine x_condT F rfl ?_
     refine wp_seq ?_
     refine r_lit ?_
     refine s_val wkP F rfl rfl rfl rfl (y_assign F rfl rfl) ?_; clear F; intro a F
     refine wpList_nil ?_
     refine c_then ?_
     refine wp_ret ?_
     refine c_thenR ?_
     obtain rfl := Option.some.inj hm
     refine x_ret1 F rfl rfl ?_
     exact ⟨_, rfl, p1, c1, rfl, ((H.mv 1 rfl).mv 1 rfl)⟩
   · replace hm := ifF hg4 hm
     replace F := F.bool (k := 14) (u := .bool false) rfl (congrArg (fun b => Value.bool b) (decide_eq_false hg4))
     refine g_onP F rfl rfl rfl rfl ?_
     refine s_val wkP F rfl rfl rfl rfl (y_move F rfl rfl) ?_; clear F; intro a F
     refine g_onP F rfl rfl rfl rfl ?_
     refine s_val wkP F rfl rfl rfl rfl (y_lss F rfl rfl rfl) ?_; clear F; intro a F
     refine g_onP F rfl rfl rfl rfl ?_
     refine s_val wkP F rfl rfl rfl rfl (y_move F rfl rfl) ?_; clear F; intro a F
     by_cases hg5 : size < 8
     · replace hm := ifT hg5 hm
       replace F := F.bool (k := 17) (u := .bool true) rfl (congrArg (fun b => Value.bool b) (decide_eq_true hg5))
       refine g_onP F rfl rfl rfl rfl ?_
       refine s_val wkP F rfl rfl rfl rfl (y_move F rfl rfl) ?_; clear F; intro a F
       refine g_onP F rfl rfl rfl rfl ?_
       refine s_val wkP F rfl rfl rfl rfl (y_move F rfl rfl) ?_; clear F; intro a F
       refine g_onP F rfl rfl rfl rfl ?_
       refine s_val wkP F rfl rfl rfl rfl (i_mul F rfl rfl rfl) ?_; clear F; intro a F
       refine g_onP F rfl rfl rfl rfl ?_
       obtain ⟨x6, ex6, hn⟩ := ob hm; clear hm; revert hn; intro hm
       refine s_val wkP F rfl rfl rfl rfl (i_shrO F rfl rfl rfl ex6) ?_; clear F; intro a F
       refine g_onP F rfl rfl rfl rfl ?_
       refine s_val wkP F rfl rfl rfl rfl (y_gtr F rfl rfl rfl) ?_; clear F; intro a F
       refine g_onP F rfl rfl rfl rfl ?_
       refine s_val wkP F rfl rfl rfl rfl (y_pickT F rfl rfl rfl) ?_; clear F; intro a F
       refine s_val wkP F rfl rfl rfl rfl (y_pickF F rfl rfl rfl) ?_; clear F; intro a F
       refine wpList_nil ?_
       refine c_then ?_
       refine x_condP F rfl (fun hg7 => ?_) (fun hg7 => ?_)
       · replace hm := ifT hg7 hm
         refine wp_seq ?_
         refine r_lit ?_
         refine s_val wkP F rfl rfl rfl rfl (y_assign F rfl rfl) ?_; clear F; intro a F
         refine wpList_nil ?_
         refine c_then ?_
         refine wp_ret ?_
         refine c_thenR ?_
         obtain rfl := Option.some.inj hm
         refine x_ret1 F rfl rfl ?_
         exact ⟨_, rfl, p1, c1, rfl, ((H.mv 1 rfl).mv 1 rfl)⟩
       · replace hm := ifF hg7 hm
         refine wp_skip ?_
         refine c_then ?_
         refine wp_seq ?_
         refine wp_seq ?_
         refine r_lit ?_
         refine s_val wkP F rfl rfl rfl rfl (y_move F rfl rfl) ?_; clear F; intro a F
         refine s_val wkP F rfl rfl rfl rfl (i_sub F rfl rfl rfl) ?_; clear F; intro a F
         refine s_val wkP F rfl rfl rfl rfl (y_assign F rfl rfl) ?_; clear F; intro a F
         refine wpList_nil ?_
         refine c_then ?_
         obtain ⟨r45, er45, hm45⟩ := ob hm; clear hm; revert er45; intro hm
         refine x_mid (fun aa ww => ∃ (p46 : Option Addr) (c46 : Nat), Fr ⟨45, []⟩ aa [] ∧ St w0 ww (HP.blk bo0 ([.slice p46 (r45).length c46]) 124 :: HP.ow rByte 5 p46 c46 r45 :: l)) ?_ ?_
         · skip
           refine wp_block ?_
           refine x_loopO _ (fun (s71 : (List UInt8) × Int) aa ww => ∃ (p72 : Option Addr) (c72 : Nat), Fr ⟨45, []⟩ aa [(0, .pointer (some ⟨bo0, 0, none⟩)), (1, .int .u64 (n)), (7, .int .i64 (s71.2))] ∧ St w0 ww (HP.blk bo0 ([.slice p72 (s71.1).length c72]) 124 :: HP.ow rByte 5 p72 c72 s71.1 :: l)) hm ⟨p1, c1, F.cut _ ⟨rfl, rfl, rfl, trivial⟩, ((H.mv 1 rfl).mv 1 rfl)⟩ ?_
           clear F H hm
           rintro s71 a w o ⟨p72, c72, F, H⟩ hm
           refine wp_seq ?_
           refine wp_seq ?_
           refine r_lit ?_
           refine s_val wkP F rfl rfl rfl rfl (y_move F rfl rfl) ?_; clear F; intro a F
           refine s_val wkP F rfl rfl rfl rfl (y_geq F rfl rfl rfl) ?_; clear F; intro a F
           refine wpList_nil ?_
           refine c_then ?_
           refine x_condP F rfl (fun hg73 => ?_) (fun hg73 => ?_)
           · replace hm := ifT hg73 hm
             refine wp_skip ?_
             refine c_then ?_
             refine wp_seq ?_
             refine wp_block ?_
             obtain ⟨x79, ex79, hn⟩ := ob hm; clear hm; revert hn; intro hm
             refine mix_region [10, 11, 14] [14] (.step 0 0 (.step 0 1 (.step 0 2 (.step 0 3 (.step 0 4 (.step 0 5 (.step 0 6 (.step 0 7 (.step 0 8 (.step 0 9 (.step 2 10 (.step 2 11 (.step 0 12 (.step 0 13 (.step 3 14 .done))))))))))))))) (fun u => ∃ ls, St w0 u (HP.blk bo0 ([.slice p72 (s71.1).length c72]) 124 :: ls)) (by kernel_rfl) (by kernel_rfl) ⟨_, (H.drew.mv 0 rfl)⟩ ?_
             replace H := H.drew
             generalize w.drew = w at H ⊢
             refine m_pure F rfl rfl rfl rfl (fun u hu => y_move F rfl rfl) ?_; clear F; intro a F
             refine m_pure F rfl rfl rfl rfl (fun u hu => y_move F rfl rfl) ?_; clear F; intro a F
             refine m_pure F rfl rfl rfl rfl (fun u hu => y_nilCheck F rfl rfl) ?_; clear F; intro a F
             refine m_pure F rfl rfl rfl rfl (fun u hu => y_fieldAddr F fld124_0 rfl rfl) ?_; clear F; intro a F
             refine m_pure F rfl rfl rfl rfl (fun u hu => y_load1 F plain33 rfl rfl (row_at (v := .slice p72 (s71.1).length c72) ((hu.choose_spec.blk 0 rfl).row) rfl)) ?_; clear F; intro a F
             refine m_pure F rfl rfl rfl rfl (fun u hu => y_move F rfl rfl) ?_; clear F; intro a F
             refine m_pure F rfl rfl rfl rfl (fun u hu => y_move F rfl rfl) ?_; clear F; intro a F
             refine m_pure F rfl rfl rfl rfl (fun u hu => i_mul F rfl rfl rfl) ?_; clear F; intro a F
             refine m_pure F rfl rfl rfl rfl (fun u hu => i_shrO F rfl rfl rfl ex79) ?_; clear F; intro a F
             refine m_pure F rfl rfl rfl rfl (fun u hu => i_conv F Tryd.underlying115 Tryd.underlying5 rfl rfl) ?_; clear F; intro a F
             refine m_heavy rfl rfl ?_
             obtain ⟨x81, ex81, hn⟩ := ob hm; clear hm; revert hn; intro hm
             refine s_buildC wkP F rfl rfl rfl elem33 zero5 rfl rfl rfl rfl (by simp [Value.cells]) (by decide) H ?_; clear F H; intro b80 w a H F
             replace H : St w0 w (HP.blk b80 ([.int .u8 (IntKind.u8.wrap (x79))]) 5 :: HP.blk bo0 ([.slice p72 (s71.1).length c72]) 124 :: HP.ow rByte 5 p72 c72 s71.1 :: l) := H
             replace H : St w0 w (HP.ow rByte 5 (some ⟨b80, 0, none⟩) (([x81]).length) ([x81]) :: HP.blk bo0 ([.slice p72 (s71.1).length c72]) 124 :: HP.ow rByte 5 p72 c72 s71.1 :: l) := H.blkOw (R := rByte) 0 rfl (fun gg => ⟨[[.int .u8 (IntKind.u8.wrap (x79))]], rfl, (congrArg (fun z => [Value.int .u8 z]) (u8O_some ex81).symm), trivial⟩) (by simp)
             refine wpList_nil ?_; refine c_then ⟨⟨_, (H.mv 1 rfl)⟩, ?_⟩
             refine m_heavy rfl rfl ?_
             replace H : St w0 w (HP.sl rByte (some ⟨b80, 0, none⟩) (([x81]).length) ([x81]) :: HP.blk bo0 ([.slice p72 (s71.1).length c72]) 124 :: HP.ow rByte 5 p72 c72 s71.1 :: l) := H.frz 0 rfl
             obtain ⟨x83, ex83, hn⟩ := ob hm; clear hm; revert hn; intro hm
             refine s_app wkP F rfl rfl rfl rfl rfl rfl elem33 rfl ex83 H 2 0 rfl rfl ?_; clear F H; intro p82 c82 w a H F
             replace H : St w0 w (HP.sl rByte (some ⟨b80, 0, none⟩) (([x81]).length) ([x81]) :: HP.blk bo0 ([.slice p72 (s71.1).length c72]) 124 :: HP.ow rByte 5 p82 c82 x83 :: l) := H
             refine wpList_nil ?_; refine c_then ⟨⟨_, (H.mv 1 rfl)⟩, ?_⟩
             refine m_pure F rfl rfl rfl rfl (fun u hu => y_nilCheck F rfl rfl) ?_; clear F; intro a F
             refine m_pure F rfl rfl rfl rfl (fun u hu => y_fieldAddr F fld124_0 rfl rfl) ?_; clear F; intro a F
             refine m_last rfl rfl ?_
             refine s_store1 wkP F rfl rfl zero33 rfl rfl rfl rfl rfl H 1 rfl (by simp [icells_length, bcells_length]) ?_; clear H; intro w H
             replace H : St w0 w (HP.sl rByte (some ⟨b80, 0, none⟩) (([x81]).length) ([x81]) :: HP.blk bo0 ([.slice p82 (x83).length c82]) 124 :: HP.ow rByte 5 p82 c82 x83 :: l) := H
             refine wpList_nil ?_; refine c_then ?_
             refine m_nil ?_
             refine c_blkN ?_
             refine c_then ?_
             refine r_lit ?_
             refine s_val wkP F rfl rfl rfl rfl (y_move F rfl rfl) ?_; clear F; intro a F
             refine s_val wkP F rfl rfl rfl rfl (i_sub F rfl rfl rfl) ?_; clear F; intro a F
             refine s_val wkP F rfl rfl rfl rfl (y_assign F rfl rfl) ?_; clear F; intro a F
             refine wpList_nil ?_
             refine c_then ?_; obtain rfl := Option.some.inj hm
             exact ⟨_, rfl, ⟨p82, c82, F.cut _ ⟨rfl, rfl, rfl, trivial⟩, (((H.mv 2 rfl).mv 2 rfl).keep 2 1)⟩⟩
           · replace hm := ifF hg73 hm
             refine wp_exit ?_
             refine c_thenX ?_
             refine c_thenX ?_; obtain rfl := Option.some.inj hm; refine ⟨_, rfl, ?_⟩; rintro rfl
             refine c_hit ?_
             refine c_then ?_
             exact ⟨p72, c72, F.cut _ trivial, ((H.mv 1 rfl).mv 1 rfl)⟩
         · skip
           clear F H hm
           rintro a w ⟨p46, c46, F, H⟩; have hm := hm45; clear hm45
           refine c_then ?_
           refine wp_seq ?_
           refine r_lit ?_
           refine s_val wkP F rfl rfl rfl rfl (y_assign F rfl rfl) ?_; clear F; intro a F
           refine wpList_nil ?_
           refine c_then ?_
           refine wp_ret ?_
           obtain rfl := Option.some.inj hm
           refine x_ret1 F rfl rfl ?_
           exact ⟨_, rfl, p46, c46, rfl, ((H.mv 1 rfl).mv 1 rfl)⟩
     · replace hm := ifF hg5 hm
       replace F := F.bool (k := 17) (u := .bool false) rfl (congrArg (fun b => Value.bool b) (decide_eq_false hg5))
       refine g_off wkP F rfl rfl rfl rfl rfl rfl rfl ?_; clear F; intro a F
       refine g_off wkP F rfl rfl rfl rfl rfl rfl rfl ?_; clear F; intro a F
       refine g_off wkP F rfl rfl rfl rfl rfl rfl rfl ?_; clear F; intro a F
       refine g_off wkP F rfl rfl rfl rfl rfl rfl rfl ?_; clear F; intro a F
       refine g_off wkP F rfl rfl rfl rfl rfl rfl rfl ?_; clear F; intro a F
       refine g_onP F rfl rfl rfl rfl ?_
       refine s_val wkP F rfl rfl rfl rfl (y_pickF F rfl rfl rfl) ?_; clear F; intro a F
       refine s_val wkP F rfl rfl rfl rfl (y_pickF F rfl rfl rfl) ?_; clear F; intro a F
       refine wpList_nil ?_
       refine c_then ?_
       refine x_condF F rfl ?_
       refine wp_skip ?_
       refine c_then ?_
       refine wp_seq ?_
       refine wp_seq ?_
       refine r_lit ?_
       refine s_val wkP F rfl rfl rfl rfl (y_move F rfl rfl) ?_; clear F; intro a F
       refine s_val wkP F rfl rfl rfl rfl (i_sub F rfl rfl rfl) ?_; clear F; intro a F
       refine s_val wkP F rfl rfl rfl rfl (y_assign F rfl rfl) ?_; clear F; intro a F
       refine wpList_nil ?_
       refine c_then ?_
       obtain ⟨r121, er121, hm121⟩ := ob hm; clear hm; revert er121; intro hm
       refine x_mid (fun aa ww => ∃ (p122 : Option Addr) (c122 : Nat), Fr ⟨45, []⟩ aa [] ∧ St w0 ww (HP.blk bo0 ([.slice p122 (r121).length c122]) 124 :: HP.ow rByte 5 p122 c122 r121 :: l)) ?_ ?_
       · skip
         refine wp_block ?_
         refine x_loopO _ (fun (s147 : (List UInt8) × Int) aa ww => ∃ (p148 : Option Addr) (c148 : Nat), Fr ⟨45, []⟩ aa [(0, .pointer (some ⟨bo0, 0, none⟩)), (1, .int .u64 (n)), (7, .int .i64 (s147.2))] ∧ St w0 ww (HP.blk bo0 ([.slice p148 (s147.1).length c148]) 124 :: HP.ow rByte 5 p148 c148 s147.1 :: l)) hm ⟨p1, c1, F.cut _ ⟨rfl, rfl, rfl, trivial⟩, ((H.mv 1 rfl).mv 1 rfl)⟩ ?_
         clear F H hm
         rintro s147 a w o ⟨p148, c148, F, H⟩ hm
         refine wp_seq ?_
         refine wp_seq ?_
         refine r_lit ?_
         refine s_val wkP F rfl rfl rfl rfl (y_move F rfl rfl) ?_; clear F; intro a F
         refine s_val wkP F rfl rfl rfl rfl (y_geq F rfl rfl rfl) ?_; clear F; intro a F
         refine wpList_nil ?_
         refine c_then ?_
         refine x_condP F rfl (fun hg149 => ?_) (fun hg149 => ?_)
         · replace hm := ifT hg149 hm
           refine wp_skip ?_
           refine c_then ?_
           refine wp_seq ?_
           refine wp_block ?_
           obtain ⟨x155, ex155, hn⟩ := ob hm; clear hm; revert hn; intro hm
           refine mix_region [10, 11, 14] [14] (.step 0 0 (.step 0 1 (.step 0 2 (.step 0 3 (.step 0 4 (.step 0 5 (.step 0 6 (.step 0 7 (.step 0 8 (.step 0 9 (.step 2 10 (.step 2 11 (.step 0 12 (.step 0 13 (.step 3 14 .done))))))))))))))) (fun u => ∃ ls, St w0 u (HP.blk bo0 ([.slice p148 (s147.1).length c148]) 124 :: ls)) (by kernel_rfl) (by kernel_rfl) ⟨_, (H.drew.mv 0 rfl)⟩ ?_
           replace H := H.drew
           generalize w.drew = w at H ⊢
           refine m_pure F rfl rfl rfl rfl (fun u hu => y_move F rfl rfl) ?_; clear F; intro a F
           refine m_pure F rfl rfl rfl rfl (fun u hu => y_move F rfl rfl) ?_; clear F; intro a F
           refine m_pure F rfl rfl rfl rfl (fun u hu => y_nilCheck F rfl rfl) ?_; clear F; intro a F
           refine m_pure F rfl rfl rfl rfl (fun u hu => y_fieldAddr F fld124_0 rfl rfl) ?_; clear F; intro a F
           refine m_pure F rfl rfl rfl rfl (fun u hu => y_load1 F plain33 rfl rfl (row_at (v := .slice p148 (s147.1).length c148) ((hu.choose_spec.blk 0 rfl).row) rfl)) ?_; clear F; intro a F
           refine m_pure F rfl rfl rfl rfl (fun u hu => y_move F rfl rfl) ?_; clear F; intro a F
           refine m_pure F rfl rfl rfl rfl (fun u hu => y_move F rfl rfl) ?_; clear F; intro a F
           refine m_pure F rfl rfl rfl rfl (fun u hu => i_mul F rfl rfl rfl) ?_; clear F; intro a F
           refine m_pure F rfl rfl rfl rfl (fun u hu => i_shrO F rfl rfl rfl ex155) ?_; clear F; intro a F
           refine m_pure F rfl rfl rfl rfl (fun u hu => i_conv F Tryd.underlying115 Tryd.underlying5 rfl rfl) ?_; clear F; intro a F
           refine m_heavy rfl rfl ?_
           obtain ⟨x157, ex157, hn⟩ := ob hm; clear hm; revert hn; intro hm
           refine s_buildC wkP F rfl rfl rfl elem33 zero5 rfl rfl rfl rfl (by simp [Value.cells]) (by decide) H ?_; clear F H; intro b156 w a H F
           replace H : St w0 w (HP.blk b156 ([.int .u8 (IntKind.u8.wrap (x155))]) 5 :: HP.blk bo0 ([.slice p148 (s147.1).length c148]) 124 :: HP.ow rByte 5 p148 c148 s147.1 :: l) := H
           replace H : St w0 w (HP.ow rByte 5 (some ⟨b156, 0, none⟩) (([x157]).length) ([x157]) :: HP.blk bo0 ([.slice p148 (s147.1).length c148]) 124 :: HP.ow rByte 5 p148 c148 s147.1 :: l) := H.blkOw (R := rByte) 0 rfl (fun gg => ⟨[[.int .u8 (IntKind.u8.wrap (x155))]], rfl, (congrArg (fun z => [Value.int .u8 z]) (u8O_some ex157).symm), trivial⟩) (by simp)
           refine wpList_nil ?_; refine c_then ⟨⟨_, (H.mv 1 rfl)⟩, ?_⟩
           refine m_heavy rfl rfl ?_
           replace H : St w0 w (HP.sl rByte (some ⟨b156, 0, none⟩) (([x157]).length) ([x157]) :: HP.blk bo0 ([.slice p148 (s147.1).length c148]) 124 :: HP.ow rByte 5 p148 c148 s147.1 :: l) := H.frz 0 rfl
           obtain ⟨x159, ex159, hn⟩ := ob hm; clear hm; revert hn; intro hm
           refine s_app wkP F rfl rfl rfl rfl rfl rfl elem33 rfl ex159 H 2 0 rfl rfl ?_; clear F H; intro p158 c158 w a H F
           replace H : St w0 w (HP.sl rByte (some ⟨b156, 0, none⟩) (([x157]).length) ([x157]) :: HP.blk bo0 ([.slice p148 (s147.1).length c148]) 124 :: HP.ow rByte 5 p158 c158 x159 :: l) := H
           refine wpList_nil ?_; refine c_then ⟨⟨_, (H.mv 1 rfl)⟩, ?_⟩
           refine m_pure F rfl rfl rfl rfl (fun u hu => y_nilCheck F rfl rfl) ?_; clear F; intro a F
           refine m_pure F rfl rfl rfl rfl (fun u hu => y_fieldAddr F fld124_0 rfl rfl) ?_; clear F; intro a F
           refine m_last rfl rfl ?_
           refine s_store1 wkP F rfl rfl zero33 rfl rfl rfl rfl rfl H 1 rfl (by simp [icells_length, bcells_length]) ?_; clear H; intro w H
           replace H : St w0 w (HP.sl rByte (some ⟨b156, 0, none⟩) (([x157]).length) ([x157]) :: HP.blk bo0 ([.slice p158 (x159).length c158]) 124 :: HP.ow rByte 5 p158 c158 x159 :: l) := H
           refine wpList_nil ?_; refine c_then ?_
           refine m_nil ?_
           refine c_blkN ?_
           refine c_then ?_
           refine r_lit ?_
           refine s_val wkP F rfl rfl rfl rfl (y_move F rfl rfl) ?_; clear F; intro a F
           refine s_val wkP F rfl rfl rfl rfl (i_sub F rfl rfl rfl) ?_; clear F; intro a F
           refine s_val wkP F rfl rfl rfl rfl (y_assign F rfl rfl) ?_; clear F; intro a F
           refine wpList_nil ?_
           refine c_then ?_; obtain rfl := Option.some.inj hm
           exact ⟨_, rfl, ⟨p158, c158, F.cut _ ⟨rfl, rfl, rfl, trivial⟩, (((H.mv 2 rfl).mv 2 rfl).keep 2 1)⟩⟩
         · replace hm := ifF hg149 hm
           refine wp_exit ?_
           refine c_thenX ?_
           refine c_thenX ?_; obtain rfl := Option.some.inj hm; refine ⟨_, rfl, ?_⟩; rintro rfl
           refine c_hit ?_
           refine c_then ?_
           exact ⟨p148, c148, F.cut _ trivial, ((H.mv 1 rfl).mv 1 rfl)⟩
       · skip
         clear F H hm
         rintro a w ⟨p122, c122, F, H⟩; have hm := hm121; clear hm121
         refine c_then ?_
         refine wp_seq ?_
         refine r_lit ?_
         refine s_val wkP F rfl rfl rfl rfl (y_assign F rfl rfl) ?_; clear F; intro a F
         refine wpList_nil ?_
         refine c_then ?_
         refine wp_ret ?_
         obtain rfl := Option.some.inj hm
         refine x_ret1 F rfl rfl ?_
         exact ⟨_, rfl, p122, c122, rfl, ((H.mv 1 rfl).mv 1 rfl)⟩
theorem ent42 : ∀ args w, (callFunc 42 args).run Tryd.prog w = .ok (.enter 42 args) w := enters Tryd.func42 (by kernel_rfl) rfl
set_option maxRecDepth 100000 in
set_option maxHeartbeats 4000000 in
theorem w_penData (p : (List UInt8)) (bo0 : Nat) (p1 : Option Addr) (c1 : Nat) (w0 w : World) (l : List HP)  (r : (List UInt8) × (List UInt8)) (hm : penData p = some r) (H : St w0 w (HP.blk bo0 ([.slice p1 (p).length c1]) 124 :: HP.ow rByte 5 p1 c1 p :: l)) :
  Calls Tryd.prog 77 [.pointer (some ⟨bo0, 0, none⟩)].toArray w (fun e w' => ∃ v, e = .returned v ∧ ∃ (p2 : Option Addr) (c2 : Nat) (p3 : Option Addr) (c3 : Nat), v = .slice p2 (r.1).length c2 ∧ St w0 w' (HP.ow rByte 5 p2 c2 r.1 :: HP.blk bo0 ([.slice p3 (r.2).length c3]) 124 :: HP.sl rByte p3 c3 r.2 :: l)) := by
 unfold penData at hm
 refine x_enter Tryd.func77 rfl rfl rfl ?_
 intro a F
 replace F : Fr ⟨8, []⟩ a [(0, .pointer (some ⟨bo0, 0, none⟩))] := F
 refine wp_seq ?_
 refine r_lit ?_
 refine s_val wkP F rfl rfl rfl rfl (y_assign F rfl rfl) ?_; clear F; intro a F
 refine wpList_nil ?_
 refine c_then ?_
 refine wp_seq ?_
 refine r_lit ?_
 refine s_val wkP F rfl rfl rfl rfl (y_move F rfl rfl) ?_; clear F; intro a F
 refine s_val wkP F rfl rfl rfl rfl (y_nilCheck F rfl rfl) ?_; clear F; intro a F
 refine s_val wkP F rfl rfl rfl rfl (y_fieldAddr F fld124_0 rfl rfl) ?_; clear F; intro a F
 refine s_val wkP F rfl rfl rfl rfl (y_load1 F plain33 rfl rfl (row_at (v := .slice p1 (p).length c1) ((H.blk 0 rfl).row) rfl)) ?_; clear F; intro a F
 replace H : St w0 w (HP.sl rByte p1 c1 p :: HP.blk bo0 ([.slice p1 (p).length c1]) 124 :: l) := H.frz 1 rfl
 obtain ⟨x4, ex4, hn⟩ := ob hm; clear hm; revert hn; intro hm
 refine s_call wkP F rfl rfl rfl rfl (y_call F rfl rfl ent42) (w_cloneB p p1 c1 w0 _ _  _ ex4 (H.cp 0 rfl pers_sl)) ?_; clear F H; rintro _ w a ⟨p5, c5, rfl, H⟩ F
 replace H : St w0 w (HP.ow rByte 5 p5 c5 x4 :: HP.sl rByte p1 c1 p :: HP.blk bo0 ([.slice p1 (p).length c1]) 124 :: l) := H
 refine s_val wkP F rfl rfl rfl rfl (y_assign F rfl rfl) ?_; clear F; intro a F
 refine wpList_nil ?_
 refine c_then ?_
 refine wp_ret ?_
 obtain rfl := Option.some.inj hm
 refine x_ret1 F rfl rfl ?_
 exact ⟨_, rfl, p5, c5, p1, c1, rfl, ((((H.cp 1 rfl pers_sl).mv 3 rfl).mv 2 rfl).keep 3 1)⟩
set_option maxRecDepth 100000 in
set_option maxHeartbeats 4000000 in
theorem w_newEye (data : List UInt8) (p1 : Option Addr) (c1 : Nat) (w0 w : World) (l : List HP)  (r : (List UInt8)) (hm : newEye data = some r) (H : St w0 w (HP.sl rByte p1 c1 data :: l)) :
  Calls Tryd.prog 57 [.slice p1 (data).length c1].toArray w (fun e w' => ∃ v, e = .returned v ∧ ∃ (b2 : Nat) (p3 : Option Addr) (c3 : Nat), v = .pointer (some ⟨b2, 0, none⟩) ∧ St w0 w' (HP.blk b2 ([.slice p3 (r).length c3]) 133 :: HP.sl rByte p3 c3 r :: l)) := by
 unfold newEye at hm
 refine x_enter Tryd.func57 rfl rfl rfl ?_
 intro a F
 replace F : Fr ⟨7, []⟩ a [(0, .slice p1 (data).length c1)] := F
 refine wp_seq ?_
 refine r_lit ?_
 refine s_val wkP F rfl rfl rfl rfl (y_assign F rfl rfl) ?_; clear F; intro a F
 refine wpList_nil ?_
 refine c_then ?_
 refine wp_seq ?_
 refine r_lit ?_
 refine s_val wkP F rfl rfl rfl rfl (y_move F rfl rfl) ?_; clear F; intro a F
 obtain ⟨x4, ex4, hn⟩ := ob hm; clear hm; revert hn; intro hm
 refine s_call wkP F rfl rfl rfl rfl (y_call F rfl rfl ent42) (w_cloneB data p1 c1 w0 _ _  _ ex4 (H.cp 0 rfl pers_sl)) ?_; clear F H; rintro _ w a ⟨p5, c5, rfl, H⟩ F
 replace H : St w0 w (HP.ow rByte 5 p5 c5 x4 :: HP.sl rByte p1 c1 data :: l) := H
 refine s_val wkP F rfl rfl rfl rfl (y_build F rfl rfl (cs := [.slice p5 (x4).length c5]) (by kernel_rfl)) ?_; clear F; intro a F
 refine s_boxA wkP F rfl rfl rfl rfl rfl H ?_; clear F H; intro b6 w a H F
 replace H : St w0 w (HP.blk b6 ([.slice p5 (x4).length c5]) 133 :: HP.ow rByte 5 p5 c5 x4 :: HP.sl rByte p1 c1 data :: l) := H
 refine s_val wkP F rfl rfl rfl rfl (y_assign F rfl rfl) ?_; clear F; intro a F
 refine wpList_nil ?_
 refine c_then ?_
 refine wp_ret ?_
 replace H : St w0 w (HP.sl rByte p5 c5 x4 :: HP.blk b6 ([.slice p5 (x4).length c5]) 133 :: HP.sl rByte p1 c1 data :: l) := H.frz 1 rfl
 obtain rfl := Option.some.inj hm
 refine x_ret1 F rfl rfl ?_
 exact ⟨_, rfl, b6, p5, c5, rfl, (((H.cp 0 rfl pers_sl).mv 2 rfl).keep 2 2)⟩
theorem fld133_0 : FieldT Tryd.prog 133 0 0 := by unfold FieldT; rw [Tryd.underlying133]; kernel_rfl
set_option maxRecDepth 100000 in
set_option maxHeartbeats 4000000 in
theorem w_eyeRaw (e : (List UInt8)) (n : Int) (bo0 : Nat) (p1 : Option Addr) (c1 : Nat) (w0 w : World) (l : List HP)  (r : (List UInt8) × Int × (List UInt8)) (hm : eyeRaw e n = some r) (H : St w0 w (HP.blk bo0 ([.slice p1 (e).length c1]) 133 :: HP.sl rByte p1 c1 e :: l)) :
  Calls Tryd.prog 59 [.pointer (some ⟨bo0, 0, none⟩), .int .i64 (n)].toArray w (fun e w' => ∃ v, e = .returned v ∧ ∃ (p2 : Option Addr) (c2 : Nat) (p3 : Option Addr) (c3 : Nat), v = .tuple [.slice p2 (r.1).length c2, .int .i64 (r.2.1)].toArray ∧ St w0 w' (HP.ow rByte 5 p2 c2 r.1 :: HP.blk bo0 ([.slice p3 (r.2.2).length c3]) 133 :: HP.sl rByte p3 c3 r.2.2 :: l)) := by
 unfold eyeRaw at hm
 refine x_enter Tryd.func59 rfl rfl rfl ?_
 intro a F
 replace F : Fr ⟨35, []⟩ a [(0, .pointer (some ⟨bo0, 0, none⟩)), (1, .int .i64 (n))] := F
 refine wp_seq ?_
 refine r_lit ?_
 refine s_val wkP F rfl rfl rfl rfl (y_assign F rfl rfl) ?_; clear F; intro a F
 refine s_val wkP F rfl rfl rfl rfl (y_assign F rfl rfl) ?_; clear F; intro a F
 refine wpList_nil ?_
 refine c_then ?_
 refine wp_seq ?_
 refine wp_block ?_
 refine wp_seq ?_
 refine r_lit ?_
 refine s_val wkP F rfl rfl rfl rfl (y_move F rfl rfl) ?_; clear F; intro a F
 refine s_val wkP F rfl rfl rfl rfl (y_lss F rfl rfl rfl) ?_; clear F; intro a F
 refine s_val wkP F rfl rfl rfl rfl (y_assign F rfl rfl) ?_; clear F; intro a F
 refine wpList_nil ?_
 refine c_then ?_
 refine x_condP F rfl (fun hg4 => ?_) (fun hg4 => ?_)
 · replace hm := ifT hg4 hm
   refine wp_seq ?_
   refine r_lit ?_
   refine s_val wkP F rfl rfl rfl rfl (y_assign F rfl rfl) ?_; clear F; intro a F
   refine s_val wkP F rfl rfl rfl rfl (y_assign F rfl rfl) ?_; clear F; intro a F
   refine wpList_nil ?_
   refine c_then ?_
   refine wp_ret ?_
   refine c_blkR ?_
   refine c_thenR ?_
   replace H : St w0 w (HP.ow rByte 5 none 0 ([] : List UInt8) :: HP.blk bo0 ([.slice p1 (e).length c1]) 133 :: HP.sl rByte p1 c1 e :: l) := H.owNil rByte 5
   obtain rfl := Option.some.inj hm
   refine x_ret2 F rfl rfl rfl ?_
   exact ⟨_, rfl, none, 0, p1, c1, rfl, ((((H.cp 2 rfl pers_sl).mv 2 rfl).mv 2 rfl).keep 3 1)⟩
 · replace hm := ifF hg4 hm
   refine wp_seq ?_
   refine r_lit ?_
   refine s_val wkP F rfl rfl rfl rfl (y_move F rfl rfl) ?_; clear F; intro a F
   refine s_val wkP F rfl rfl rfl rfl (y_move F rfl rfl) ?_; clear F; intro a F
   refine s_val wkP F rfl rfl rfl rfl (y_nilCheck F rfl rfl) ?_; clear F; intro a F
   refine s_val wkP F rfl rfl rfl rfl (y_fieldAddr F fld133_0 rfl rfl) ?_; clear F; intro a F
   refine s_val wkP F rfl rfl rfl rfl (y_load1 F plain33 rfl rfl (row_at (v := .slice p1 (e).length c1) ((H.blk 0 rfl).row) rfl)) ?_; clear F; intro a F
   refine s_val wkP F rfl rfl rfl rfl (y_lenS F rfl Tryd.underlying33 rfl) ?_; clear F; intro a F
   refine s_val wkP F rfl rfl rfl rfl (y_gtr F rfl rfl rfl) ?_; clear F; intro a F
   refine s_val wkP F rfl rfl rfl rfl (y_assign F rfl rfl) ?_; clear F; intro a F
   refine wpList_nil ?_
   refine c_then ?_
   refine x_condP F rfl (fun hg5 => ?_) (fun hg5 => ?_)
   · replace hm := ifT hg5 hm
     refine wp_seq ?_
     refine r_lit ?_
     refine s_val wkP F rfl rfl rfl rfl (y_assign F rfl rfl) ?_; clear F; intro a F
     refine s_val wkP F rfl rfl rfl rfl (y_assign F rfl rfl) ?_; clear F; intro a F
     refine wpList_nil ?_
     refine c_then ?_
     refine wp_ret ?_
     refine c_blkR ?_
     refine c_thenR ?_
     replace H : St w0 w (HP.ow rByte 5 none 0 ([] : List UInt8) :: HP.blk bo0 ([.slice p1 (e).length c1]) 133 :: HP.sl rByte p1 c1 e :: l) := H.owNil rByte 5
     obtain rfl := Option.some.inj hm
     refine x_ret2 F rfl rfl rfl ?_
     exact ⟨_, rfl, none, 0, p1, c1, rfl, ((((H.cp 2 rfl pers_sl).mv 2 rfl).mv 2 rfl).keep 3 1)⟩
   · replace hm := ifF hg5 hm
     refine wp_skip ?_
     refine c_blkN ?_
     refine c_then ?_
     refine wp_seq ?_
     refine r_lit ?_
     refine s_val wkP F rfl rfl rfl rfl (y_move F rfl rfl) ?_; clear F; intro a F
     refine s_val wkP F rfl rfl rfl rfl (y_nilCheck F rfl rfl) ?_; clear F; intro a F
     refine s_val wkP F rfl rfl rfl rfl (y_fieldAddr F fld133_0 rfl rfl) ?_; clear F; intro a F
     refine s_val wkP F rfl rfl rfl rfl (y_load1 F plain33 rfl rfl (row_at (v := .slice p1 (e).length c1) ((H.blk 0 rfl).row) rfl)) ?_; clear F; intro a F
     refine s_val wkP F rfl rfl rfl rfl (y_move F rfl rfl) ?_; clear F; intro a F
     obtain ⟨x7, ex7, hn⟩ := ob hm; clear hm; revert hn; intro hm
     have hc6 := H.slCap 1 rfl
     replace H : St w0 w (HP.sl rByte (shp p1 c1 0 1) (c1 - 0) x7 :: HP.blk bo0 ([.slice p1 (e).length c1]) 133 :: HP.sl rByte p1 c1 e :: l) := H.slSub 1 rfl ex7
     refine s_val wkP F rfl rfl rfl rfl (y_slH F elem33 rfl rfl rfl ex7 hc6) ?_; clear F; intro a F
     obtain ⟨x8, ex8, hn⟩ := ob hm; clear hm; revert hn; intro hm
     refine s_call wkP F rfl rfl rfl rfl (y_call F rfl rfl ent42) (w_cloneB x7 (shp p1 c1 0 1) (c1 - 0) w0 _ _  _ ex8 (H.cp 0 rfl pers_sl)) ?_; clear F H; rintro _ w a ⟨p9, c9, rfl, H⟩ F
     replace H : St w0 w (HP.ow rByte 5 p9 c9 x8 :: HP.sl rByte (shp p1 c1 0 1) (c1 - 0) x7 :: HP.blk bo0 ([.slice p1 (e).length c1]) 133 :: HP.sl rByte p1 c1 e :: l) := H
     refine s_val wkP F rfl rfl rfl rfl (y_assign F rfl rfl) ?_; clear F; intro a F
     refine wpList_nil ?_
     refine c_then ?_
     refine wp_seq ?_
     refine r_lit ?_
     refine s_val wkP F rfl rfl rfl rfl (y_move F rfl rfl) ?_; clear F; intro a F
     refine s_val wkP F rfl rfl rfl rfl (y_move F rfl rfl) ?_; clear F; intro a F
     refine s_val wkP F rfl rfl rfl rfl (y_nilCheck F rfl rfl) ?_; clear F; intro a F
     refine s_val wkP F rfl rfl rfl rfl (y_fieldAddr F fld133_0 rfl rfl) ?_; clear F; intro a F
     refine s_val wkP F rfl rfl rfl rfl (y_load1 F plain33 rfl rfl (row_at (v := .slice p1 (e).length c1) ((H.blk 2 rfl).row) rfl)) ?_; clear F; intro a F
     refine s_val wkP F rfl rfl rfl rfl (y_move F rfl rfl) ?_; clear F; intro a F
     obtain ⟨x11, ex11, hn⟩ := ob hm; clear hm; revert hn; intro hm
     have hc10 := H.slCap 3 rfl
     replace H : St w0 w (HP.sl rByte (shp p1 c1 (n : Int).toNat 1) (c1 - (n : Int).toNat) x11 :: HP.ow rByte 5 p9 c9 x8 :: HP.sl rByte (shp p1 c1 0 1) (c1 - 0) x7 :: HP.blk bo0 ([.slice p1 (e).length c1]) 133 :: HP.sl rByte p1 c1 e :: l) := H.slSub 3 rfl ex11
     refine s_val wkP F rfl rfl rfl rfl (y_slL F elem33 rfl rfl rfl ex11 hc10) ?_; clear F; intro a F
     refine s_val wkP F rfl rfl rfl rfl (y_nilCheck F rfl rfl) ?_; clear F; intro a F
     refine s_val wkP F rfl rfl rfl rfl (y_fieldAddr F fld133_0 rfl rfl) ?_; clear F; intro a F
     refine s_store1 wkP F rfl rfl zero33 rfl rfl rfl rfl rfl H 3 rfl (by simp [icells_length, bcells_length]) ?_; clear H; intro w H
     replace H : St w0 w (HP.sl rByte (shp p1 c1 (n : Int).toNat 1) (c1 - (n : Int).toNat) x11 :: HP.ow rByte 5 p9 c9 x8 :: HP.sl rByte (shp p1 c1 0 1) (c1 - 0) x7 :: HP.blk bo0 ([.slice (shp p1 c1 (n : Int).toNat 1) (x11).length (c1 - (n : Int).toNat)]) 133 :: HP.sl rByte p1 c1 e :: l) := H
     refine wpList_nil ?_
     refine c_then ?_
     refine wp_seq ?_
     refine r_lit ?_
     refine s_val wkP F rfl rfl rfl rfl (y_move F rfl rfl) ?_; clear F; intro a F
     refine s_val wkP F rfl rfl rfl rfl (y_assign F rfl rfl) ?_; clear F; intro a F
     refine s_val wkP F rfl rfl rfl rfl (y_assign F rfl rfl) ?_; clear F; intro a F
     refine wpList_nil ?_
     refine c_then ?_
     refine wp_ret ?_
     obtain rfl := Option.some.inj hm
     refine x_ret2 F rfl rfl rfl ?_
     exact ⟨_, rfl, p9, c9, (shp p1 c1 (n : Int).toNat 1), (c1 - (n : Int).toNat), rfl, ((((H.cp 0 rfl pers_sl).mv 4 rfl).mv 3 rfl).keep 3 3)⟩
theorem ent59 : ∀ args w, (callFunc 59 args).run Tryd.prog w = .ok (.enter 59 args) w := enters Tryd.func59 (by kernel_rfl) rfl
set_option maxRecDepth 100000 in
set_option maxHeartbeats 4000000 in
theorem w_eyeUint (e : (List UInt8)) (size : Int) (bo0 : Nat) (p1 : Option Addr) (c1 : Nat) (w0 w : World) (l : List HP)  (r : Int × Int × (List UInt8)) (hm : eyeUint e size = some r) (H : St w0 w (HP.blk bo0 ([.slice p1 (e).length c1]) 133 :: HP.sl rByte p1 c1 e :: l)) :
  Calls Tryd.prog 58 [.pointer (some ⟨bo0, 0, none⟩), .int .i64 (size)].toArray w (fun e w' => ∃ v, e = .returned v ∧ ∃ (p2 : Option Addr) (c2 : Nat), v = .tuple [.int .u64 (r.1), .int .i64 (r.2.1)].toArray ∧ St w0 w' (HP.blk bo0 ([.slice p2 (r.2.2).length c2]) 133 :: HP.sl rByte p2 c2 r.2.2 :: l)) := by
 unfold eyeUint at hm
 refine x_enter Tryd.func58 rfl rfl rfl ?_
 intro a F
 replace F : Fr ⟨35, []⟩ a [(0, .pointer (some ⟨bo0, 0, none⟩)), (1, .int .i64 (size))] := F
 refine wp_seq ?_
 refine r_lit ?_
 refine s_val wkP F rfl rfl rfl rfl (y_assign F rfl rfl) ?_; clear F; intro a F
 refine s_val wkP F rfl rfl rfl rfl (y_assign F rfl rfl) ?_; clear F; intro a F
 refine wpList_nil ?_
 refine c_then ?_
 refine wp_seq ?_
 refine wp_seq ?_
 refine r_lit ?_
 refine s_val wkP F rfl rfl rfl rfl (y_move F rfl rfl) ?_; clear F; intro a F
 refine s_val wkP F rfl rfl rfl rfl (y_lss F rfl rfl rfl) ?_; clear F; intro a F
 refine s_val wkP F rfl rfl rfl rfl (y_move F rfl rfl) ?_; clear F; intro a F
 by_cases hg3 : size < 1
 · replace hm := ifT hg3 hm
   replace F := F.bool (k := 11) (u := .bool true) rfl (congrArg (fun b => Value.bool b) (decide_eq_true hg3))
   refine g_off wkP F rfl rfl rfl rfl rfl rfl rfl ?_; clear F; intro a F
   refine g_off wkP F rfl rfl rfl rfl rfl rfl rfl ?_; clear F; intro a F
   refine s_val wkP F rfl rfl rfl rfl (y_pickT F rfl rfl rfl) ?_; clear F; intro a F
   refine wpList_nil ?_
   refine c_then ?_
   refine x_condT F rfl ?_
   refine wp_seq ?_
   refine r_lit ?_
   refine s_val wkP F rfl rfl rfl rfl (y_assign F rfl rfl) ?_; clear F; intro a F
   refine s_val wkP F rfl rfl rfl rfl (y_assign F rfl rfl) ?_; clear F; intro a F
   refine wpList_nil ?_
   refine c_then ?_
   refine wp_ret ?_
   refine c_thenR ?_
   obtain rfl := Option.some.inj hm
   refine x_ret2 F rfl rfl rfl ?_
   exact ⟨_, rfl, p1, c1, rfl, (((H.cp 1 rfl pers_sl).mv 1 rfl).keep 2 1)⟩
 · replace hm := ifF hg3 hm
   replace F := F.bool (k := 11) (u := .bool false) rfl (congrArg (fun b => Value.bool b) (decide_eq_false hg3))
   refine g_onP F rfl rfl rfl rfl ?_
   refine s_val wkP F rfl rfl rfl rfl (y_move F rfl rfl) ?_; clear F; intro a F
   refine g_onP F rfl rfl rfl rfl ?_
   refine s_val wkP F rfl rfl rfl rfl (y_gtr F rfl rfl rfl) ?_; clear F; intro a F
   refine s_val wkP F rfl rfl rfl rfl (y_pickF F rfl rfl rfl) ?_; clear F; intro a F
   refine wpList_nil ?_
   refine c_then ?_
   refine x_condP F rfl (fun hg4 => ?_) (fun hg4 => ?_)
   · replace hm := ifT hg4 hm
     refine wp_seq ?_
     refine r_lit ?_
     refine s_val wkP F rfl rfl rfl rfl (y_assign F rfl rfl) ?_; clear F; intro a F
     refine s_val wkP F rfl rfl rfl rfl (y_assign F rfl rfl) ?_; clear F; intro a F
     refine wpList_nil ?_
     refine c_then ?_
     refine wp_ret ?_
     refine c_thenR ?_
     obtain rfl := Option.some.inj hm
     refine x_ret2 F rfl rfl rfl ?_
     exact ⟨_, rfl, p1, c1, rfl, (((H.cp 1 rfl pers_sl).mv 1 rfl).keep 2 1)⟩
   · replace hm := ifF hg4 hm
     refine wp_skip ?_
     refine c_then ?_
     refine wp_seq ?_
     refine r_lit ?_
     refine s_val wkP F rfl rfl rfl rfl (y_move F rfl rfl) ?_; clear F; intro a F
     refine s_val wkP F rfl rfl rfl rfl (y_move F rfl rfl) ?_; clear F; intro a F
     obtain ⟨x5, ex5, hn⟩ := ob hm; clear hm; revert hn; intro hm
     refine s_call wkP F rfl rfl rfl rfl (y_call F rfl rfl ent59) (w_eyeRaw e size bo0 p1 c1 w0 _ _  _ ex5 ((H.cp 1 rfl pers_sl).mv 1 rfl)) ?_; clear F H; rintro _ w a ⟨p6, c6, p7, c7, rfl, H⟩ F
     replace H : St w0 w (HP.ow rByte 5 p6 c6 x5.1 :: HP.blk bo0 ([.slice p7 (x5.2.2).length c7]) 133 :: HP.sl rByte p7 c7 x5.2.2 :: HP.sl rByte p1 c1 e :: l) := H
     refine s_val wkP F rfl rfl rfl rfl (y_move F rfl rfl) ?_; clear F; intro a F
     refine s_val wkP F rfl rfl rfl rfl (y_extract F rfl rfl rfl) ?_; clear F; intro a F
     refine s_val wkP F rfl rfl rfl rfl (y_extract F rfl rfl rfl) ?_; clear F; intro a F
     refine s_val wkP F rfl rfl rfl rfl (y_assign F rfl rfl) ?_; clear F; intro a F
     refine s_val wkP F rfl rfl rfl rfl (y_assign F rfl rfl) ?_; clear F; intro a F
     refine wpList_nil ?_
     refine c_then ?_
     refine wp_seq ?_
     refine wp_seq ?_
     refine r_lit ?_
     refine s_val wkP F rfl rfl rfl rfl (y_move F rfl rfl) ?_; clear F; intro a F
     refine s_val wkP F rfl rfl rfl rfl (y_lenS F rfl Tryd.underlying33 rfl) ?_; clear F; intro a F
     refine s_val wkP F rfl rfl rfl rfl (y_move F rfl rfl) ?_; clear F; intro a F
     refine wpList_nil ?_
     refine c_then ?_
     obtain ⟨r21, er21, hm21⟩ := ob hm; clear hm; revert er21; intro hm
     refine x_mid (fun aa ww => Fr ⟨35, []⟩ aa [(4, .int .u64 (r21)), (5, .int .i64 (x5.2.1))] ∧ St w0 ww (HP.ow rByte 5 p6 c6 x5.1 :: HP.blk bo0 ([.slice p7 (x5.2.2).length c7]) 133 :: HP.sl rByte p7 c7 x5.2.2 :: l)) ?_ ?_
     · skip
       refine wp_block ?_
       refine x_loopO _ (fun (s30 : Int × Int) aa ww => Fr ⟨35, []⟩ aa [(4, .int .u64 (s30.1)), (5, .int .i64 (x5.2.1)), (21, .slice p6 (x5.1).length c6), (22, .int .i64 (((x5.1).length : Int))), (23, .int .i64 (s30.2))] ∧ St w0 ww (HP.ow rByte 5 p6 c6 x5.1 :: HP.blk bo0 ([.slice p7 (x5.2.2).length c7]) 133 :: HP.sl rByte p7 c7 x5.2.2 :: l)) hm ⟨F.cut _ ⟨rfl, rfl, rfl, rfl, rfl, trivial⟩, ((((H.cp 2 rfl pers_sl).mv 2 rfl).mv 2 rfl).keep 3 2)⟩ ?_
       clear F H hm
       rintro s30 a w o ⟨F, H⟩ hm
       refine wp_seq ?_
       refine r_lit ?_
       refine s_val wkP F rfl rfl rfl rfl (y_lss F rfl rfl rfl) ?_; clear F; intro a F
       refine wpList_nil ?_
       refine c_then ?_
       refine wp_seq ?_
       refine x_condP F rfl (fun hg31 => ?_) (fun hg31 => ?_)
       · replace hm := ifT hg31 hm
         refine wp_skip ?_
         refine c_then ?_
         refine wp_seq ?_
         refine wp_block ?_
         refine wp_seq ?_
         refine r_lit ?_
         obtain ⟨x32, ex32, hn⟩ := ob hm; clear hm; revert hn; intro hm
         obtain ⟨b33, hp33⟩ := H.owP 0 rfl (idxO_some ex32).2
         refine s_val wkP F rfl rfl rfl rfl (y_idxS F elem33 rfl rfl rfl hp33 ex32) ?_; clear F; intro a F
         refine s_val wkP F rfl rfl rfl rfl (y_load1 F plain5 rfl rfl (H.owB 0 rfl hp33 ex32)) ?_; clear F; intro a F
         refine s_val wkP F rfl rfl rfl rfl (y_assign F rfl rfl) ?_; clear F; intro a F
         refine wpList_nil ?_
         refine c_then ?_
         refine r_lit ?_
         refine s_val wkP F rfl rfl rfl rfl (y_move F rfl rfl) ?_; clear F; intro a F
         refine s_val wkP F rfl rfl rfl rfl (i_shl F rfl rfl rfl (by decide)) ?_; clear F; intro a F
         refine s_val wkP F rfl rfl rfl rfl (y_move F rfl rfl) ?_; clear F; intro a F
         refine s_val wkP F rfl rfl rfl rfl (i_conv F Tryd.underlying5 Tryd.underlying115 rfl rfl) ?_; clear F; intro a F
         refine s_val wkP F rfl rfl rfl rfl (i_or F rfl rfl rfl) ?_; clear F; intro a F
         refine s_val wkP F rfl rfl rfl rfl (y_assign F rfl rfl) ?_; clear F; intro a F
         refine wpList_nil ?_
         refine c_blkN ?_
         refine c_then ?_
         refine r_lit ?_
         refine s_val wkP F rfl rfl rfl rfl (i_add F rfl rfl rfl) ?_; clear F; intro a F
         refine s_val wkP F rfl rfl rfl rfl (y_move F rfl rfl) ?_; clear F; intro a F
         refine wpList_nil ?_
         refine c_then ?_; obtain rfl := Option.some.inj hm
         exact ⟨_, rfl, ⟨F.cut _ ⟨rfl, rfl, rfl, rfl, rfl, trivial⟩, ((((H.cp 2 rfl pers_sl).mv 2 rfl).mv 2 rfl).keep 3 1)⟩⟩
       · replace hm := ifF hg31 hm
         refine wp_exit ?_
         refine c_thenX ?_
         refine c_thenX ?_; obtain rfl := Option.some.inj hm; refine ⟨_, rfl, ?_⟩; rintro rfl
         refine c_hit ?_
         refine c_then ?_
         exact ⟨F.cut _ ⟨rfl, rfl, trivial⟩, ((((H.cp 2 rfl pers_sl).mv 2 rfl).mv 2 rfl).keep 3 1)⟩
     · skip
       clear F H hm
       rintro a w ⟨F, H⟩; have hm := hm21; clear hm21
       refine c_then ?_
       refine wp_seq ?_
       refine r_lit ?_
       refine s_val wkP F rfl rfl rfl rfl (y_move F rfl rfl) ?_; clear F; intro a F
       refine s_val wkP F rfl rfl rfl rfl (y_move F rfl rfl) ?_; clear F; intro a F
       refine s_val wkP F rfl rfl rfl rfl (y_assign F rfl rfl) ?_; clear F; intro a F
       refine s_val wkP F rfl rfl rfl rfl (y_assign F rfl rfl) ?_; clear F; intro a F
       refine wpList_nil ?_
       refine c_then ?_
       refine wp_ret ?_
       obtain rfl := Option.some.inj hm
       refine x_ret2 F rfl rfl rfl ?_
       exact ⟨_, rfl, p7, c7, rfl, (((H.cp 2 rfl pers_sl).mv 2 rfl).keep 2 2)⟩
theorem ent77 : ∀ args w, (callFunc 77 args).run Tryd.prog w = .ok (.enter 77 args) w := enters Tryd.func77 (by kernel_rfl) rfl
set_option maxRecDepth 100000 in
set_option maxHeartbeats 4000000 in
theorem w_secFull (p : (List UInt8)) (bo0 : Nat) (p1 : Option Addr) (c1 : Nat) (w0 w : World) (l : List HP)  (r : (List UInt8) × (List UInt8)) (hm : secFull p = some r) (H : St w0 w (HP.blk bo0 ([.slice p1 (p).length c1]) 124 :: HP.ow rByte 5 p1 c1 p :: l)) :
  Calls Tryd.prog 66 [.pointer (some ⟨bo0, 0, none⟩)].toArray w (fun e w' => ∃ v, e = .returned v ∧ ∃ (p2 : Option Addr) (c2 : Nat) (p3 : Option Addr) (c3 : Nat), v = .slice p2 (r.1).length c2 ∧ St w0 w' (HP.ow rByte 5 p2 c2 r.1 :: HP.blk bo0 ([.slice p3 (r.2).length c3]) 124 :: HP.sl rByte p3 c3 r.2 :: l)) := by
 unfold secFull at hm
 refine x_enter Tryd.func66 rfl rfl rfl ?_
 intro a F
 replace F : Fr ⟨11, []⟩ a [(0, .pointer (some ⟨bo0, 0, none⟩))] := F
 refine wp_seq ?_
 refine r_lit ?_
 refine s_val wkP F rfl rfl rfl rfl (y_assign F rfl rfl) ?_; clear F; intro a F
 refine wpList_nil ?_
 refine c_then ?_
 refine wp_seq ?_
 refine r_lit ?_
 refine s_val wkP F rfl rfl rfl rfl (y_move F rfl rfl) ?_; clear F; intro a F
 obtain ⟨x4, ex4, hn⟩ := ob hm; clear hm; revert hn; intro hm
 refine s_call wkP F rfl rfl rfl rfl (y_call F rfl rfl ent77) (w_penData p bo0 p1 c1 w0 _ _  _ ex4 ((H.mv 1 rfl).mv 1 rfl)) ?_; clear F H; rintro _ w a ⟨p5, c5, p6, c6, rfl, H⟩ F
 replace H : St w0 w (HP.ow rByte 5 p5 c5 x4.1 :: HP.blk bo0 ([.slice p6 (x4.2).length c6]) 124 :: HP.sl rByte p6 c6 x4.2 :: l) := H
 refine s_val wkP F rfl rfl rfl rfl (y_assign F rfl rfl) ?_; clear F; intro a F
 refine wpList_nil ?_
 refine c_then ?_
 refine wp_seq ?_
 refine r_lit ?_
 refine s_val wkP F rfl rfl rfl rfl (y_move F rfl rfl) ?_; clear F; intro a F
 refine s_val wkP F rfl rfl rfl rfl (y_move F rfl rfl) ?_; clear F; intro a F
 refine s_val wkP F rfl rfl rfl rfl (y_lenS F rfl Tryd.underlying33 rfl) ?_; clear F; intro a F
 refine s_val wkP F rfl rfl rfl rfl (i_sub F rfl rfl rfl) ?_; clear F; intro a F
 obtain ⟨x8, ex8, hn⟩ := ob hm; clear hm; revert hn; intro hm
 refine s_appMk (R := rByte) wkP F rfl rfl rfl rfl rfl rfl elem33 rfl rfl rfl Tryd.underlying3 rfl (z' := (0 : UInt8)) (fun _ => rfl) ex8 H 0 rfl ?_; clear F H; intro p7 c7 w a H F
 replace H : St w0 w (HP.ow rByte 5 p7 c7 x8 :: HP.blk bo0 ([.slice p6 (x4.2).length c6]) 124 :: HP.sl rByte p6 c6 x4.2 :: l) := H
 refine s_val wkP F rfl rfl rfl rfl (y_assign F rfl rfl) ?_; clear F; intro a F
 refine wpList_nil ?_
 refine c_then ?_
 refine wp_ret ?_
 obtain rfl := Option.some.inj hm
 refine x_ret1 F rfl rfl ?_
 exact ⟨_, rfl, p7, c7, p6, c6, rfl, ((((H.cp 2 rfl pers_sl).mv 2 rfl).mv 2 rfl).keep 3 1)⟩
theorem ent64 : ∀ args w, (callFunc 64 args).run Tryd.prog w = .ok (.enter 64 args) w := enters Tryd.func64 (by kernel_rfl) rfl
theorem ent65 : ∀ args w, (callFunc 65 args).run Tryd.prog w = .ok (.enter 65 args) w := enters Tryd.func65 (by kernel_rfl) rfl
theorem ent66 : ∀ args w, (callFunc 66 args).run Tryd.prog w = .ok (.enter 66 args) w := enters Tryd.func66 (by kernel_rfl) rfl
set_option maxRecDepth 100000 in
set_option maxHeartbeats 4000000 in
theorem w_wrap (block : List UInt8) (p1 : Option Addr) (c1 : Nat) (w0 w : World) (l : List HP)  (r : (List UInt8) × Int) (hm : wrap block = some r) (H : St w0 w (HP.sl rByte p1 c1 block :: l)) :
  Calls Tryd.prog 36 [.slice p1 (block).length c1].toArray w (fun e w' => ∃ v, e = .returned v ∧ ∃ (p2 : Option Addr) (c2 : Nat), v = .tuple [.slice p2 (r.1).length c2, .int .i64 (r.2)].toArray ∧ St w0 w' (HP.ow rByte 5 p2 c2 r.1 :: l)) := by
 unfold wrap at hm
 refine x_enter Tryd.func36 rfl rfl rfl ?_
 intro a F
 replace F : Fr ⟨23, []⟩ a [(0, .slice p1 (block).length c1)] := F
 refine wp_seq ?_
 refine r_lit ?_
 refine s_val wkP F rfl rfl rfl rfl (y_assign F rfl rfl) ?_; clear F; intro a F
 refine s_val wkP F rfl rfl rfl rfl (y_assign F rfl rfl) ?_; clear F; intro a F
 refine wpList_nil ?_
 refine c_then ?_
 refine wp_seq ?_
 refine wp_seq ?_
 refine r_lit ?_
 refine s_val wkP F rfl rfl rfl rfl (y_move F rfl rfl) ?_; clear F; intro a F
 refine s_val wkP F rfl rfl rfl rfl (y_lenS F rfl Tryd.underlying33 rfl) ?_; clear F; intro a F
 refine s_val wkP F rfl rfl rfl rfl (y_gtr F rfl rfl rfl) ?_; clear F; intro a F
 refine wpList_nil ?_
 refine c_then ?_
 refine x_condP F rfl (fun hg3 => ?_) (fun hg3 => ?_)
 · replace hm := ifT hg3 hm
   refine wp_seq ?_
   refine r_lit ?_
   refine s_val wkP F rfl rfl rfl rfl (y_assign F rfl rfl) ?_; clear F; intro a F
   refine s_val wkP F rfl rfl rfl rfl (y_assign F rfl rfl) ?_; clear F; intro a F
   refine wpList_nil ?_
   refine c_then ?_
   refine wp_ret ?_
   refine c_thenR ?_
   replace H : St w0 w (HP.ow rByte 5 none 0 ([] : List UInt8) :: HP.sl rByte p1 c1 block :: l) := H.owNil rByte 5
   obtain rfl := Option.some.inj hm
   refine x_ret2 F rfl rfl rfl ?_
   exact ⟨_, rfl, none, 0, rfl, ((H.mv 0 rfl).keep 1 1)⟩
 · replace hm := ifF hg3 hm
   refine wp_skip ?_
   refine c_then ?_
   refine wp_seq ?_
   refine r_lit ?_
   replace H : St w0 w (HP.ow rByte 5 none 0 ([] : List UInt8) :: HP.sl rByte p1 c1 block :: l) := H.owNil rByte 5
   refine s_val wkP F rfl rfl rfl rfl (y_build F rfl rfl (cs := [.slice none (([] : List UInt8)).length 0]) (by kernel_rfl)) ?_; clear F; intro a F
   refine s_boxA wkP F rfl rfl rfl rfl rfl H ?_; clear F H; intro b4 w a H F
   replace H : St w0 w (HP.blk b4 ([.slice none (([] : List UInt8)).length 0]) 124 :: HP.ow rByte 5 none 0 ([] : List UInt8) :: HP.sl rByte p1 c1 block :: l) := H
   refine s_val wkP F rfl rfl rfl rfl (y_assign F rfl rfl) ?_; clear F; intro a F
   refine wpList_nil ?_
   refine c_then ?_
   refine wp_seq ?_
   refine r_lit ?_
   refine s_val wkP F rfl rfl rfl rfl (y_move F rfl rfl) ?_; clear F; intro a F
   obtain ⟨x6, ex6, hn⟩ := ob hm; clear hm; revert hn; intro hm
   refine s_buildC wkP F rfl rfl rfl elem33 zero5 rfl rfl rfl rfl (by simp [Value.cells]) (by decide) H ?_; clear F H; intro b5 w a H F
   replace H : St w0 w (HP.blk b5 ([.int .u8 (66)]) 5 :: HP.blk b4 ([.slice none (([] : List UInt8)).length 0]) 124 :: HP.ow rByte 5 none 0 ([] : List UInt8) :: HP.sl rByte p1 c1 block :: l) := H
   replace H : St w0 w (HP.ow rByte 5 (some ⟨b5, 0, none⟩) (([x6]).length) ([x6]) :: HP.blk b4 ([.slice none (([] : List UInt8)).length 0]) 124 :: HP.ow rByte 5 none 0 ([] : List UInt8) :: HP.sl rByte p1 c1 block :: l) := H.blkOw (R := rByte) 0 rfl (fun gg => ⟨[[.int .u8 (66)]], rfl, (congrArg (fun z => [Value.int .u8 z]) (u8O_some ex6).symm), trivial⟩) (by simp)
   replace H : St w0 w (HP.sl rByte (some ⟨b5, 0, none⟩) (([x6]).length) ([x6]) :: HP.blk b4 ([.slice none (([] : List UInt8)).length 0]) 124 :: HP.ow rByte 5 none 0 ([] : List UInt8) :: HP.sl rByte p1 c1 block :: l) := H.frz 0 rfl
   obtain ⟨x7, ex7, hn⟩ := ob hm; clear hm; revert hn; intro hm
   refine s_call wkP F rfl rfl rfl rfl (y_call F rfl rfl ent64) (w_penRaw ([] : List UInt8) ([x6]) b4 none 0 (some ⟨b5, 0, none⟩) (([x6]).length) w0 _ _  _ ex7 (((H.cp 0 rfl pers_sl).mv 3 rfl).mv 3 rfl)) ?_; clear F H; rintro _ w a ⟨p8, c8, rfl, H⟩ F
   replace H : St w0 w (HP.blk b4 ([.slice p8 (x7).length c8]) 124 :: HP.ow rByte 5 p8 c8 x7 :: HP.sl rByte (some ⟨b5, 0, none⟩) (([x6]).length) ([x6]) :: HP.sl rByte p1 c1 block :: l) := H
   refine wpList_nil ?_
   refine c_then ?_
   refine wp_seq ?_
   refine r_lit ?_
   refine s_val wkP F rfl rfl rfl rfl (y_move F rfl rfl) ?_; clear F; intro a F
   refine s_val wkP F rfl rfl rfl rfl (y_move F rfl rfl) ?_; clear F; intro a F
   refine s_val wkP F rfl rfl rfl rfl (y_lenS F rfl Tryd.underlying33 rfl) ?_; clear F; intro a F
   refine s_val wkP F rfl rfl rfl rfl (i_conv F Tryd.underlying3 Tryd.underlying115 rfl rfl) ?_; clear F; intro a F
   obtain ⟨x9, ex9, hn⟩ := ob hm; clear hm; revert hn; intro hm
   refine s_call wkP F rfl rfl rfl rfl (y_call F rfl rfl ent65) (w_penUint x7 (IntKind.u64.wrap (((block).length : Int))) 2 b4 p8 c8 w0 _ _  _ ex9 ((H.mv 1 rfl).mv 1 rfl)) ?_; clear F H; rintro _ w a ⟨p10, c10, rfl, H⟩ F
   replace H : St w0 w (HP.blk b4 ([.slice p10 (x9.2).length c10]) 124 :: HP.ow rByte 5 p10 c10 x9.2 :: HP.sl rByte (some ⟨b5, 0, none⟩) (([x6]).length) ([x6]) :: HP.sl rByte p1 c1 block :: l) := H
   refine wpList_nil ?_
   refine c_then ?_
   refine wp_seq ?_
   refine r_lit ?_
   refine s_val wkP F rfl rfl rfl rfl (y_move F rfl rfl) ?_; clear F; intro a F
   refine s_val wkP F rfl rfl rfl rfl (y_move F rfl rfl) ?_; clear F; intro a F
   obtain ⟨x11, ex11, hn⟩ := ob hm; clear hm; revert hn; intro hm
   refine s_call wkP F rfl rfl rfl rfl (y_call F rfl rfl ent64) (w_penRaw x9.2 block b4 p10 c10 p1 c1 w0 _ _  _ ex11 (((H.cp 3 rfl pers_sl).mv 2 rfl).mv 2 rfl)) ?_; clear F H; rintro _ w a ⟨p12, c12, rfl, H⟩ F
   replace H : St w0 w (HP.blk b4 ([.slice p12 (x11).length c12]) 124 :: HP.ow rByte 5 p12 c12 x11 :: HP.sl rByte (some ⟨b5, 0, none⟩) (([x6]).length) ([x6]) :: HP.sl rByte p1 c1 block :: l) := H
   refine wpList_nil ?_
   refine c_then ?_
   refine wp_seq ?_
   refine r_lit ?_
   refine s_val wkP F rfl rfl rfl rfl (y_move F rfl rfl) ?_; clear F; intro a F
   obtain ⟨x13, ex13, hn⟩ := ob hm; clear hm; revert hn; intro hm
   refine s_call wkP F rfl rfl rfl rfl (y_call F rfl rfl ent66) (w_secFull x11 b4 p12 c12 w0 _ _  _ ex13 ((H.mv 1 rfl).mv 1 rfl)) ?_; clear F H; rintro _ w a ⟨p14, c14, p15, c15, rfl, H⟩ F
   replace H : St w0 w (HP.ow rByte 5 p14 c14 x13.1 :: HP.blk b4 ([.slice p15 (x13.2).length c15]) 124 :: HP.sl rByte p15 c15 x13.2 :: HP.sl rByte (some ⟨b5, 0, none⟩) (([x6]).length) ([x6]) :: HP.sl rByte p1 c1 block :: l) := H
   refine s_val wkP F rfl rfl rfl rfl (y_assign F rfl rfl) ?_; clear F; intro a F
   refine s_val wkP F rfl rfl rfl rfl (y_assign F rfl rfl) ?_; clear F; intro a F
   refine wpList_nil ?_
   refine c_then ?_
   refine wp_ret ?_
   obtain rfl := Option.some.inj hm
   refine x_ret2 F rfl rfl rfl ?_
   exact ⟨_, rfl, p14, c14, rfl, ((H.mv 0 rfl).keep 1 4)⟩
set_option maxRecDepth 100000 in
set_option maxHeartbeats 4000000 in
theorem w_equalB (x : List UInt8) (y : List UInt8) (p1 : Option Addr) (c1 : Nat) (p2 : Option Addr) (c2 : Nat) (w0 w : World) (l : List HP)  (r : Bool) (hm : equalB x y = some r) (H : St w0 w (HP.sl rByte p1 c1 x :: HP.sl rByte p2 c2 y :: l)) :
  Calls Tryd.prog 60 [.slice p1 (x).length c1, .slice p2 (y).length c2].toArray w (fun e w' => ∃ v, e = .returned v ∧ v = .bool (r) ∧ St w0 w' (l)) := by
 unfold equalB at hm
 refine x_enter Tryd.func60 rfl rfl rfl ?_
 intro a F
 replace F : Fr ⟨26, []⟩ a [(0, .slice p1 (x).length c1), (1, .slice p2 (y).length c2)] := F
 refine wp_seq ?_
 refine r_lit ?_
 refine s_val wkP F rfl rfl rfl rfl (y_assign F rfl rfl) ?_; clear F; intro a F
 refine wpList_nil ?_
 refine c_then ?_
 refine wp_seq ?_
 refine wp_seq ?_
 refine r_lit ?_
 refine s_val wkP F rfl rfl rfl rfl (y_move F rfl rfl) ?_; clear F; intro a F
 refine s_val wkP F rfl rfl rfl rfl (y_lenS F rfl Tryd.underlying33 rfl) ?_; clear F; intro a F
 refine s_val wkP F rfl rfl rfl rfl (y_move F rfl rfl) ?_; clear F; intro a F
 refine s_val wkP F rfl rfl rfl rfl (y_lenS F rfl Tryd.underlying33 rfl) ?_; clear F; intro a F
 refine s_val wkP F rfl rfl rfl rfl (y_neq F rfl rfl rfl) ?_; clear F; intro a F
 refine wpList_nil ?_
 refine c_then ?_
 refine x_condN F rfl (fun hg3 => ?_) (fun hg3 => ?_)
 · replace hm := ifF hg3 hm
   refine wp_seq ?_
   refine r_lit ?_
   refine s_val wkP F rfl rfl rfl rfl (y_assign F rfl rfl) ?_; clear F; intro a F
   refine wpList_nil ?_
   refine c_then ?_
   refine wp_ret ?_
   refine c_thenR ?_
   obtain rfl := Option.some.inj hm
   refine x_ret1 F rfl rfl ?_
   exact ⟨_, rfl, rfl, (H.keep 0 2)⟩
 · replace hm := ifT hg3 hm
   refine wp_skip ?_
   refine c_then ?_
   refine wp_seq ?_
   refine wp_seq ?_
   refine r_lit ?_
   refine s_val wkP F rfl rfl rfl rfl (y_move F rfl rfl) ?_; clear F; intro a F
   refine s_val wkP F rfl rfl rfl rfl (y_lenS F rfl Tryd.underlying33 rfl) ?_; clear F; intro a F
   refine s_val wkP F rfl rfl rfl rfl (y_move F rfl rfl) ?_; clear F; intro a F
   refine wpList_nil ?_
   refine c_then ?_
   obtain ⟨o29, eo29, hm29⟩ := ob hm; clear hm; revert eo29; intro hm
   refine x_mid (fun aa ww => ∃ r29, o29 = Sum.inl r29 ∧ Fr ⟨26, []⟩ aa [] ∧ St w0 ww (l)) ?_ ?_
   · skip
     refine wp_block ?_
     refine x_loopO _ (fun (s46 : Int) aa ww => Fr ⟨26, []⟩ aa [(0, .slice p1 (x).length c1), (1, .slice p2 (y).length c2), (12, .int .i64 (((x).length : Int))), (13, .int .i64 (s46))] ∧ St w0 ww (HP.sl rByte p1 c1 x :: HP.sl rByte p2 c2 y :: l)) hm ⟨F.cut _ ⟨rfl, rfl, rfl, rfl, trivial⟩, (((H.cp 1 rfl pers_sl).cp 1 rfl pers_sl).keep 2 2)⟩ ?_
     clear F H hm
     rintro s46 a w o ⟨F, H⟩ hm
     refine wp_seq ?_
     refine r_lit ?_
     refine s_val wkP F rfl rfl rfl rfl (y_lss F rfl rfl rfl) ?_; clear F; intro a F
     refine wpList_nil ?_
     refine c_then ?_
     refine wp_seq ?_
     refine x_condP F rfl (fun hg47 => ?_) (fun hg47 => ?_)
     · replace hm := ifT hg47 hm
       refine wp_skip ?_
       refine c_then ?_
       refine wp_seq ?_
       refine wp_block ?_
       refine wp_seq ?_
       refine r_lit ?_
       refine s_val wkP F rfl rfl rfl rfl (y_move F rfl rfl) ?_; clear F; intro a F
       refine s_val wkP F rfl rfl rfl rfl (y_assign F rfl rfl) ?_; clear F; intro a F
       refine wpList_nil ?_
       refine c_then ?_
       refine wp_seq ?_
       obtain ⟨x48, ex48, hn⟩ := ob hm; clear hm; revert hn; intro hm
       obtain ⟨b49, o49, hp49⟩ := H.slP 0 rfl (idxO_some ex48).2
       obtain ⟨cs50, hcl50, H⟩ := H.slEl 0 rfl hp49 (idxO_some ex48).2
       obtain rfl := H.rcB 1 rfl
       replace H := H.dp 1 rfl
       clear hcl50
       obtain ⟨x51, ex51, hn⟩ := ob hm; clear hm; revert hn; intro hm
       obtain ⟨b52, o52, hp52⟩ := H.slP 2 rfl (idxO_some ex51).2
       obtain ⟨cs53, hcl53, H⟩ := H.slEl 2 rfl hp52 (idxO_some ex51).2
       obtain rfl := H.rcB 1 rfl
       replace H := H.dp 1 rfl
       clear hcl53
       refine q_region (fun u => St w0 u (HP.row b52 (o52 + (s46 : Int).toNat * 1) ([.int .u8 (((x51).toNat : Int))]) :: HP.row b49 (o49 + (s46 : Int).toNat * 1) ([.int .u8 (((x48).toNat : Int))]) :: HP.sl rByte p1 c1 x :: HP.sl rByte p2 c2 y :: l)) (by kernel_rfl) (by kernel_rfl) H.drew ?_
       refine q_val F rfl rfl rfl (fun u hu => y_move F rfl rfl) ?_; clear F; intro a F
       refine q_val F rfl rfl rfl (fun u hu => y_move F rfl rfl) ?_; clear F; intro a F
       refine q_val F rfl rfl rfl (fun u hu => y_idxS F elem33 rfl rfl rfl hp49 ex48) ?_; clear F; intro a F
       refine q_val F rfl rfl rfl (fun u hu => y_load1 F plain5 rfl rfl ((hu.rowAt 1 rfl) 0 _ rfl)) ?_; clear F; intro a F
       refine q_val F rfl rfl rfl (fun u hu => y_move F rfl rfl) ?_; clear F; intro a F
       refine q_val F rfl rfl rfl (fun u hu => y_move F rfl rfl) ?_; clear F; intro a F
       refine q_val F rfl rfl rfl (fun u hu => y_idxS F elem33 rfl rfl rfl hp52 ex51) ?_; clear F; intro a F
       refine q_val F rfl rfl rfl (fun u hu => y_load1 F plain5 rfl rfl ((hu.rowAt 0 rfl) 0 _ rfl)) ?_; clear F; intro a F
       refine q_val F rfl rfl rfl (fun u hu => y_neq F rfl rfl rfl) ?_; clear F; intro a F
       refine q_nil ?_; clear H; intro w H
       refine c_then ?_
       refine x_condN F rfl (fun hg54 => ?_) (fun hg54 => ?_)
       · replace hm := ifF hg54 hm
         refine wp_seq ?_
         refine r_lit ?_
         refine s_val wkP F rfl rfl rfl rfl (y_assign F rfl rfl) ?_; clear F; intro a F
         refine wpList_nil ?_
         refine c_then ?_
         refine wp_ret ?_
         refine c_blkR ?_
         refine c_thenR ?_
         refine c_thenR ?_; obtain rfl := Option.some.inj hm; refine ⟨_, rfl, ?_⟩; rintro rfl
         refine c_blkR ?_
         refine c_thenR ?_
         replace hm := elimR hm29
         refine c_thenR ?_
         obtain rfl := Option.some.inj hm
         refine x_ret1 F rfl rfl ?_
         exact ⟨_, rfl, rfl, (H.keep 0 4)⟩
       · replace hm := ifT hg54 hm
         refine wp_skip ?_
         refine c_blkN ?_
         refine c_then ?_
         refine r_lit ?_
         refine s_val wkP F rfl rfl rfl rfl (i_add F rfl rfl rfl) ?_; clear F; intro a F
         refine s_val wkP F rfl rfl rfl rfl (y_move F rfl rfl) ?_; clear F; intro a F
         refine wpList_nil ?_
         refine c_then ?_; obtain rfl := Option.some.inj hm
         exact ⟨_, rfl, ⟨F.cut _ ⟨rfl, rfl, rfl, rfl, trivial⟩, (((H.cp 3 rfl pers_sl).cp 3 rfl pers_sl).keep 2 4)⟩⟩
     · replace hm := ifF hg47 hm
       refine wp_exit ?_
       refine c_thenX ?_
       refine c_thenX ?_; obtain rfl := Option.some.inj hm; refine ⟨_, rfl, ?_⟩; rintro rfl
       refine c_hit ?_
       refine c_then ?_
       exact ⟨_, rfl, F.cut _ trivial, (H.keep 0 2)⟩
   · skip
     clear F H hm
     rintro a w ⟨r29, rfl, F, H⟩; have hm := elimL hm29; clear hm29
     refine c_then ?_
     refine wp_seq ?_
     refine r_lit ?_
     refine s_val wkP F rfl rfl rfl rfl (y_assign F rfl rfl) ?_; clear F; intro a F
     refine wpList_nil ?_
     refine c_then ?_
     refine wp_ret ?_
     obtain rfl := Option.some.inj hm
     refine x_ret1 F rfl rfl ?_
     exact ⟨_, rfl, rfl, H⟩
theorem ent57 : ∀ args w, (callFunc 57 args).run Tryd.prog w = .ok (.enter 57 args) w := enters Tryd.func57 (by kernel_rfl) rfl
theorem ent58 : ∀ args w, (callFunc 58 args).run Tryd.prog w = .ok (.enter 58 args) w := enters Tryd.func58 (by kernel_rfl) rfl
theorem ent36 : ∀ args w, (callFunc 36 args).run Tryd.prog w = .ok (.enter 36 args) w := enters Tryd.func36 (by kernel_rfl) rfl
theorem ent60 : ∀ args w, (callFunc 60 args).run Tryd.prog w = .ok (.enter 60 args) w := enters Tryd.func60 (by kernel_rfl) rfl
set_option maxRecDepth 100000 in
set_option maxHeartbeats 4000000 in
theorem w_unwrap (sector : List UInt8) (p1 : Option Addr) (c1 : Nat) (w0 w : World) (l : List HP)  (r : (List UInt8) × Int) (hm : unwrap sector = some r) (H : St w0 w (HP.sl rByte p1 c1 sector :: l)) :
  Calls Tryd.prog 34 [.slice p1 (sector).length c1].toArray w (fun e w' => ∃ v, e = .returned v ∧ ∃ (p2 : Option Addr) (c2 : Nat), v = .tuple [.slice p2 (r.1).length c2, .int .i64 (r.2)].toArray ∧ St w0 w' (HP.sl rByte p2 c2 r.1 :: l)) := by
 unfold unwrap at hm
 refine x_enter Tryd.func34 rfl rfl rfl ?_
 intro a F
 replace F : Fr ⟨43, []⟩ a [(0, .slice p1 (sector).length c1)] := F
 refine wp_seq ?_
 refine r_lit ?_
 refine s_val wkP F rfl rfl rfl rfl (y_assign F rfl rfl) ?_; clear F; intro a F
 refine s_val wkP F rfl rfl rfl rfl (y_assign F rfl rfl) ?_; clear F; intro a F
 refine wpList_nil ?_
 refine c_then ?_
 refine wp_seq ?_
 refine r_lit ?_
 refine s_val wkP F rfl rfl rfl rfl (y_move F rfl rfl) ?_; clear F; intro a F
 obtain ⟨x3, ex3, hn⟩ := ob hm; clear hm; revert hn; intro hm
 refine s_call wkP F rfl rfl rfl rfl (y_call F rfl rfl ent57) (w_newEye sector p1 c1 w0 _ _  _ ex3 (H.cp 0 rfl pers_sl)) ?_; clear F H; rintro _ w a ⟨b4, p5, c5, rfl, H⟩ F
 replace H : St w0 w (HP.blk b4 ([.slice p5 (x3).length c5]) 133 :: HP.sl rByte p5 c5 x3 :: HP.sl rByte p1 c1 sector :: l) := H
 refine s_val wkP F rfl rfl rfl rfl (y_assign F rfl rfl) ?_; clear F; intro a F
 refine wpList_nil ?_
 refine c_then ?_
 refine wp_seq ?_
 refine r_lit ?_
 refine s_val wkP F rfl rfl rfl rfl (y_move F rfl rfl) ?_; clear F; intro a F
 obtain ⟨x6, ex6, hn⟩ := ob hm; clear hm; revert hn; intro hm
 refine s_call wkP F rfl rfl rfl rfl (y_call F rfl rfl ent58) (w_eyeUint x3 1 b4 p5 c5 w0 _ _  _ ex6 ((H.cp 1 rfl pers_sl).mv 1 rfl)) ?_; clear F H; rintro _ w a ⟨p7, c7, rfl, H⟩ F
 replace H : St w0 w (HP.blk b4 ([.slice p7 (x6.2.2).length c7]) 133 :: HP.sl rByte p7 c7 x6.2.2 :: HP.sl rByte p5 c5 x3 :: HP.sl rByte p1 c1 sector :: l) := H
 refine wpList_nil ?_
 refine c_then ?_
 refine wp_seq ?_
 refine r_lit ?_
 refine s_val wkP F rfl rfl rfl rfl (y_move F rfl rfl) ?_; clear F; intro a F
 obtain ⟨x8, ex8, hn⟩ := ob hm; clear hm; revert hn; intro hm
 refine s_call wkP F rfl rfl rfl rfl (y_call F rfl rfl ent58) (w_eyeUint x6.2.2 2 b4 p7 c7 w0 _ _  _ ex8 ((H.cp 1 rfl pers_sl).mv 1 rfl)) ?_; clear F H; rintro _ w a ⟨p9, c9, rfl, H⟩ F
 replace H : St w0 w (HP.blk b4 ([.slice p9 (x8.2.2).length c9]) 133 :: HP.sl rByte p9 c9 x8.2.2 :: HP.sl rByte p7 c7 x6.2.2 :: HP.sl rByte p5 c5 x3 :: HP.sl rByte p1 c1 sector :: l) := H
 refine s_val wkP F rfl rfl rfl rfl (y_move F rfl rfl) ?_; clear F; intro a F
 refine s_val wkP F rfl rfl rfl rfl (y_extract F rfl rfl rfl) ?_; clear F; intro a F
 refine s_val wkP F rfl rfl rfl rfl (y_extract F rfl rfl rfl) ?_; clear F; intro a F
 refine s_val wkP F rfl rfl rfl rfl (y_assign F rfl rfl) ?_; clear F; intro a F
 refine s_val wkP F rfl rfl rfl rfl (y_assign F rfl rfl) ?_; clear F; intro a F
 refine wpList_nil ?_
 refine c_then ?_
 refine wp_seq ?_
 refine r_lit ?_
 refine s_val wkP F rfl rfl rfl rfl (y_move F rfl rfl) ?_; clear F; intro a F
 refine s_val wkP F rfl rfl rfl rfl (y_move F rfl rfl) ?_; clear F; intro a F
 refine s_val wkP F rfl rfl rfl rfl (i_conv F Tryd.underlying115 Tryd.underlying3 rfl rfl) ?_; clear F; intro a F
 obtain ⟨x10, ex10, hn⟩ := ob hm; clear hm; revert hn; intro hm
 refine s_call wkP F rfl rfl rfl rfl (y_call F rfl rfl ent59) (w_eyeRaw x8.2.2 (IntKind.i64.wrap (x8.1)) b4 p9 c9 w0 _ _  _ ex10 ((H.cp 1 rfl pers_sl).mv 1 rfl)) ?_; clear F H; rintro _ w a ⟨p11, c11, p12, c12, rfl, H⟩ F
 replace H : St w0 w (HP.ow rByte 5 p11 c11 x10.1 :: HP.blk b4 ([.slice p12 (x10.2.2).length c12]) 133 :: HP.sl rByte p12 c12 x10.2.2 :: HP.sl rByte p9 c9 x8.2.2 :: HP.sl rByte p7 c7 x6.2.2 :: HP.sl rByte p5 c5 x3 :: HP.sl rByte p1 c1 sector :: l) := H
 refine s_val wkP F rfl rfl rfl rfl (y_move F rfl rfl) ?_; clear F; intro a F
 refine s_val wkP F rfl rfl rfl rfl (y_extract F rfl rfl rfl) ?_; clear F; intro a F
 refine s_val wkP F rfl rfl rfl rfl (y_extract F rfl rfl rfl) ?_; clear F; intro a F
 refine s_val wkP F rfl rfl rfl rfl (y_assign F rfl rfl) ?_; clear F; intro a F
 refine s_val wkP F rfl rfl rfl rfl (y_assign F rfl rfl) ?_; clear F; intro a F
 refine wpList_nil ?_
 refine c_then ?_
 refine wp_seq ?_
 refine wp_seq ?_
 refine r_lit ?_
 refine s_val wkP F rfl rfl rfl rfl (y_move F rfl rfl) ?_; clear F; intro a F
 refine s_val wkP F rfl rfl rfl rfl (y_neq F rfl rfl rfl) ?_; clear F; intro a F
 refine wpList_nil ?_
 refine c_then ?_
 refine x_condN F rfl (fun hg13 => ?_) (fun hg13 => ?_)
 · replace hm := ifF hg13 hm
   refine wp_seq ?_
   refine r_lit ?_
   refine s_val wkP F rfl rfl rfl rfl (y_assign F rfl rfl) ?_; clear F; intro a F
   refine s_val wkP F rfl rfl rfl rfl (y_assign F rfl rfl) ?_; clear F; intro a F
   refine wpList_nil ?_
   refine c_then ?_
   refine wp_ret ?_
   refine c_thenR ?_
   replace H : St w0 w (HP.sl rByte none 0 ([] : List UInt8) :: HP.ow rByte 5 p11 c11 x10.1 :: HP.blk b4 ([.slice p12 (x10.2.2).length c12]) 133 :: HP.sl rByte p12 c12 x10.2.2 :: HP.sl rByte p9 c9 x8.2.2 :: HP.sl rByte p7 c7 x6.2.2 :: HP.sl rByte p5 c5 x3 :: HP.sl rByte p1 c1 sector :: l) := H.slNil rByte
   obtain rfl := Option.some.inj hm
   refine x_ret2 F rfl rfl rfl ?_
   exact ⟨_, rfl, none, 0, rfl, ((H.cp 0 rfl pers_sl).keep 1 8)⟩
 · replace hm := ifT hg13 hm
   refine wp_skip ?_
   refine c_then ?_
   refine wp_seq ?_
   refine wp_seq ?_
   refine r_lit ?_
   refine s_val wkP F rfl rfl rfl rfl (y_move F rfl rfl) ?_; clear F; intro a F
   replace H : St w0 w (HP.sl rByte p11 c11 x10.1 :: HP.blk b4 ([.slice p12 (x10.2.2).length c12]) 133 :: HP.sl rByte p12 c12 x10.2.2 :: HP.sl rByte p9 c9 x8.2.2 :: HP.sl rByte p7 c7 x6.2.2 :: HP.sl rByte p5 c5 x3 :: HP.sl rByte p1 c1 sector :: l) := H.frz 0 rfl
   obtain ⟨x14, ex14, hn⟩ := ob hm; clear hm; revert hn; intro hm
   refine s_call wkP F rfl rfl rfl rfl (y_call F rfl rfl ent36) (w_wrap x10.1 p11 c11 w0 _ _  _ ex14 (H.cp 0 rfl pers_sl)) ?_; clear F H; rintro _ w a ⟨p15, c15, rfl, H⟩ F
   replace H : St w0 w (HP.ow rByte 5 p15 c15 x14.1 :: HP.sl rByte p11 c11 x10.1 :: HP.blk b4 ([.slice p12 (x10.2.2).length c12]) 133 :: HP.sl rByte p12 c12 x10.2.2 :: HP.sl rByte p9 c9 x8.2.2 :: HP.sl rByte p7 c7 x6.2.2 :: HP.sl rByte p5 c5 x3 :: HP.sl rByte p1 c1 sector :: l) := H
   refine s_val wkP F rfl rfl rfl rfl (y_move F rfl rfl) ?_; clear F; intro a F
   refine s_val wkP F rfl rfl rfl rfl (y_extract F rfl rfl rfl) ?_; clear F; intro a F
   refine s_val wkP F rfl rfl rfl rfl (y_extract F rfl rfl rfl) ?_; clear F; intro a F
   refine s_val wkP F rfl rfl rfl rfl (y_assign F rfl rfl) ?_; clear F; intro a F
   refine s_val wkP F rfl rfl rfl rfl (y_assign F rfl rfl) ?_; clear F; intro a F
   refine wpList_nil ?_
   refine c_then ?_
   refine wp_seq ?_
   refine r_lit ?_
   refine s_val wkP F rfl rfl rfl rfl (y_move F rfl rfl) ?_; clear F; intro a F
   refine s_val wkP F rfl rfl rfl rfl (y_neq F rfl rfl rfl) ?_; clear F; intro a F
   refine s_val wkP F rfl rfl rfl rfl (y_move F rfl rfl) ?_; clear F; intro a F
   by_cases hg16 : x14.2 = 0
   · replace hm := ifT hg16 hm
     replace F := F.bool (k := 36) (u := .bool false) rfl (congrArg (fun b => Value.bool (!b)) (decide_eq_true hg16))
     refine g_onP F rfl rfl rfl rfl ?_
     refine s_val wkP F rfl rfl rfl rfl (y_move F rfl rfl) ?_; clear F; intro a F
     refine g_onP F rfl rfl rfl rfl ?_
     refine s_val wkP F rfl rfl rfl rfl (y_move F rfl rfl) ?_; clear F; intro a F
     refine g_onP F rfl rfl rfl rfl ?_
     replace H : St w0 w (HP.sl rByte p15 c15 x14.1 :: HP.sl rByte p11 c11 x10.1 :: HP.blk b4 ([.slice p12 (x10.2.2).length c12]) 133 :: HP.sl rByte p12 c12 x10.2.2 :: HP.sl rByte p9 c9 x8.2.2 :: HP.sl rByte p7 c7 x6.2.2 :: HP.sl rByte p5 c5 x3 :: HP.sl rByte p1 c1 sector :: l) := H.frz 0 rfl
     obtain ⟨x17, ex17, hn⟩ := ob hm; clear hm; revert hn; intro hm
     refine s_call wkP F rfl rfl rfl rfl (y_call F rfl rfl ent60) (w_equalB x14.1 sector p15 c15 p1 c1 w0 _ _  _ ex17 ((H.cp 7 rfl pers_sl).cp 1 rfl pers_sl)) ?_; clear F H; rintro _ w a ⟨rfl, H⟩ F
     replace H : St w0 w (HP.sl rByte p15 c15 x14.1 :: HP.sl rByte p11 c11 x10.1 :: HP.blk b4 ([.slice p12 (x10.2.2).length c12]) 133 :: HP.sl rByte p12 c12 x10.2.2 :: HP.sl rByte p9 c9 x8.2.2 :: HP.sl rByte p7 c7 x6.2.2 :: HP.sl rByte p5 c5 x3 :: HP.sl rByte p1 c1 sector :: l) := H
     refine g_onP F rfl rfl rfl rfl ?_
     refine s_val wkP F rfl rfl rfl rfl (y_not F rfl rfl) ?_; clear F; intro a F
     refine s_val wkP F rfl rfl rfl rfl (y_pickF F rfl rfl rfl) ?_; clear F; intro a F
     refine wpList_nil ?_
     refine c_then ?_
     refine x_cond F rfl (fun hg18 => ?_) (fun hg18 => ?_)
     · replace hm := ifT hg18 hm
       refine wp_seq ?_
       refine r_lit ?_
       refine s_val wkP F rfl rfl rfl rfl (y_assign F rfl rfl) ?_; clear F; intro a F
       refine s_val wkP F rfl rfl rfl rfl (y_assign F rfl rfl) ?_; clear F; intro a F
       refine wpList_nil ?_
       refine c_then ?_
       refine wp_ret ?_
       refine c_thenR ?_
       replace H : St w0 w (HP.sl rByte none 0 ([] : List UInt8) :: HP.sl rByte p15 c15 x14.1 :: HP.sl rByte p11 c11 x10.1 :: HP.blk b4 ([.slice p12 (x10.2.2).length c12]) 133 :: HP.sl rByte p12 c12 x10.2.2 :: HP.sl rByte p9 c9 x8.2.2 :: HP.sl rByte p7 c7 x6.2.2 :: HP.sl rByte p5 c5 x3 :: HP.sl rByte p1 c1 sector :: l) := H.slNil rByte
       obtain rfl := Option.some.inj hm
       refine x_ret2 F rfl rfl rfl ?_
       exact ⟨_, rfl, none, 0, rfl, ((H.cp 0 rfl pers_sl).keep 1 9)⟩
     · replace hm := ifF (nT hg18) hm
       refine wp_skip ?_
       refine c_then ?_
       refine wp_seq ?_
       refine r_lit ?_
       refine s_val wkP F rfl rfl rfl rfl (y_move F rfl rfl) ?_; clear F; intro a F
       refine s_val wkP F rfl rfl rfl rfl (y_assign F rfl rfl) ?_; clear F; intro a F
       refine s_val wkP F rfl rfl rfl rfl (y_assign F rfl rfl) ?_; clear F; intro a F
       refine wpList_nil ?_
       refine c_then ?_
       refine wp_ret ?_
       obtain rfl := Option.some.inj hm
       refine x_ret2 F rfl rfl rfl ?_
       exact ⟨_, rfl, p11, c11, rfl, ((H.cp 1 rfl pers_sl).keep 1 8)⟩
   · replace hm := ifF hg16 hm
     replace F := F.bool (k := 36) (u := .bool true) rfl (congrArg (fun b => Value.bool (!b)) (decide_eq_false hg16))
     refine g_off wkP F rfl rfl rfl rfl rfl rfl rfl ?_; clear F; intro a F
     refine g_off wkP F rfl rfl rfl rfl rfl rfl rfl ?_; clear F; intro a F
     refine g_off wkP F rfl rfl rfl rfl rfl rfl rfl ?_; clear F; intro a F
     refine g_off wkP F rfl rfl rfl rfl rfl rfl rfl ?_; clear F; intro a F
     refine s_val wkP F rfl rfl rfl rfl (y_pickT F rfl rfl rfl) ?_; clear F; intro a F
     refine wpList_nil ?_
     refine c_then ?_
     refine x_condT F rfl ?_
     refine wp_seq ?_
     refine r_lit ?_
     refine s_val wkP F rfl rfl rfl rfl (y_assign F rfl rfl) ?_; clear F; intro a F
     refine s_val wkP F rfl rfl rfl rfl (y_assign F rfl rfl) ?_; clear F; intro a F
     refine wpList_nil ?_
     refine c_then ?_
     refine wp_ret ?_
     refine c_thenR ?_
     replace H : St w0 w (HP.sl rByte none 0 ([] : List UInt8) :: HP.ow rByte 5 p15 c15 x14.1 :: HP.sl rByte p11 c11 x10.1 :: HP.blk b4 ([.slice p12 (x10.2.2).length c12]) 133 :: HP.sl rByte p12 c12 x10.2.2 :: HP.sl rByte p9 c9 x8.2.2 :: HP.sl rByte p7 c7 x6.2.2 :: HP.sl rByte p5 c5 x3 :: HP.sl rByte p1 c1 sector :: l) := H.slNil rByte
     obtain rfl := Option.some.inj hm
     refine x_ret2 F rfl rfl rfl ?_
     exact ⟨_, rfl, none, 0, rfl, ((H.cp 0 rfl pers_sl).keep 1 9)⟩
end Go.Proofs.YtfepdfjhejkemaaDoor
