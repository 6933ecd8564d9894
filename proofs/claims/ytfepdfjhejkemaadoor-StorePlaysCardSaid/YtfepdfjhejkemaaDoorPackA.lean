/- pack, sector -/
import Derived.Test.YtfepdfjhejkemaaDoorShaC
set_option linter.unusedSimpArgs false
set_option linter.unusedVariables false
namespace Go.Proofs.YtfepdfjhejkemaaDoor
open Go.RowKit Go.Tri
set_option maxRecDepth 100000 in
set_option maxHeartbeats 4000000 in
theorem w_cloneB {s : List UInt8} {p1 : Option Addr} {c1 : Nat} {w0 w : World} {l : List HP}  {r : (List UInt8)} (hm : cloneB s = some r) (H : St w0 w (HP.sl rByte p1 c1 s :: l)) :
  Calls Tryd.prog 42 [.slice p1 (s).length c1].toArray w (fun e w' => ∃ v, e = .returned v ∧ ∃ (p2 : Option Addr) (c2 : Nat), v = .slice p2 (r).length c2 ∧ St w0 w' (HP.ow rByte 5 p2 c2 r :: l)) := by
 unfold cloneB at hm
 refine x_enter Tryd.func42 rfl rfl rfl ?_
 intro a F
 refine sr (bk [0] F H rfl trivial ?_); clear F; intro a F
 refine nl (sq (sr (bk [0] F H rfl trivial ?_))); clear F; intro a F
 cases p1 with
 | none =>
   obtain ⟨hx0, hc0⟩ := H.slNone 0 rfl; subst hc0; try subst hx0
   replace H := H.dp 0 rfl
   refine s_val wkP F rfl rfl rfl rfl (y_eqNil F rfl Tryd.underlying33 rfl rfl (by simp)) ?_; clear F; intro a F
   refine nl (cT F rfl ?_)
   refine sr (bk [0] F H rfl trivial ?_); clear F; intro a F
   refine nl (wr (tr ?_))
   replace H := H.owNil rByte 5
   cases hm
   refine x_ret1 F rfl rfl ?_
   exact ⟨_, rfl, none, 0, rfl, H⟩
 | some ad =>
   refine s_val wkP F rfl rfl rfl rfl (y_eqSome F rfl Tryd.underlying33 rfl rfl (by simp)) ?_; clear F; intro a F
   refine nl (cF F rfl ?_)
   refine sk (ct (sr (s_build0O (R := rByte) wkP F rfl rfl rfl elem33 rfl H ?_))); clear F H; intro b3 w a H F
   refine bk [0] F H rfl trivial ?_; clear F; intro a F
   obtain ⟨x5, ex5, hm⟩ := ob hm
   refine s_app wkP F rfl rfl rfl rfl rfl rfl elem33 rfl ex5 H 0 1 rfl rfl ?_; clear F H; intro p4 c4 w a H F
   refine bk [0] F H rfl trivial ?_; clear F; intro a F
   replace H := H.nf 2 rfl
   refine nl (wr ?_)
   cases hm
   refine x_ret1 F rfl rfl ?_
   exact ⟨_, rfl, p4, c4, rfl, (H.pm 2 [0] rfl:)⟩
theorem fld124_0 : FieldT Tryd.prog 124 0 0 := by unfold FieldT; rw [Tryd.underlying124]; kernel_rfl
set_option maxRecDepth 100000 in
set_option maxHeartbeats 4000000 in
theorem w_penRaw {p : T_pack_Pen_o} {b : List UInt8} {bo0 : Nat} {p1 : Option Addr} {c1 : Nat} {w0 w : World} {l : List HP}  {r : T_pack_Pen_o} (hm : penRaw p b = some r) (H : St w0 w (O_pack_Pen bo0 p :: HP.sl rByte p1 c1 b :: l)) :
  Calls Tryd.prog 64 [.pointer (some ⟨bo0, 0, none⟩), .slice p1 (b).length c1].toArray w (fun e w' => ∃ v, e = .returned v ∧ v = .tuple [].toArray ∧ St w0 w' (O_pack_Pen bo0 r :: l)) := by
 unfold penRaw at hm
 refine x_enter Tryd.func64 rfl rfl rfl ?_
 intro a F
 refine rl (bk [0, 0, 0, 0] F H rfl ⟨fld124_0, trivial⟩ ?_); clear F; intro a F
 obtain ⟨p2, c3, H⟩ := O_pack_Pen_o (H.pk 0 rfl)
 refine bk [0, 0] F H rfl ⟨rfl, plain33, trivial⟩ ?_; clear F; intro a F
 obtain ⟨x5, ex5, hm⟩ := ob hm
 refine s_app wkP F rfl rfl rfl rfl rfl rfl elem33 rfl ex5 H 1 2 rfl rfl ?_; clear F H; intro p4 c4 w a H F
 refine bk [0, 0] F H rfl ⟨fld124_0, trivial⟩ ?_; clear F; intro a F
 refine s_st1 wkP F rfl rfl zero33 rfl rfl rfl rfl rfl H 0 rfl rfl ?_; clear H; intro w H
 replace H := H.nf 3 rfl
 refine lz ?_
 replace H := O_pack_Pen_s H
 cases hm
 refine x_end0 F rfl ?_
 exact ⟨_, rfl, rfl, (H.pm 2 [0] rfl:)⟩
set_option maxRecDepth 100000 in
set_option maxHeartbeats 4000000 in
theorem w_penUint {p : T_pack_Pen_o} {n : Int} {size : Int} {bo0 : Nat} {w0 w : World} {l : List HP}  {r : Int × T_pack_Pen_o} (hm : penUint p n size = some r) (H : St w0 w (O_pack_Pen bo0 p :: l)) :
  Calls Tryd.prog 65 [.pointer (some ⟨bo0, 0, none⟩), .int .u64 (n), .int .i64 (size)].toArray w (fun e w' => ∃ v, e = .returned v ∧ v = .int .i64 (r.1) ∧ St w0 w' (O_pack_Pen bo0 r.2 :: l)) := by
 unfold penUint at hm
 refine x_enter Tryd.func65 rfl rfl rfl ?_
 intro a F
 refine sr (bk [0] F H rfl trivial ?_); clear F; intro a F
 refine nl (sq (sr (bk [0, 0, 0] F H rfl trivial ?_))); clear F; intro a F
 by_cases hg1 : size < 1
 · replace hm := ifT hg1 hm
   replace F := F.bT 10 hg1 rfl
   refine bk (List.replicate 14 0) F H rfl trivial ?_; clear F; intro a F
   refine nl (cT F rfl ?_)
   refine sr (bk [0] F H rfl trivial ?_); clear F; intro a F
   refine nl (wr (tr ?_))
   cases hm
   refine x_ret1 F rfl rfl ?_
   exact ⟨_, rfl, rfl, H⟩
 · replace hm := ifF hg1 hm
   replace F := F.bF 10 hg1 rfl
   refine bk [0, 0, 0, 0] F H rfl trivial ?_; clear F; intro a F
   by_cases hg2 : 8 < size
   · replace hm := ifT hg2 hm
     replace F := F.bT 14 hg2 rfl
     refine bk (List.replicate 10 0) F H rfl trivial ?_; clear F; intro a F
     refine nl (cT F rfl ?_)
     refine sr (bk [0] F H rfl trivial ?_); clear F; intro a F
     refine nl (wr (tr ?_))
     cases hm
     refine x_ret1 F rfl rfl ?_
     exact ⟨_, rfl, rfl, H⟩
   · replace hm := ifF hg2 hm
     replace F := F.bF 14 hg2 rfl
     refine bk [0, 0, 0] F H rfl trivial ?_; clear F; intro a F
     by_cases hg3 : size < 8
     · replace hm := ifT hg3 hm
       replace F := F.bT 17 hg3 rfl
       refine bk [0, 0, 0] F H rfl trivial ?_; clear F; intro a F
       refine g_onP F rfl rfl rfl rfl ?_
       obtain ⟨x4, ex4, hm⟩ := ob hm
       refine s_val wkP F rfl rfl rfl rfl (i_shrO F rfl rfl rfl ex4) ?_; clear F; intro a F
       refine bk [0, 0, 0] F H rfl trivial ?_; clear F; intro a F
       refine nl (cP F rfl (fun hg5 => ?_) (fun hg5 => ?_))
       · replace hm := ifT hg5 hm
         refine sr (bk [0] F H rfl trivial ?_); clear F; intro a F
         refine nl (wr (tr ?_))
         cases hm
         refine x_ret1 F rfl rfl ?_
         exact ⟨_, rfl, rfl, H⟩
       · replace hm := ifF hg5 hm
         refine sk (ct (sq (sr (bk [0, 0, 0] F H rfl trivial ?_)))); clear F; intro a F
         refine nl ?_
         obtain ⟨r52, er52, hm52⟩ := ob hm; clear hm; revert er52; intro hm
         refine x_mid (fun aa ww => Fr ⟨45, []⟩ aa [] ∧ St w0 ww (O_pack_Pen bo0 r52 :: l)) ?_ ?_
         · skip
           refine bl (x_loopO _ (fun (s83 : T_pack_Pen_o × Int) aa ww => Fr ⟨45, []⟩ aa [(0, .pointer (some ⟨bo0, 0, none⟩)), (1, .int .u64 (n)), (7, .int .i64 (s83.2))] ∧ St w0 ww (O_pack_Pen bo0 s83.1 :: l)) hm ⟨F.sl rfl, H⟩ ?_)
           clear F H hm
           rintro s83 a w o ⟨F, H⟩ hm
           refine sq (sr (bk [0, 0] F H rfl trivial ?_)); clear F; intro a F
           refine nl (cP F rfl (fun hg84 => ?_) (fun hg84 => ?_))
           · replace hm := ifT hg84 hm
             refine sk (ct (sq (bl ?_)))
             obtain ⟨p92, c93, H⟩ := O_pack_Pen_o (H.pk 0 rfl)
             obtain ⟨x94, ex94, hm⟩ := ob hm
             refine mix_region [10, 11, 14] [14] (.step 0 0 (.step 0 1 (.step 0 2 (.step 0 3 (.step 0 4 (.step 0 5 (.step 0 6 (.step 0 7 (.step 0 8 (.step 0 9 (.step 2 10 (.step 2 11 (.step 0 12 (.step 0 13 (.step 3 14 .done))))))))))))))) (fun u => ∃ ls, St w0 u (HP.blk bo0 ([.slice p92 (s83.1).length c93]) 124 :: ls)) (by kernel_rfl) (by kernel_rfl) ⟨_, H.drew⟩ ?_
             replace H := H.drew
             generalize w.drew = w at H ⊢
             refine mbk [0, 0, 0, 0] F H rfl ⟨fld124_0, trivial⟩ ?_; clear F; intro a F
             refine m_pure F rfl rfl rfl rfl (fun u hu => y_load1 F plain33 rfl rfl (row_at (v := .slice p92 (s83.1).length c93) ((hu.choose_spec.blk 0 rfl).row) rfl)) ?_; clear F; intro a F
             refine mbk [0, 0, 0] F H rfl trivial ?_; clear F; intro a F
             refine m_pure F rfl rfl rfl rfl (fun u hu => i_shrO F rfl rfl rfl ex94) ?_; clear F; intro a F
             refine mbk [1] F H rfl ⟨Tryd.underlying115, Tryd.underlying5, trivial⟩ ?_; clear F; intro a F
             refine m_heavy rfl rfl ?_
             obtain ⟨x96, ex96, hm⟩ := ob hm
             refine s_buildC wkP F rfl rfl rfl elem33 zero5 rfl rfl rfl rfl (by simp [Value.cells]) (by decide) H ?_; clear F H; intro b95 w a H F
             replace H : St w0 w (HP.ow rByte 5 (some ⟨b95, 0, none⟩) (([x96]).length) ([x96]) :: HP.blk bo0 ([.slice p92 (s83.1).length c93]) 124 :: HP.ow rByte 5 p92 c93 s83.1 :: l) := H.blkOw (R := rByte) 0 rfl (fun gg => ⟨[[.int .u8 (IntKind.u8.wrap (x94))]], rfl, (congrArg (fun z => [Value.int .u8 z]) (u8O_some ex96).symm), trivial⟩) (by simp)
             refine lz ?_; refine ct ⟨⟨_, (H.pm 3 [1, 0, 2] rfl:)⟩, ?_⟩
             refine m_heavy rfl rfl ?_
             replace H := H.frz 0 rfl
             obtain ⟨x98, ex98, hm⟩ := ob hm
             refine s_app wkP F rfl rfl rfl rfl rfl rfl elem33 rfl ex98 H 2 0 rfl rfl ?_; clear F H; intro p97 c97 w a H F
             refine lz ?_; refine ct ⟨⟨_, (H.pm 3 [1, 0, 2] rfl:)⟩, ?_⟩
             refine mbk [0, 0] F H rfl ⟨fld124_0, trivial⟩ ?_; clear F; intro a F
             refine m_last rfl rfl ?_
             refine s_st1 wkP F rfl rfl zero33 rfl rfl rfl rfl rfl H 1 rfl rfl ?_; clear H; intro w H
             refine lz ?_; refine ct ?_
             refine m_nil ?_
             refine bn (ct (rl (bk [0, 0, 0] F H rfl trivial ?_))); clear F; intro a F
             replace H := H.nf 3 rfl
             refine lz ?_
             replace H := O_pack_Pen_s (H.pm 3 [1, 2, 0] rfl:)
             refine ct ?_; cases hm
             exact ⟨_, rfl, ⟨F.sl rfl, (H.pm 2 [0] rfl:)⟩⟩
           · replace hm := ifF hg84 hm
             refine ex (cx (cx ?_)); cases hm; refine ⟨_, rfl, ?_⟩; rintro rfl
             refine ch (ct ?_)
             exact ⟨F.cut _ trivial, H⟩
         · skip
           clear F H hm
           rintro a w ⟨F, H⟩; have hm := hm52; clear hm52
           refine ct (sr (bk [0] F H rfl trivial ?_)); clear F; intro a F
           refine nl (wr ?_)
           cases hm
           refine x_ret1 F rfl rfl ?_
           exact ⟨_, rfl, rfl, H⟩
     · replace hm := ifF hg3 hm
       replace F := F.bF 17 hg3 rfl
       refine bk (List.replicate 7 0) F H rfl trivial ?_; clear F; intro a F
       refine nl (cF F rfl ?_)
       refine sk (ct (sq (sr (bk [0, 0, 0] F H rfl trivial ?_)))); clear F; intro a F
       refine nl ?_
       obtain ⟨r145, er145, hm145⟩ := ob hm; clear hm; revert er145; intro hm
       refine x_mid (fun aa ww => Fr ⟨45, []⟩ aa [] ∧ St w0 ww (O_pack_Pen bo0 r145 :: l)) ?_ ?_
       · skip
         refine bl (x_loopO _ (fun (s176 : T_pack_Pen_o × Int) aa ww => Fr ⟨45, []⟩ aa [(0, .pointer (some ⟨bo0, 0, none⟩)), (1, .int .u64 (n)), (7, .int .i64 (s176.2))] ∧ St w0 ww (O_pack_Pen bo0 s176.1 :: l)) hm ⟨F.sl rfl, H⟩ ?_)
         clear F H hm
         rintro s176 a w o ⟨F, H⟩ hm
         refine sq (sr (bk [0, 0] F H rfl trivial ?_)); clear F; intro a F
         refine nl (cP F rfl (fun hg177 => ?_) (fun hg177 => ?_))
         · replace hm := ifT hg177 hm
           refine sk (ct (sq (bl ?_)))
           obtain ⟨p185, c186, H⟩ := O_pack_Pen_o (H.pk 0 rfl)
           obtain ⟨x187, ex187, hm⟩ := ob hm
           refine mix_region [10, 11, 14] [14] (.step 0 0 (.step 0 1 (.step 0 2 (.step 0 3 (.step 0 4 (.step 0 5 (.step 0 6 (.step 0 7 (.step 0 8 (.step 0 9 (.step 2 10 (.step 2 11 (.step 0 12 (.step 0 13 (.step 3 14 .done))))))))))))))) (fun u => ∃ ls, St w0 u (HP.blk bo0 ([.slice p185 (s176.1).length c186]) 124 :: ls)) (by kernel_rfl) (by kernel_rfl) ⟨_, H.drew⟩ ?_
           replace H := H.drew
           generalize w.drew = w at H ⊢
           refine mbk [0, 0, 0, 0] F H rfl ⟨fld124_0, trivial⟩ ?_; clear F; intro a F
           refine m_pure F rfl rfl rfl rfl (fun u hu => y_load1 F plain33 rfl rfl (row_at (v := .slice p185 (s176.1).length c186) ((hu.choose_spec.blk 0 rfl).row) rfl)) ?_; clear F; intro a F
           refine mbk [0, 0, 0] F H rfl trivial ?_; clear F; intro a F
           refine m_pure F rfl rfl rfl rfl (fun u hu => i_shrO F rfl rfl rfl ex187) ?_; clear F; intro a F
           refine mbk [1] F H rfl ⟨Tryd.underlying115, Tryd.underlying5, trivial⟩ ?_; clear F; intro a F
           refine m_heavy rfl rfl ?_
           obtain ⟨x189, ex189, hm⟩ := ob hm
           refine s_buildC wkP F rfl rfl rfl elem33 zero5 rfl rfl rfl rfl (by simp [Value.cells]) (by decide) H ?_; clear F H; intro b188 w a H F
           replace H : St w0 w (HP.ow rByte 5 (some ⟨b188, 0, none⟩) (([x189]).length) ([x189]) :: HP.blk bo0 ([.slice p185 (s176.1).length c186]) 124 :: HP.ow rByte 5 p185 c186 s176.1 :: l) := H.blkOw (R := rByte) 0 rfl (fun gg => ⟨[[.int .u8 (IntKind.u8.wrap (x187))]], rfl, (congrArg (fun z => [Value.int .u8 z]) (u8O_some ex189).symm), trivial⟩) (by simp)
           refine lz ?_; refine ct ⟨⟨_, (H.pm 3 [1, 0, 2] rfl:)⟩, ?_⟩
           refine m_heavy rfl rfl ?_
           replace H := H.frz 0 rfl
           obtain ⟨x191, ex191, hm⟩ := ob hm
           refine s_app wkP F rfl rfl rfl rfl rfl rfl elem33 rfl ex191 H 2 0 rfl rfl ?_; clear F H; intro p190 c190 w a H F
           refine lz ?_; refine ct ⟨⟨_, (H.pm 3 [1, 0, 2] rfl:)⟩, ?_⟩
           refine mbk [0, 0] F H rfl ⟨fld124_0, trivial⟩ ?_; clear F; intro a F
           refine m_last rfl rfl ?_
           refine s_st1 wkP F rfl rfl zero33 rfl rfl rfl rfl rfl H 1 rfl rfl ?_; clear H; intro w H
           refine lz ?_; refine ct ?_
           refine m_nil ?_
           refine bn (ct (rl (bk [0, 0, 0] F H rfl trivial ?_))); clear F; intro a F
           replace H := H.nf 3 rfl
           refine lz ?_
           replace H := O_pack_Pen_s (H.pm 3 [1, 2, 0] rfl:)
           refine ct ?_; cases hm
           exact ⟨_, rfl, ⟨F.sl rfl, (H.pm 2 [0] rfl:)⟩⟩
         · replace hm := ifF hg177 hm
           refine ex (cx (cx ?_)); cases hm; refine ⟨_, rfl, ?_⟩; rintro rfl
           refine ch (ct ?_)
           exact ⟨F.cut _ trivial, H⟩
       · skip
         clear F H hm
         rintro a w ⟨F, H⟩; have hm := hm145; clear hm145
         refine ct (sr (bk [0] F H rfl trivial ?_)); clear F; intro a F
         refine nl (wr ?_)
         cases hm
         refine x_ret1 F rfl rfl ?_
         exact ⟨_, rfl, rfl, H⟩
theorem ent42 : ∀ args w, (callFunc 42 args).run Tryd.prog w = .ok (.enter 42 args) w := enters Tryd.func42 (by kernel_rfl) rfl
set_option maxRecDepth 100000 in
set_option maxHeartbeats 4000000 in
theorem w_penData {p : T_pack_Pen_o} {bo0 : Nat} {w0 w : World} {l : List HP}  {r : (List UInt8) × T_pack_Pen_o} (hm : penData p = some r) (H : St w0 w (O_pack_Pen bo0 p :: l)) :
  Calls Tryd.prog 77 [.pointer (some ⟨bo0, 0, none⟩)].toArray w (fun e w' => ∃ v, e = .returned v ∧ ∃ (p1 : Option Addr) (c1 : Nat), v = .slice p1 (r.1).length c1 ∧ St w0 w' (HP.ow rByte 5 p1 c1 r.1 :: O_pack_Pen_1 bo0 r.2 :: l)) := by
 unfold penData at hm
 refine x_enter Tryd.func77 rfl rfl rfl ?_
 intro a F
 refine sr (bk [0] F H rfl trivial ?_); clear F; intro a F
 refine nl (sr (bk [0, 0, 0] F H rfl ⟨fld124_0, trivial⟩ ?_)); clear F; intro a F
 obtain ⟨p2, c3, H⟩ := O_pack_Pen_o (H.pk 0 rfl)
 refine bk [0] F H rfl ⟨rfl, plain33, trivial⟩ ?_; clear F; intro a F
 replace H := H.frz 1 rfl
 obtain ⟨x4, ex4, hm⟩ := ob hm
 refine sc wkP F rfl ent42 (w_cloneB ex4 (H.pm 2 [0, 0, 1] rfl:):) ?_; clear F H; rintro _ w a ⟨p5, c5, rfl, H⟩ F
 refine bk [0] F H rfl trivial ?_; clear F; intro a F
 replace H := H.nf 3 rfl
 refine nl (wr ?_)
 replace H := O_pack_Pen_1_s (H.pm 3 [2, 1, 0, 1] rfl:)
 cases hm
 refine x_ret1 F rfl rfl ?_
 exact ⟨_, rfl, p5, c5, rfl, (H.pm 3 [1, 0] rfl:)⟩
set_option maxRecDepth 100000 in
set_option maxHeartbeats 4000000 in
theorem w_newEye {data : List UInt8} {p1 : Option Addr} {c1 : Nat} {w0 w : World} {l : List HP}  {r : T_pack_Eye_o} (hm : newEye data = some r) (H : St w0 w (HP.sl rByte p1 c1 data :: l)) :
  Calls Tryd.prog 57 [.slice p1 (data).length c1].toArray w (fun e w' => ∃ v, e = .returned v ∧ ∃ (b2 : Nat), v = .pointer (some ⟨b2, 0, none⟩) ∧ St w0 w' (O_pack_Eye b2 r :: l)) := by
 unfold newEye at hm
 refine x_enter Tryd.func57 rfl rfl rfl ?_
 intro a F
 refine sr (bk [0] F H rfl trivial ?_); clear F; intro a F
 refine nl (sr (bk [0] F H rfl trivial ?_)); clear F; intro a F
 obtain ⟨x3, ex3, hm⟩ := ob hm
 refine sc wkP F rfl ent42 (w_cloneB ex3 (H.pm 1 [0, 0] rfl:):) ?_; clear F H; rintro _ w a ⟨p4, c4, rfl, H⟩ F
 refine s_val wkP F rfl rfl rfl rfl (y_build F rfl rfl (cs := [.slice p4 (x3).length c4]) (by kernel_rfl)) ?_; clear F; intro a F
 refine s_boxA wkP F rfl rfl rfl rfl rfl H ?_; clear F H; intro b5 w a H F
 refine bk [0] F H rfl trivial ?_; clear F; intro a F
 replace H := H.nf 3 rfl
 refine nl (wr ?_)
 replace H := H.frz 1 rfl
 replace H := O_pack_Eye_s (H.pm 3 [1, 0, 0, 2] rfl:)
 cases hm
 refine x_ret1 F rfl rfl ?_
 exact ⟨_, rfl, b5, rfl, (H.pm 3 [0] rfl:)⟩
theorem fld133_0 : FieldT Tryd.prog 133 0 0 := by unfold FieldT; rw [Tryd.underlying133]; kernel_rfl
set_option maxRecDepth 100000 in
set_option maxHeartbeats 4000000 in
theorem w_eyeRaw {e : T_pack_Eye_o} {n : Int} {bo0 : Nat} {w0 w : World} {l : List HP}  {r : (List UInt8) × Int × T_pack_Eye_o} (hm : eyeRaw e n = some r) (H : St w0 w (O_pack_Eye bo0 e :: l)) :
  Calls Tryd.prog 59 [.pointer (some ⟨bo0, 0, none⟩), .int .i64 (n)].toArray w (fun e w' => ∃ v, e = .returned v ∧ ∃ (p1 : Option Addr) (c1 : Nat), v = .tuple [.slice p1 (r.1).length c1, .int .i64 (r.2.1)].toArray ∧ St w0 w' (HP.ow rByte 5 p1 c1 r.1 :: O_pack_Eye bo0 r.2.2 :: l)) := by
 unfold eyeRaw at hm
 refine x_enter Tryd.func59 rfl rfl rfl ?_
 intro a F
 refine sr (bk [0, 0] F H rfl trivial ?_); clear F; intro a F
 refine nl (sq (bl (sr (bk [0, 0, 0] F H rfl trivial ?_)))); clear F; intro a F
 refine nl (cP F rfl (fun hg2 => ?_) (fun hg2 => ?_))
 · replace hm := ifT hg2 hm
   refine sr (bk [0, 0] F H rfl trivial ?_); clear F; intro a F
   refine nl (wr (br (tr ?_)))
   replace H := H.owNil rByte 5
   cases hm
   refine x_ret2 F rfl rfl rfl ?_
   exact ⟨_, rfl, none, 0, rfl, H⟩
 · replace hm := ifF hg2 hm
   refine sr (bk [0, 0, 0, 0] F H rfl ⟨fld133_0, trivial⟩ ?_); clear F; intro a F
   obtain ⟨p3, c4, H⟩ := O_pack_Eye_o (H.pk 0 rfl)
   refine bk [0, 0, 0, 0] F H rfl ⟨rfl, plain33, ⟨_, Tryd.underlying33⟩, trivial⟩ ?_; clear F; intro a F
   refine nl (cP F rfl (fun hg5 => ?_) (fun hg5 => ?_))
   · replace hm := ifT hg5 hm
     refine sr (bk [0, 0] F H rfl trivial ?_); clear F; intro a F
     refine nl (wr (br (tr ?_)))
     replace H := H.owNil rByte 5
     replace H := O_pack_Eye_s (H.pm 3 [1, 2, 0, 2] rfl:)
     cases hm
     refine x_ret2 F rfl rfl rfl ?_
     exact ⟨_, rfl, none, 0, rfl, (H.pm 3 [1, 0] rfl:)⟩
   · replace hm := ifF hg5 hm
     refine sk (bn (ct (sr (bk (List.replicate 5 0) F H rfl ⟨fld133_0, rfl, plain33, trivial⟩ ?_)))); clear F; intro a F
     obtain ⟨x7, ex7, hm⟩ := ob hm
     have hc6 := H.slCap 1 rfl
     replace H := H.slSubN 1 rfl 1 rfl ex7
     refine s_val wkP F rfl rfl rfl rfl (y_slH F elem33 rfl rfl rfl ex7 hc6) ?_; clear F; intro a F
     obtain ⟨x8, ex8, hm⟩ := ob hm
     refine sc wkP F rfl ent42 (w_cloneB ex8 (H.pm 3 [0, 0, 1, 2] rfl:):) ?_; clear F H; rintro _ w a ⟨p9, c9, rfl, H⟩ F
     refine bk [0] F H rfl trivial ?_; clear F; intro a F
     replace H := H.nf 4 rfl
     refine nl (sr (bk [0, 0, 0, 0, 2000, 0] F H rfl ⟨fld133_0, rfl, plain33, trivial⟩ ?_)); clear F; intro a F
     obtain ⟨x11, ex11, hm⟩ := ob hm
     have hc10 := H.slCap 3 rfl
     replace H := H.slSubN 1 rfl 3 rfl ex11
     refine s_val wkP F rfl rfl rfl rfl (y_slL F elem33 rfl rfl rfl ex11 hc10) ?_; clear F; intro a F
     refine bk [0, 0] F H rfl ⟨fld133_0, trivial⟩ ?_; clear F; intro a F
     refine s_st1 wkP F rfl rfl zero33 rfl rfl rfl rfl rfl H 3 rfl rfl ?_; clear H; intro w H
     replace H := H.nf 5 rfl
     refine nl (sr (bk [0, 0, 0] F H rfl trivial ?_)); clear F; intro a F
     refine nl (wr ?_)
     replace H := O_pack_Eye_s (H.pm 5 [3, 0, 0, 1, 2, 4] rfl:)
     cases hm
     refine x_ret2 F rfl rfl rfl ?_
     exact ⟨_, rfl, p9, c9, rfl, (H.pm 5 [2, 0] rfl:)⟩
theorem ent59 : ∀ args w, (callFunc 59 args).run Tryd.prog w = .ok (.enter 59 args) w := enters Tryd.func59 (by kernel_rfl) rfl
set_option maxRecDepth 100000 in
set_option maxHeartbeats 4000000 in
theorem w_eyeUint {e : T_pack_Eye_o} {size : Int} {bo0 : Nat} {w0 w : World} {l : List HP}  {r : Int × Int × T_pack_Eye_o} (hm : eyeUint e size = some r) (H : St w0 w (O_pack_Eye bo0 e :: l)) :
  Calls Tryd.prog 58 [.pointer (some ⟨bo0, 0, none⟩), .int .i64 (size)].toArray w (fun e w' => ∃ v, e = .returned v ∧ v = .tuple [.int .u64 (r.1), .int .i64 (r.2.1)].toArray ∧ St w0 w' (O_pack_Eye bo0 r.2.2 :: l)) := by
 unfold eyeUint at hm
 refine x_enter Tryd.func58 rfl rfl rfl ?_
 intro a F
 refine sr (bk [0, 0] F H rfl trivial ?_); clear F; intro a F
 refine nl (sq (sr (bk [0, 0, 0] F H rfl trivial ?_))); clear F; intro a F
 by_cases hg1 : size < 1
 · replace hm := ifT hg1 hm
   replace F := F.bT 11 hg1 rfl
   refine bk [0, 0, 0] F H rfl trivial ?_; clear F; intro a F
   refine nl (cT F rfl ?_)
   refine sr (bk [0, 0] F H rfl trivial ?_); clear F; intro a F
   refine nl (wr (tr ?_))
   cases hm
   refine x_ret2 F rfl rfl rfl ?_
   exact ⟨_, rfl, rfl, H⟩
 · replace hm := ifF hg1 hm
   replace F := F.bF 11 hg1 rfl
   refine bk [0, 0, 0] F H rfl trivial ?_; clear F; intro a F
   refine nl (cP F rfl (fun hg2 => ?_) (fun hg2 => ?_))
   · replace hm := ifT hg2 hm
     refine sr (bk [0, 0] F H rfl trivial ?_); clear F; intro a F
     refine nl (wr (tr ?_))
     cases hm
     refine x_ret2 F rfl rfl rfl ?_
     exact ⟨_, rfl, rfl, H⟩
   · replace hm := ifF hg2 hm
     refine sk (ct (sr (bk [0, 0] F H rfl trivial ?_))); clear F; intro a F
     obtain ⟨x3, ex3, hm⟩ := ob hm
     refine sc wkP F rfl ent59 (w_eyeRaw ex3 H:) ?_; clear F H; rintro _ w a ⟨p4, c4, rfl, H⟩ F
     refine bk (List.replicate 5 0) F H rfl trivial ?_; clear F; intro a F
     replace H := H.nf 2 rfl
     refine nl (sq (sr (bk [0, 0, 0] F H rfl ⟨⟨_, Tryd.underlying33⟩, trivial⟩ ?_))); clear F; intro a F
     refine nl ?_
     obtain ⟨r18, er18, hm18⟩ := ob hm; clear hm; revert er18; intro hm
     refine x_mid (fun aa ww => Fr ⟨35, []⟩ aa [(4, .int .u64 (r18)), (5, .int .i64 (x3.2.1))] ∧ St w0 ww (HP.ow rByte 5 p4 c4 x3.1 :: O_pack_Eye bo0 x3.2.2 :: l)) ?_ ?_
     · skip
       refine bl (x_loopO _ (fun (s27 : Int × Int) aa ww => Fr ⟨35, []⟩ aa [(4, .int .u64 (s27.1)), (5, .int .i64 (x3.2.1)), (21, .slice p4 (x3.1).length c4), (22, .int .i64 (((x3.1).length : Int))), (23, .int .i64 (s27.2))] ∧ St w0 ww (HP.ow rByte 5 p4 c4 x3.1 :: O_pack_Eye bo0 x3.2.2 :: l)) hm ⟨F.sl rfl, H⟩ ?_)
       clear F H hm
       rintro s27 a w o ⟨F, H⟩ hm
       refine sr (bk [0] F H rfl trivial ?_); clear F; intro a F
       refine nl (sq (cP F rfl (fun hg28 => ?_) (fun hg28 => ?_)))
       · replace hm := ifT hg28 hm
         refine sk (ct (sq (bl (sr ?_))))
         obtain ⟨x29, ex29, hm⟩ := ob hm
         obtain ⟨b30, hp30⟩ := H.owP 0 rfl (idxO_some ex29).2
         refine s_val wkP F rfl rfl rfl rfl (y_idxS F elem33 rfl rfl rfl hp30 ex29) ?_; clear F; intro a F
         refine s_val wkP F rfl rfl rfl rfl (y_load1 F plain5 rfl rfl (H.owB 0 rfl hp30 ex29)) ?_; clear F; intro a F
         refine bk [0] F H rfl trivial ?_; clear F; intro a F
         refine nl (rl (bk [0] F H rfl trivial ?_)); clear F; intro a F
         refine s_val wkP F rfl rfl rfl rfl (i_shl F rfl rfl rfl (by decide)) ?_; clear F; intro a F
         refine bk [0, 2, 0, 0] F H rfl ⟨Tryd.underlying5, Tryd.underlying115, trivial⟩ ?_; clear F; intro a F
         refine lz (bn (ct (rl (bk [0, 0] F H rfl trivial ?_)))); clear F; intro a F
         refine lz (ct ?_); cases hm
         exact ⟨_, rfl, ⟨F.sl rfl, H⟩⟩
       · replace hm := ifF hg28 hm
         refine ex (cx (cx ?_)); cases hm; refine ⟨_, rfl, ?_⟩; rintro rfl
         refine ch (ct ?_)
         exact ⟨F.sl rfl, H⟩
     · skip
       clear F H hm
       rintro a w ⟨F, H⟩; have hm := hm18; clear hm18
       refine ct (sr (bk [0, 0, 0, 0] F H rfl trivial ?_)); clear F; intro a F
       refine nl (wr ?_)
       cases hm
       refine x_ret2 F rfl rfl rfl ?_
       exact ⟨_, rfl, rfl, (H.pm 2 [1] rfl:)⟩
theorem ent77 : ∀ args w, (callFunc 77 args).run Tryd.prog w = .ok (.enter 77 args) w := enters Tryd.func77 (by kernel_rfl) rfl
set_option maxRecDepth 100000 in
set_option maxHeartbeats 4000000 in
theorem w_secFull {p : T_pack_Pen_o} {bo0 : Nat} {w0 w : World} {l : List HP}  {r : (List UInt8) × T_pack_Pen_o} (hm : secFull p = some r) (H : St w0 w (O_pack_Pen bo0 p :: l)) :
  Calls Tryd.prog 66 [.pointer (some ⟨bo0, 0, none⟩)].toArray w (fun e w' => ∃ v, e = .returned v ∧ ∃ (p1 : Option Addr) (c1 : Nat), v = .slice p1 (r.1).length c1 ∧ St w0 w' (HP.ow rByte 5 p1 c1 r.1 :: O_pack_Pen_1 bo0 r.2 :: l)) := by
 unfold secFull at hm
 refine x_enter Tryd.func66 rfl rfl rfl ?_
 intro a F
 refine sr (bk [0] F H rfl trivial ?_); clear F; intro a F
 refine nl (sr (bk [0] F H rfl trivial ?_)); clear F; intro a F
 obtain ⟨x2, ex2, hm⟩ := ob hm
 refine sc wkP F rfl ent77 (w_penData ex2 H:) ?_; clear F H; rintro _ w a ⟨p3, c3, rfl, H⟩ F
 refine bk [0] F H rfl trivial ?_; clear F; intro a F
 replace H := H.nf 2 rfl
 refine nl (sr (bk [0, 0, 0, 0] F H rfl ⟨⟨_, Tryd.underlying33⟩, trivial⟩ ?_)); clear F; intro a F
 obtain ⟨x5, ex5, hm⟩ := ob hm
 refine s_appMk (R := rByte) wkP F rfl rfl rfl rfl rfl rfl elem33 rfl rfl rfl Tryd.underlying3 rfl (z' := (0 : UInt8)) (fun _ => rfl) ex5 H 0 rfl ?_; clear F H; intro p4 c4 w a H F
 refine bk [0] F H rfl trivial ?_; clear F; intro a F
 replace H := H.nf 2 rfl
 refine nl (wr ?_)
 cases hm
 refine x_ret1 F rfl rfl ?_
 exact ⟨_, rfl, p4, c4, rfl, H⟩
theorem ent64 : ∀ args w, (callFunc 64 args).run Tryd.prog w = .ok (.enter 64 args) w := enters Tryd.func64 (by kernel_rfl) rfl
theorem ent65 : ∀ args w, (callFunc 65 args).run Tryd.prog w = .ok (.enter 65 args) w := enters Tryd.func65 (by kernel_rfl) rfl
theorem ent66 : ∀ args w, (callFunc 66 args).run Tryd.prog w = .ok (.enter 66 args) w := enters Tryd.func66 (by kernel_rfl) rfl
set_option maxRecDepth 100000 in
set_option maxHeartbeats 4000000 in
theorem w_wrap {block : List UInt8} {p1 : Option Addr} {c1 : Nat} {w0 w : World} {l : List HP}  {r : (List UInt8) × Int} (hm : wrap block = some r) (H : St w0 w (HP.sl rByte p1 c1 block :: l)) :
  Calls Tryd.prog 36 [.slice p1 (block).length c1].toArray w (fun e w' => ∃ v, e = .returned v ∧ ∃ (p2 : Option Addr) (c2 : Nat), v = .tuple [.slice p2 (r.1).length c2, .int .i64 (r.2)].toArray ∧ St w0 w' (HP.ow rByte 5 p2 c2 r.1 :: l)) := by
 unfold wrap at hm
 refine x_enter Tryd.func36 rfl rfl rfl ?_
 intro a F
 refine sr (bk [0, 0] F H rfl trivial ?_); clear F; intro a F
 refine nl (sq (sr (bk [0, 0, 0] F H rfl ⟨⟨_, Tryd.underlying33⟩, trivial⟩ ?_))); clear F; intro a F
 refine nl (cP F rfl (fun hg3 => ?_) (fun hg3 => ?_))
 · replace hm := ifT hg3 hm
   refine sr (bk [0, 0] F H rfl trivial ?_); clear F; intro a F
   refine nl (wr (tr ?_))
   replace H := H.owNil rByte 5
   cases hm
   refine x_ret2 F rfl rfl rfl ?_
   exact ⟨_, rfl, none, 0, rfl, (H.pm 2 [0] rfl:)⟩
 · replace hm := ifF hg3 hm
   refine sk (ct (sr ?_))
   replace H := H.owNil rByte 5
   refine s_val wkP F rfl rfl rfl rfl (y_build F rfl rfl (cs := [.slice none (([] : List UInt8)).length 0]) (by kernel_rfl)) ?_; clear F; intro a F
   refine s_boxA wkP F rfl rfl rfl rfl rfl H ?_; clear F H; intro b4 w a H F
   refine bk [0] F H rfl trivial ?_; clear F; intro a F
   replace H := H.nf 3 rfl
   refine nl (sr (bk [0] F H rfl trivial ?_)); clear F; intro a F
   obtain ⟨x6, ex6, hm⟩ := ob hm
   refine s_buildC wkP F rfl rfl rfl elem33 zero5 rfl rfl rfl rfl (by simp [Value.cells]) (by decide) H ?_; clear F H; intro b5 w a H F
   replace H : St w0 w (HP.ow rByte 5 (some ⟨b5, 0, none⟩) (([x6]).length) ([x6]) :: HP.blk b4 ([.slice none (([] : List UInt8)).length 0]) 124 :: HP.ow rByte 5 none 0 ([] : List UInt8) :: HP.sl rByte p1 c1 block :: l) := H.blkOw (R := rByte) 0 rfl (fun gg => ⟨[[.int .u8 (66)]], rfl, (congrArg (fun z => [Value.int .u8 z]) (u8O_some ex6).symm), trivial⟩) (by simp)
   replace H := O_pack_Pen_s (x0 := ([] : List UInt8)) (H.pm 4 [1, 2, 0, 3] rfl:)
   replace H := H.frz 1 rfl
   obtain ⟨x7, ex7, hm⟩ := ob hm
   refine sc wkP F rfl ent64 (w_penRaw ex7 (H.pm 3 [1, 0, 0, 2] rfl:):) ?_; clear F H; rintro _ w a ⟨rfl, H⟩ F
   replace H := H.nf 3 rfl
   refine nl (sr (bk [0, 0, 0, 2] F H rfl ⟨⟨_, Tryd.underlying33⟩, Tryd.underlying3, Tryd.underlying115, trivial⟩ ?_)); clear F; intro a F
   obtain ⟨x8, ex8, hm⟩ := ob hm
   refine sc wkP F rfl ent65 (w_penUint ex8 H:) ?_; clear F H; rintro _ w a ⟨rfl, H⟩ F
   replace H := H.nf 3 rfl
   refine nl (sr (bk [0, 0] F H rfl trivial ?_)); clear F; intro a F
   obtain ⟨x9, ex9, hm⟩ := ob hm
   refine sc wkP F rfl ent64 (w_penRaw ex9 (H.pm 3 [0, 2, 1, 2] rfl:):) ?_; clear F H; rintro _ w a ⟨rfl, H⟩ F
   replace H := H.nf 3 rfl
   refine nl (sr (bk [0] F H rfl trivial ?_)); clear F; intro a F
   obtain ⟨x10, ex10, hm⟩ := ob hm
   refine sc wkP F rfl ent66 (w_secFull ex10 H:) ?_; clear F H; rintro _ w a ⟨p11, c11, rfl, H⟩ F
   refine bk [0, 0] F H rfl trivial ?_; clear F; intro a F
   replace H := H.nf 4 rfl
   refine nl (wr ?_)
   cases hm
   refine x_ret2 F rfl rfl rfl ?_
   exact ⟨_, rfl, p11, c11, rfl, (H.pm 4 [0] rfl:)⟩
set_option maxRecDepth 100000 in
set_option maxHeartbeats 4000000 in
theorem w_equalB {x : List UInt8} {y : List UInt8} {p1 : Option Addr} {c1 : Nat} {p2 : Option Addr} {c2 : Nat} {w0 w : World} {l : List HP}  {r : Bool} (hm : equalB x y = some r) (H : St w0 w (HP.sl rByte p1 c1 x :: HP.sl rByte p2 c2 y :: l)) :
  Calls Tryd.prog 60 [.slice p1 (x).length c1, .slice p2 (y).length c2].toArray w (fun e w' => ∃ v, e = .returned v ∧ v = .bool (r) ∧ St w0 w' (l)) := by
 unfold equalB at hm
 refine x_enter Tryd.func60 rfl rfl rfl ?_
 intro a F
 refine sr (bk [0] F H rfl trivial ?_); clear F; intro a F
 refine nl (sq (sr (bk (List.replicate 5 0) F H rfl ⟨⟨_, Tryd.underlying33⟩, ⟨_, Tryd.underlying33⟩, trivial⟩ ?_))); clear F; intro a F
 refine nl (cN F rfl (fun hg3 => ?_) (fun hg3 => ?_))
 · replace hm := ifF hg3 hm
   refine sr (bk [0] F H rfl trivial ?_); clear F; intro a F
   refine nl (wr (tr ?_))
   cases hm
   refine x_ret1 F rfl rfl ?_
   exact ⟨_, rfl, rfl, (H.pm 2 [] rfl:)⟩
 · replace hm := ifT hg3 hm
   refine sk (ct (sq (sr (bk [0, 0, 0] F H rfl ⟨⟨_, Tryd.underlying33⟩, trivial⟩ ?_)))); clear F; intro a F
   refine nl ?_
   obtain ⟨o29, eo29, hm29⟩ := ob hm; clear hm; revert eo29; intro hm
   refine x_mid (fun aa ww => ∃ r29, o29 = Sum.inl r29 ∧ Fr ⟨26, []⟩ aa [] ∧ St w0 ww (l)) ?_ ?_
   · skip
     refine bl (x_loopO _ (fun (s46 : Int) aa ww => Fr ⟨26, []⟩ aa [(0, .slice p1 (x).length c1), (1, .slice p2 (y).length c2), (12, .int .i64 (((x).length : Int))), (13, .int .i64 (s46))] ∧ St w0 ww (HP.sl rByte p1 c1 x :: HP.sl rByte p2 c2 y :: l)) hm ⟨F.sl rfl, H⟩ ?_)
     clear F H hm
     rintro s46 a w o ⟨F, H⟩ hm
     refine sr (bk [0] F H rfl trivial ?_); clear F; intro a F
     refine nl (sq (cP F rfl (fun hg47 => ?_) (fun hg47 => ?_)))
     · replace hm := ifT hg47 hm
       refine sk (ct (sq (bl (sr (bk [0, 0] F H rfl trivial ?_))))); clear F; intro a F
       refine nl (sq ?_)
       obtain ⟨x48, ex48, hm⟩ := ob hm
       obtain ⟨b49, o49, hp49⟩ := H.slP 0 rfl (idxO_some ex48).2
       obtain ⟨cs50, hcl50, H⟩ := H.slEl 0 rfl hp49 (idxO_some ex48).2
       obtain rfl := H.rcB 1 rfl
       replace H := H.dp 1 rfl
       clear hcl50
       obtain ⟨x51, ex51, hm⟩ := ob hm
       obtain ⟨b52, o52, hp52⟩ := H.slP 2 rfl (idxO_some ex51).2
       obtain ⟨cs53, hcl53, H⟩ := H.slEl 2 rfl hp52 (idxO_some ex51).2
       obtain rfl := H.rcB 1 rfl
       replace H := H.dp 1 rfl
       clear hcl53
       refine qr H (by kernel_rfl) (by kernel_rfl) ?_
       refine qbk [0, 0] F rfl trivial ?_; clear F; intro a F
       refine q_val F rfl rfl rfl (fun u hu => y_idxS F elem33 rfl rfl rfl hp49 ex48) ?_; clear F; intro a F
       refine qbk [1000, 0, 0] F rfl ⟨rfl, plain5, trivial⟩ ?_; clear F; intro a F
       refine q_val F rfl rfl rfl (fun u hu => y_idxS F elem33 rfl rfl rfl hp52 ex51) ?_; clear F; intro a F
       refine qbk [0, 0] F rfl ⟨rfl, plain5, trivial⟩ ?_; clear F; intro a F
       refine q_nil ?_; clear H; intro w H
       refine ct (cN F rfl (fun hg54 => ?_) (fun hg54 => ?_))
       · replace hm := ifF hg54 hm
         refine sr (bk [0] F H rfl trivial ?_); clear F; intro a F
         refine nl (wr (br (tr (tr ?_)))); cases hm; refine ⟨_, rfl, ?_⟩; rintro rfl
         refine br (tr ?_)
         replace hm := elimR hm29
         refine tr ?_
         cases hm
         refine x_ret1 F rfl rfl ?_
         exact ⟨_, rfl, rfl, (H.pm 4 [] rfl:)⟩
       · replace hm := ifT hg54 hm
         refine sk (bn (ct (rl (bk [0, 0] F H rfl trivial ?_)))); clear F; intro a F
         refine lz (ct ?_); cases hm
         exact ⟨_, rfl, ⟨F.sl rfl, (H.pm 4 [2, 3] rfl:)⟩⟩
     · replace hm := ifF hg47 hm
       refine ex (cx (cx ?_)); cases hm; refine ⟨_, rfl, ?_⟩; rintro rfl
       refine ch (ct ?_)
       exact ⟨_, rfl, F.cut _ trivial, (H.pm 2 [] rfl:)⟩
   · skip
     clear F H hm
     rintro a w ⟨r29, rfl, F, H⟩; have hm := elimL hm29; clear hm29
     refine ct (sr (bk [0] F H rfl trivial ?_)); clear F; intro a F
     refine nl (wr ?_)
     cases hm
     refine x_ret1 F rfl rfl ?_
     exact ⟨_, rfl, rfl, H⟩
theorem ent57 : ∀ args w, (callFunc 57 args).run Tryd.prog w = .ok (.enter 57 args) w := enters Tryd.func57 (by kernel_rfl) rfl
theorem ent58 : ∀ args w, (callFunc 58 args).run Tryd.prog w = .ok (.enter 58 args) w := enters Tryd.func58 (by kernel_rfl) rfl
theorem ent36 : ∀ args w, (callFunc 36 args).run Tryd.prog w = .ok (.enter 36 args) w := enters Tryd.func36 (by kernel_rfl) rfl
theorem ent60 : ∀ args w, (callFunc 60 args).run Tryd.prog w = .ok (.enter 60 args) w := enters Tryd.func60 (by kernel_rfl) rfl
set_option maxRecDepth 100000 in
set_option maxHeartbeats 4000000 in
theorem w_unwrap {sector : List UInt8} {p1 : Option Addr} {c1 : Nat} {w0 w : World} {l : List HP}  {r : (List UInt8) × Int} (hm : unwrap sector = some r) (H : St w0 w (HP.sl rByte p1 c1 sector :: l)) :
  Calls Tryd.prog 34 [.slice p1 (sector).length c1].toArray w (fun e w' => ∃ v, e = .returned v ∧ ∃ (p2 : Option Addr) (c2 : Nat), v = .tuple [.slice p2 (r.1).length c2, .int .i64 (r.2)].toArray ∧ St w0 w' (HP.sl rByte p2 c2 r.1 :: l)) := by
 unfold unwrap at hm
 refine x_enter Tryd.func34 rfl rfl rfl ?_
 intro a F
 refine sr (bk [0, 0] F H rfl trivial ?_); clear F; intro a F
 refine nl (sr (bk [0] F H rfl trivial ?_)); clear F; intro a F
 obtain ⟨x3, ex3, hm⟩ := ob hm
 refine sc wkP F rfl ent57 (w_newEye ex3 (H.pm 1 [0, 0] rfl:):) ?_; clear F H; rintro _ w a ⟨b4, rfl, H⟩ F
 refine bk [0] F H rfl trivial ?_; clear F; intro a F
 replace H := H.nf 2 rfl
 refine nl (sr (bk [0] F H rfl trivial ?_)); clear F; intro a F
 obtain ⟨x5, ex5, hm⟩ := ob hm
 refine sc wkP F rfl ent58 (w_eyeUint ex5 H:) ?_; clear F H; rintro _ w a ⟨rfl, H⟩ F
 replace H := H.nf 2 rfl
 refine nl (sr (bk [0] F H rfl trivial ?_)); clear F; intro a F
 obtain ⟨x6, ex6, hm⟩ := ob hm
 refine sc wkP F rfl ent58 (w_eyeUint ex6 H:) ?_; clear F H; rintro _ w a ⟨rfl, H⟩ F
 refine bk (List.replicate 5 0) F H rfl trivial ?_; clear F; intro a F
 replace H := H.nf 2 rfl
 refine nl (sr (bk [0, 0, 0] F H rfl ⟨Tryd.underlying115, Tryd.underlying3, trivial⟩ ?_)); clear F; intro a F
 obtain ⟨x7, ex7, hm⟩ := ob hm
 refine sc wkP F rfl ent59 (w_eyeRaw ex7 H:) ?_; clear F H; rintro _ w a ⟨p8, c8, rfl, H⟩ F
 refine bk (List.replicate 5 0) F H rfl trivial ?_; clear F; intro a F
 replace H := H.nf 3 rfl
 refine nl (sq (sr (bk [0, 0] F H rfl trivial ?_))); clear F; intro a F
 refine nl (cN F rfl (fun hg9 => ?_) (fun hg9 => ?_))
 · replace hm := ifF hg9 hm
   refine sr (bk [0, 0] F H rfl trivial ?_); clear F; intro a F
   refine nl (wr (tr ?_))
   replace H := H.slNil rByte
   cases hm
   refine x_ret2 F rfl rfl rfl ?_
   exact ⟨_, rfl, none, 0, rfl, (H.pm 4 [0] rfl:)⟩
 · replace hm := ifT hg9 hm
   refine sk (ct (sq (sr (bk [0] F H rfl trivial ?_)))); clear F; intro a F
   replace H := H.frz 0 rfl
   obtain ⟨x10, ex10, hm⟩ := ob hm
   refine sc wkP F rfl ent36 (w_wrap ex10 (H.pm 3 [0, 0, 1, 2] rfl:):) ?_; clear F H; rintro _ w a ⟨p11, c11, rfl, H⟩ F
   refine bk (List.replicate 5 0) F H rfl trivial ?_; clear F; intro a F
   replace H := H.nf 4 rfl
   refine nl (sr (bk [0, 0, 0] F H rfl trivial ?_)); clear F; intro a F
   by_cases hg12 : x10.2 = 0
   · replace hm := ifT hg12 hm
     replace F := F.nT 36 hg12 rfl
     refine bk [0, 0] F H rfl trivial ?_; clear F; intro a F
     refine g_onP F rfl rfl rfl rfl ?_
     replace H := H.frz 0 rfl
     obtain ⟨x13, ex13, hm⟩ := ob hm
     refine sc wkP F rfl ent60 (w_equalB ex13 (H.pm 4 [0, 3, 0, 1, 2, 3] rfl:):) ?_; clear F H; rintro _ w a ⟨rfl, H⟩ F
     refine bk [0, 0] F H rfl trivial ?_; clear F; intro a F
     replace H := H.nf 4 rfl
     refine nl (cB F rfl (fun hg14 => ?_) (fun hg14 => ?_))
     · replace hm := ifT hg14 hm
       refine sr (bk [0, 0] F H rfl trivial ?_); clear F; intro a F
       refine nl (wr (tr ?_))
       replace H := H.slNil rByte
       cases hm
       refine x_ret2 F rfl rfl rfl ?_
       exact ⟨_, rfl, none, 0, rfl, (H.pm 5 [0] rfl:)⟩
     · replace hm := ifF (nT hg14) hm
       refine sk (ct (sr (bk [0, 0, 0] F H rfl trivial ?_))); clear F; intro a F
       refine nl (wr ?_)
       cases hm
       refine x_ret2 F rfl rfl rfl ?_
       exact ⟨_, rfl, p8, c8, rfl, (H.pm 4 [1] rfl:)⟩
   · replace hm := ifF hg12 hm
     replace F := F.nF 36 hg12 rfl
     refine bk (List.replicate 5 0) F H rfl trivial ?_; clear F; intro a F
     refine nl (cT F rfl ?_)
     refine sr (bk [0, 0] F H rfl trivial ?_); clear F; intro a F
     refine nl (wr (tr ?_))
     replace H := H.slNil rByte
     cases hm
     refine x_ret2 F rfl rfl rfl ?_
     exact ⟨_, rfl, none, 0, rfl, (H.pm 5 [0] rfl:)⟩
end Go.Proofs.YtfepdfjhejkemaaDoor
