/- missing -/
import Derived.Test.YtgcgggjihhdonaaDoorKeyA
set_option linter.unusedSimpArgs false
set_option linter.unusedVariables false
namespace Go.Proofs.YtgcgggjihhdonaaDoor
open Go.RowKit Go.Tri
theorem keyS48 : KeyT Tryd.prog 48 ekP3 (okP3 32) := keyP3_make (n := 32) (by kernel_rfl) Tryd.underlying48 (by kernel_rfl) (by kernel_rfl) rfl (by kernel_rfl) Tryd.underlying32 Tryd.underlying5 (by kernel_rfl) rfl (by kernel_rfl) Tryd.underlying3 rfl (by kernel_rfl) Tryd.underlying3
theorem zero3 : Zero1 Tryd.prog 3 (.int .i64 0) := ⟨by kernel_rfl, rfl⟩
theorem fld45_3 : FieldT Tryd.prog 45 3 3 := by unfold FieldT; rw [Tryd.underlying45]; kernel_rfl
theorem plain41 : Plain Tryd.prog 41 := by unfold Plain; rw [Tryd.underlying41]; rfl
theorem agg48 : AggT Tryd.prog 48 34 [.int .u8 0, .int .u8 0, .int .u8 0, .int .u8 0, .int .u8 0, .int .u8 0, .int .u8 0, .int .u8 0, .int .u8 0, .int .u8 0, .int .u8 0, .int .u8 0, .int .u8 0, .int .u8 0, .int .u8 0, .int .u8 0, .int .u8 0, .int .u8 0, .int .u8 0, .int .u8 0, .int .u8 0, .int .u8 0, .int .u8 0, .int .u8 0, .int .u8 0, .int .u8 0, .int .u8 0, .int .u8 0, .int .u8 0, .int .u8 0, .int .u8 0, .int .u8 0, .int .i64 0, .int .i64 0] := ⟨by rw [Tryd.underlying48]; rfl, by kernel_rfl, by kernel_rfl⟩
theorem fld45_2 : FieldT Tryd.prog 45 2 2 := by unfold FieldT; rw [Tryd.underlying45]; kernel_rfl
theorem plain43 : Plain Tryd.prog 43 := by unfold Plain; rw [Tryd.underlying43]; rfl
theorem elem43 : ElemT Tryd.prog 43 48 34 48 (.agg [.int .u8 0, .int .u8 0, .int .u8 0, .int .u8 0, .int .u8 0, .int .u8 0, .int .u8 0, .int .u8 0, .int .u8 0, .int .u8 0, .int .u8 0, .int .u8 0, .int .u8 0, .int .u8 0, .int .u8 0, .int .u8 0, .int .u8 0, .int .u8 0, .int .u8 0, .int .u8 0, .int .u8 0, .int .u8 0, .int .u8 0, .int .u8 0, .int .u8 0, .int .u8 0, .int .u8 0, .int .u8 0, .int .u8 0, .int .u8 0, .int .u8 0, .int .u8 0, .int .i64 0, .int .i64 0].toArray) := ⟨Tryd.underlying43, by kernel_rfl, by kernel_rfl, by decide⟩
theorem zero43 : Zero1 Tryd.prog 43 (.slice none 0 0) := ⟨by kernel_rfl, rfl⟩
set_option maxRecDepth 100000 in
set_option maxHeartbeats 4000000 in
theorem w_dfMeet {f : T_diff_finder_o} {p : T_diff_place} {bo0 : Nat} {bo0_0 : Option Nat} {w0 w : World} {l : List HP} (hl1 : (p.1).length = 32) {r : T_diff_finder_o} (hm : dfMeet f p = some r) (H : St w0 w (O_diff_finder bo0 bo0_0 f :: l)) :
  Calls Tryd.prog 10 [.pointer (some ⟨bo0, 0, none⟩), .agg (bcells p.1 ++ ([Value.int .i64 (p.2.1), Value.int .i64 (p.2.2)])).toArray].toArray w (fun e w' => ∃ v, e = .returned v ∧ v = .tuple [].toArray ∧ St w0 w' (O_diff_finder bo0 bo0_0 r :: l)) := by
 unfold dfMeet at hm
 refine x_enter Tryd.func10 rfl rfl rfl ?_
 intro a F
 refine sr (s_boxA wkP F rfl rfl rfl rfl rfl H ?_); clear F H; intro b2 w a H F
 replace H := H.nf 2 rfl
 refine nl (sq ?_)
 obtain ⟨p3, c4, m5, m6, H⟩ := O_diff_finder_o (H.pk 1 rfl)
 obtain ⟨x7, ex7, hm⟩ := ob hm
 refine mix_region [7, 9] [9] (.step 0 0 (.step 0 1 (.step 0 2 (.step 1 3 (.step 1 4 (.step 0 5 (.step 0 6 (.step 2 7 (.step 0 8 (.step 3 9 .done)))))))))) (fun u => ∃ ls, St w0 u (HP.mi m5 ekP3 false (rInt .i64) (okP3 32) f.2.2.1 (p.1, p.2.1, p.2.2) 0 :: ls)) (by kernel_rfl) (by kernel_rfl) ⟨_, ((H.drew.pm 5 [2, 0, 1, 3, 4] rfl:).mmMi 0 rfl (p.1, p.2.1, p.2.2) 0)⟩ ?_
 replace H := H.drew
 generalize w.drew = w at H ⊢
 refine mbk [0, 0, 3, 3, 4999] F H rfl ⟨fld45_3, rfl, plain41, rfl, (aggn agg48 (by simp only [List.length_append, List.length_cons, List.length_nil, icells_length, bcells_length, hl1])), trivial⟩ ?_; clear F; intro a F
 refine m_pure F rfl rfl rfl rfl (fun u hu => y_miGet (q := .i64) (k := (p.1, p.2.1, p.2.2)) F Tryd.underlying41 keyS48 (fun w => zero3.run w) rfl hu.choose_spec 0 rfl rfl rfl (keyP3_some ex7)) ?_; clear F; intro a F
 refine mbk [0] F H rfl trivial ?_; clear F; intro a F
 refine m_heavy rfl rfl ?_
 obtain ⟨x8, ex8, hm⟩ := ob hm
 refine s_mmEntry (agg := false) (R := (rInt .i64)) (ek := ekP3) (ok := (okP3 32)) wkP F rfl rfl rfl Tryd.underlying41 keyS48 (zc := [Value.int .i64 0]) (z0 := 0) (fun w => zero3.run w) (fun _ => rfl) rfl H 2 rfl rfl (k := (p.1, p.2.1, p.2.2)) rfl (keyP3_some ex8) ?_; clear F H; intro v9 q9 w a H F
 refine lz ?_; refine ct ⟨⟨_, ((H.pm 5 [2, 0, 1, 3, 4] rfl:).meMi 0 rfl)⟩, ?_⟩
 refine mbk [0] F H rfl trivial ?_; clear F; intro a F
 refine m_last rfl rfl ?_
 refine s_entStore wkP F rfl rfl rfl H 2 rfl inj_P3 (keyP3_some ex8) rfl rfl (cs := [.int .i64 (IntKind.i64.wrap (((f.2.2.1 (p.1, p.2.1, p.2.2)).getD 0) + 1))]) rfl (v := IntKind.i64.wrap (((f.2.2.1 (p.1, p.2.1, p.2.2)).getD 0) + 1)) (fun gg => rfl) ?_; clear H; intro w H
 refine lz ?_; refine ct ?_
 refine m_nil ?_
 refine ct (sq ?_)
 obtain ⟨es10, H⟩ := H.mmOpen 2 rfl
 obtain ⟨x11, ex11, hm⟩ := ob hm
 obtain ⟨cs12, hcs12, H⟩ := H.mxGet 2 rfl (p.1, p.2.1, p.2.2) (zc := [Value.int .i64 0]) (z0 := 0) (fun _ => rfl)
 obtain rfl := H.rcI 0 rfl
 replace H := H.dp 0 rfl
 refine qr H (by kernel_rfl) (by kernel_rfl) ?_
 refine qbk [0, 0, 3, 3, 4999] F rfl ⟨fld45_3, rfl, plain41, rfl, (aggn agg48 (by simp only [List.length_append, List.length_cons, List.length_nil, icells_length, bcells_length, hl1])), trivial⟩ ?_; clear F; intro a F
 refine q_val F rfl rfl rfl (fun u hu => y_mxGet (agg := false) (zc := [Value.int .i64 0]) F Tryd.underlying41 keyS48 (fun w => zero3.run w) rfl hu 2 rfl rfl (k := (p.1, p.2.1, p.2.2)) rfl (keyP3_some ex11) hcs12) ?_; clear F; intro a F
 refine qbk [0] F rfl trivial ?_; clear F; intro a F
 refine q_nil ?_; clear H; intro w H
 replace H := H.mxShut 2 rfl
 refine ct (cP F rfl (fun hg13 => ?_) (fun hg13 => ?_))
 replace hm := ifT hg13 hm
 refine mix_region [6, 7, 10] [10] (.step 0 0 (.step 0 1 (.step 0 2 (.step 0 3 (.step 0 4 (.step 1 5 (.step 2 6 (.step 2 7 (.step 0 8 (.step 0 9 (.step 3 10 .done))))))))))) (fun u => ∃ ls, St w0 u (HP.blk bo0 ([.map bo0_0, .int .u64 (f.1), .slice p3 (f.2.1).length c4, .map (some m5), .map (some m6)]) 45 :: ls)) (by kernel_rfl) (by kernel_rfl) ⟨_, H.drew⟩ ?_
 replace H := H.drew
 generalize w.drew = w at H ⊢
 refine mbk [0, 0, 0, 2] F H rfl ⟨fld45_2, trivial⟩ ?_; clear F; intro a F
 refine m_pure F rfl rfl rfl rfl (fun u hu => y_load1 F plain43 rfl rfl (row_at (v := .slice p3 (f.2.1).length c4) ((hu.choose_spec.blk 0 rfl).row) rfl)) ?_; clear F; intro a F
 refine mbk [4999] F H rfl ⟨rfl, (aggn agg48 (by simp only [List.length_append, List.length_cons, List.length_nil, icells_length, bcells_length, hl1])), trivial⟩ ?_; clear F; intro a F
 refine m_heavy rfl rfl ?_
 refine s_build1 wkP F rfl rfl rfl agg48 elem43 rfl rfl (by simp only [List.length_append, List.length_cons, List.length_nil, icells_length, bcells_length, hl1]) (by decide) H ?_; clear F H; intro b14 w a H F
 replace H := H.blkOw1 (R := R_diff_place) (x := (p.1, p.2.1, p.2.2)) (fun gg => ⟨_, _, rfl, ⟨rfl, hl1⟩, ⟨_, _, rfl, rfl, rfl⟩⟩)
 refine lz ?_; refine ct ⟨⟨_, (H.pm 6 [1, 0, 2, 3, 4, 5] rfl:)⟩, ?_⟩
 refine m_heavy rfl rfl ?_
 replace H := H.frz 0 rfl
 obtain ⟨x16, ex16, hm⟩ := ob hm
 refine s_app wkP F rfl rfl rfl rfl rfl rfl elem43 rfl ex16 H 2 0 rfl rfl ?_; clear F H; intro p15 c15 w a H F
 refine lz ?_; refine ct ⟨⟨_, (H.pm 6 [1, 0, 2, 3, 4, 5] rfl:)⟩, ?_⟩
 refine mbk [0, 2] F H rfl ⟨fld45_2, trivial⟩ ?_; clear F; intro a F
 refine m_last rfl rfl ?_
 refine s_st1 wkP F rfl rfl zero43 rfl rfl rfl rfl rfl H 1 rfl rfl ?_; clear H; intro w H
 refine lz ?_; refine ct ?_
 refine m_nil ?_
 replace H := O_diff_finder_s (H.pm 6 [1, 2, 3, 4, 0, 5] rfl:)
 cases hm
 refine x_end0 F rfl ?_
 exact ⟨_, rfl, rfl, (H.pm 3 [0] rfl:)⟩
 replace hm := ifF hg13 hm
 refine sk ?_
 replace H := O_diff_finder_s H
 cases hm
 refine x_end0 F rfl ?_
 exact ⟨_, rfl, rfl, (H.pm 2 [0] rfl:)⟩
theorem w_dfSum {b : List UInt8} {p1 : Option Addr} {c1 : Nat} {w0 w : World} {l : List HP}  {r : (List UInt8)} (hm : dfSum b = some r) (H : St w0 w (HP.sl rByte p1 c1 b :: l)) :
  Calls Tryd.prog 11 [.slice p1 (b).length c1].toArray w (fun e w' => ∃ v, e = .returned v ∧ v = .agg (bcells r).toArray ∧ ((r).length = 32) ∧ St w0 w' (l)) := nomatch hm
theorem w_dfRecord {f : T_diff_finder_o} {b : List UInt8} {head : Bool} {bo0 : Nat} {bo0_0 : Option Nat} {p1 : Option Addr} {c1 : Nat} {w0 w : World} {l : List HP}  {r : Bool × T_diff_finder_o} (hm : dfRecord f b head = some r) (H : St w0 w (O_diff_finder bo0 bo0_0 f :: HP.sl rByte p1 c1 b :: l)) :
  Calls Tryd.prog 12 [.pointer (some ⟨bo0, 0, none⟩), .slice p1 (b).length c1, .bool (head)].toArray w (fun e w' => ∃ v, e = .returned v ∧ v = .bool (r.1) ∧ St w0 w' (O_diff_finder bo0 bo0_0 r.2 :: l)) := nomatch hm
theorem w_dfTree {f : T_diff_finder_o} {b : List UInt8} {p : T_diff_place} {bo0 : Nat} {bo0_0 : Option Nat} {p1 : Option Addr} {c1 : Nat} {w0 w : World} {l : List HP} (hl2 : (p.1).length = 32) {r : Bool × T_diff_finder_o} (hm : dfTree f b p = some r) (H : St w0 w (O_diff_finder bo0 bo0_0 f :: HP.sl rByte p1 c1 b :: l)) :
  Calls Tryd.prog 13 [.pointer (some ⟨bo0, 0, none⟩), .slice p1 (b).length c1, .agg (bcells p.1 ++ ([Value.int .i64 (p.2.1), Value.int .i64 (p.2.2)])).toArray].toArray w (fun e w' => ∃ v, e = .returned v ∧ v = .bool (r.1) ∧ St w0 w' (O_diff_finder bo0 bo0_0 r.2 :: l)) := nomatch hm
theorem ent22 : ∀ args w, (callFunc 22 args).run Tryd.prog w = .ok (.enter 22 args) w := enters Tryd.func22 (by kernel_rfl) rfl
theorem ent21 : ∀ args w, (callFunc 21 args).run Tryd.prog w = .ok (.enter 21 args) w := enters Tryd.func21 (by kernel_rfl) rfl
theorem ent36 : ∀ args w, (callFunc 36 args).run Tryd.prog w = .ok (.enter 36 args) w := enters Tryd.func36 (by kernel_rfl) rfl
set_option maxRecDepth 100000 in
set_option maxHeartbeats 4000000 in
theorem w_dfRising {s : (List UInt8) → Option Int} {q1 : Option Nat} {w0 w : World} {l : List HP}  {r : (List (List UInt8))} (hm : dfRising s = some r) (H : St w0 w (HP.mm q1 hv false (rInt .i64) (fun l => l.length = 32) s :: l)) :
  Calls Tryd.prog 14 [.map q1].toArray w (fun e w' => ∃ v, e = .returned v ∧ ∃ (p2 : Option Addr) (c2 : Nat), v = .slice p2 (r).length c2 ∧ St w0 w' (HP.ow (rBytesN 32) 32 p2 c2 r :: HP.mm q1 hv false (rInt .i64) (fun l => l.length = 32) s :: l)) := by
 unfold dfRising at hm
 refine x_enter Tryd.func14 rfl rfl rfl ?_
 intro a F
 refine sr (bk [0] F H rfl trivial ?_); clear F; intro a F
 refine nl (sr (bk [0] F H rfl trivial ?_)); clear F; intro a F
 refine s_call wkP F rfl rfl rfl rfl (y_call F rfl rfl ent22) (w_mk22 q1 w0 _ _ H) ?_; clear F H; rintro _ w a ⟨b3, rfl, H⟩ F
 obtain ⟨x5, ex5, hm⟩ := ob hm
 refine s_call wkP F rfl rfl rfl rfl (y_call F rfl rfl ent21) (w_sortedFunc21 ex5 (seq36 b3 q1 _) ent36 w_cmpc23 ent23 H) ?_; clear F H; rintro _ w a ⟨p4, c4, rfl, H⟩ F
 refine bk [0] F H rfl trivial ?_; clear F; intro a F
 replace H := H.nf 3 rfl
 refine nl (wr ?_)
 cases hm
 refine x_ret1 F rfl rfl ?_
 exact ⟨_, rfl, p4, c4, rfl, (H.pm 3 [0, 2] rfl:)⟩
theorem build_48_0_1_2 : ∀ (s0 : List UInt8) (h0 : s0.length = 32) (n1 : Int) (n2 : Int), Tryd.prog.built 48 [(0, .agg (bcells s0).toArray), (1, .int .i64 (n1)), (2, .int .i64 (n2))] = some ((bcells s0 ++ ([Value.int .i64 (n1), Value.int .i64 (n2)]) : List Value)).toArray := fun s0 h0 n1 n2 => match s0, h0 with | [a0_0, a0_1, a0_2, a0_3, a0_4, a0_5, a0_6, a0_7, a0_8, a0_9, a0_10, a0_11, a0_12, a0_13, a0_14, a0_15, a0_16, a0_17, a0_18, a0_19, a0_20, a0_21, a0_22, a0_23, a0_24, a0_25, a0_26, a0_27, a0_28, a0_29, a0_30, a0_31], _ => by kernel_rfl
theorem ent10 : ∀ args w, (callFunc 10 args).run Tryd.prog w = .ok (.enter 10 args) w := enters Tryd.func10 (by kernel_rfl) rfl
theorem agz48 : AggT Tryd.prog 48 34 (bcells (List.replicate 32 0) ++ ([Value.int .i64 (0), Value.int .i64 (0)])) := ⟨by rw [Tryd.underlying48]; rfl, by kernel_rfl, by kernel_rfl⟩
theorem fld48_0 : FieldT Tryd.prog 48 0 0 := by unfold FieldT; rw [Tryd.underlying48]; kernel_rfl
theorem zero49 : Zero1 Tryd.prog 49 (.slice none 0 0) := ⟨by kernel_rfl, rfl⟩
theorem fld45_4 : FieldT Tryd.prog 45 4 4 := by unfold FieldT; rw [Tryd.underlying45]; kernel_rfl
theorem ent11 : ∀ args w, (callFunc 11 args).run Tryd.prog w = .ok (.enter 11 args) w := enters Tryd.func11 (by kernel_rfl) rfl
theorem fld48_1 : FieldT Tryd.prog 48 1 32 := by unfold FieldT; rw [Tryd.underlying48]; kernel_rfl
theorem ent12 : ∀ args w, (callFunc 12 args).run Tryd.prog w = .ok (.enter 12 args) w := enters Tryd.func12 (by kernel_rfl) rfl
theorem ent13 : ∀ args w, (callFunc 13 args).run Tryd.prog w = .ok (.enter 13 args) w := enters Tryd.func13 (by kernel_rfl) rfl
theorem ent14 : ∀ args w, (callFunc 14 args).run Tryd.prog w = .ok (.enter 14 args) w := enters Tryd.func14 (by kernel_rfl) rfl
set_option maxRecDepth 100000 in
set_option maxHeartbeats 4000000 in
theorem w_m_diff_Missing {x0_ : (List UInt8) → Option (List UInt8)} {x1_ : List UInt8} {x2_ : Int} {q1 : Option Nat} {w0 w : World} {l : List HP} (hl2 : (x1_).length = 32) {r : (List (List UInt8)) × Int} (hm : m_diff_Missing x0_ x1_ x2_ = some r) (H : St w0 w (HP.mm q1 hv false (rSl rByte) (fun l => l.length = 32) x0_ :: l)) :
  Calls Tryd.prog 7 [.map q1, .agg (bcells x1_).toArray, .int .u64 (x2_)].toArray w (fun e w' => ∃ v, e = .returned v ∧ ∃ (p3 : Option Addr) (c3 : Nat), v = .tuple [.slice p3 (r.1).length c3, .int .i64 (r.2)].toArray ∧ St w0 w' (HP.sl (rBytesN 32) p3 c3 r.1 :: HP.mm q1 hv false (rSl rByte) (fun l => l.length = 32) x0_ :: l)) := by
 unfold m_diff_Missing at hm
 refine x_enter Tryd.func7 rfl rfl rfl ?_
 intro a F
 refine sr (s_boxA wkP F rfl rfl rfl rfl rfl H ?_); clear F H; intro b4 w a H F
 refine bk [0, 0] F H rfl trivial ?_; clear F; intro a F
 replace H := H.nf 2 rfl
 refine nl (sr (bk [0, 0] F H rfl trivial ?_)); clear F; intro a F
 refine s_mmNew ekP3 false (rInt .i64) (okP3 32) wkP F rfl rfl rfl rfl H ?_; clear F H; intro m5 w a H F
 refine s_mmNew hv false (rInt .i64) (fun l => l.length = 32) wkP F rfl rfl rfl rfl H ?_; clear F H; intro m6 w a H F
 replace H := H.owNil R_diff_place 48
 refine s_val wkP F rfl rfl rfl rfl (y_build F rfl rfl (cs := [.map q1, .int .u64 (x2_), .slice none (([] : List T_diff_place)).length 0, .map (some m5), .map (some m6)]) (by kernel_rfl)) ?_; clear F; intro a F
 refine s_boxA wkP F rfl rfl rfl rfl rfl H ?_; clear F H; intro b7 w a H F
 refine bk [0] F H rfl trivial ?_; clear F; intro a F
 replace H := H.nf 6 rfl
 refine nl (sr (bk [0, 4999] F H rfl ⟨rfl, (aggn agg32 ((bcells_length _).trans hl2)), trivial⟩ ?_)); clear F; intro a F
 refine s_val wkP F rfl rfl rfl rfl (y_build F rfl rfl (cs := bcells x1_ ++ ([Value.int .i64 (0), Value.int .i64 (0)])) (build_48_0_1_2 x1_ hl2 0 0)) ?_; clear F; intro a F
 replace H := O_diff_finder_s (x2 := ([] : List T_diff_place)) (H.pm 6 [0, 1, 3, 2, 4, 5] rfl:)
 obtain ⟨x8, ex8, hm⟩ := ob hm
 refine sc wkP F rfl ent10 (w_dfMeet hl2 ex8 H:) ?_; clear F H; rintro _ w a ⟨rfl, H⟩ F
 replace H := H.nf 3 rfl
 refine nl (sq (sr (bk [0] F H rfl trivial ?_))); clear F; intro a F
 refine nl ?_
 obtain ⟨o1321, eo1321, hm1321⟩ := ob hm; clear hm; revert eo1321; intro hm
 refine x_mid (fun aa ww => ∃ r1321, o1321 = Sum.inl r1321 ∧ Fr ⟨88, []⟩ aa [(8, .pointer (some ⟨b7, 0, none⟩))] ∧ St w0 ww (O_diff_finder b7 q1 r1321 :: HP.blk b4 (bcells x1_) 32 :: HP.mm q1 hv false (rSl rByte) (fun l => l.length = 32) x0_ :: l)) ?_ ?_
 refine bl (x_loopO _ (fun (s2196 : T_diff_finder_o × Int) aa ww => Fr ⟨88, []⟩ aa [(0, .map q1), (8, .pointer (some ⟨b7, 0, none⟩)), (9, .int .i64 (s2196.2))] ∧ St w0 ww (O_diff_finder b7 q1 s2196.1 :: HP.blk b4 (bcells x1_) 32 :: HP.mm q1 hv false (rSl rByte) (fun l => l.length = 32) x0_ :: l)) hm ⟨F.sl rfl, H⟩ ?_)
 clear F H hm
 rintro s2196 a w o ⟨F, H⟩ hm
 refine sq (sr (bk [0, 0, 0, 2] F H rfl ⟨fld45_2, trivial⟩ ?_)); clear F; intro a F
 obtain ⟨p2197, c2198, m2199, m2200, H⟩ := O_diff_finder_o (H.pk 0 rfl)
 refine bk [2, 0, 0] F H rfl ⟨rfl, plain43, ⟨_, Tryd.underlying43⟩, trivial⟩ ?_; clear F; intro a F
 refine nl (cP F rfl (fun hg2201 => ?_) (fun hg2201 => ?_))
 replace hm := ifT hg2201 hm
 refine sk (ct (sq ?_))
 obtain ⟨o2416, eo2416, hm2416⟩ := ob hm; clear hm; revert eo2416; intro hm
 refine x_mid (fun aa ww => ∃ r2416, o2416 = Sum.inl r2416 ∧ ∃ (p2417 : Option Addr) (c2417 : Nat) (m2418 : Nat) (m2419 : Nat), Fr ⟨88, []⟩ aa [(0, .map q1), (8, .pointer (some ⟨b7, 0, none⟩)), (9, .int .i64 (s2196.2))] ∧ St w0 ww (HP.blk b7 ([.map q1, .int .u64 (r2416.1), .slice p2417 (r2416.2.1).length c2417, .map (some m2418), .map (some m2419)]) 45 :: HP.blk b4 (bcells x1_) 32 :: HP.mm q1 hv false (rSl rByte) (fun l => l.length = 32) x0_ :: HP.ow R_diff_place 48 p2417 c2417 r2416.2.1 :: HP.mm (some m2418) ekP3 false (rInt .i64) (okP3 32) r2416.2.2.1 :: HP.mm (some m2419) hv false (rInt .i64) (fun l => l.length = 32) r2416.2.2.2 :: l)) ?_ ?_
 refine bl (sr (bk [0, 0, 2, 2, 0] F H rfl ⟨fld45_2, rfl, plain43, trivial⟩ ?_)); clear F; intro a F
 obtain ⟨x2420, ex2420, hm⟩ := ob hm
 obtain ⟨b2421, hp2421⟩ := H.owP 1 rfl (idxO_some ex2420).2
 obtain ⟨css2422, H⟩ := H.oxOpen 1 rfl
 obtain ⟨cs2422, hcs2422, hcl2422, H⟩ := H.oxEl 1 rfl (idxO_some ex2420).2
 obtain ⟨u2423, v2423, rfl, H⟩ := H.rcPair 0 rfl
 replace H := H.dp 2 rfl
 obtain ⟨rfl, hl2424⟩ := H.rcBN 0 rfl
 replace H := H.dp 0 rfl
 obtain ⟨u2425, v2425, rfl, H⟩ := H.rcPair 0 rfl
 replace H := H.dp 2 rfl
 obtain rfl := H.rcI 0 rfl
 replace H := H.dp 0 rfl
 obtain rfl := H.rcI 0 rfl
 replace H := H.dp 0 rfl
 refine s_val wkP F rfl rfl rfl rfl (y_idxS F elem43 rfl rfl rfl hp2421 ex2420) ?_; clear F; intro a F
 refine s_val wkP F rfl rfl rfl rfl (y_loadA F agg48 rfl rfl (H.oxRow 1 rfl hp2421 hcs2422 hcl2422) (by simp only [List.length_append, List.length_cons, List.length_nil, icells_length, bcells_length, hl2424])) ?_; clear F; intro a F
 refine s_allocA wkP F rfl rfl rfl agz48 rfl H ?_; clear F H; intro b2426 w a H F
 refine s_storeA wkP F rfl rfl agg48 rfl rfl rfl H 0 rfl (by simp only [List.length_append, List.length_cons, List.length_nil, icells_length, bcells_length, hl2424]) (by simp only [List.length_append, List.length_cons, List.length_nil, icells_length, bcells_length, (List.length_replicate (n := 32))]) (by intro v hv; simp only [List.mem_append, List.mem_cons, List.not_mem_nil, or_false] at hv; first | (rcases hv with h | h <;> first | (subst h; rfl) | exact bcells_flat _ _ h | exact icells_flat _ _ _ h | (rcases h with h | h <;> first | (subst h; rfl) | exact bcells_flat _ _ h | exact icells_flat _ _ _ h | (rcases h with h | h <;> first | (subst h; rfl) | exact bcells_flat _ _ h | (rcases h with h | h <;> first | (subst h; rfl) | (rcases h with h | h <;> (subst h; rfl)))))) | (subst hv; rfl)) ?_; clear H; intro w H
 replace H := H.nf 7 rfl
 refine nl ?_
 replace H := H.oxShut 2 rfl
 refine sr (bk [0, 0] F H rfl ⟨fld48_0, trivial⟩ ?_); clear F; intro a F
 refine s_val wkP F rfl rfl rfl rfl (y_loadA F agg32 rfl rfl (row_mid (A := ([] : List Value)) (X := bcells x2420.1) (C := [.int .i64 (x2420.2.1), .int .i64 (x2420.2.2)]) (w := _) ((H.blk 0 rfl).row) rfl) ((bcells_length _).trans hl2424)) ?_; clear F; intro a F
 obtain ⟨es2427, H⟩ := H.mmOpen 6 rfl
 obtain ⟨cs2428, hcs2428, H⟩ := H.mxGet 6 rfl x2420.1 (zc := [Value.slice none 0 0]) (z0 := []) (fun _ => rSl_nil _ _)
 obtain ⟨p2429, c2429, rfl, H⟩ := H.rcSl 0 rfl
 replace H := H.dp 1 rfl
 refine s_val wkP F rfl rfl rfl rfl (y_mxGet2 (agg := false) (zc := [Value.slice none 0 0]) F Tryd.underlying39 (keyH key32) (fun w => zero49.run w) rfl H 7 rfl rfl (k := x2420.1) rfl hl2424 hcs2428) ?_; clear F; intro a F
 refine bk (List.replicate 5 0) F H rfl trivial ?_; clear F; intro a F
 replace H := H.nf 8 rfl
 refine nl ?_
 replace H := H.mxShut 7 rfl
 obtain ⟨o2530, eo2530, hm2530⟩ := ob hm; clear hm; revert eo2530; intro hm
 refine x_mid (fun aa ww => ∃ r2530, o2530 = Sum.inl r2530 ∧ ∃ (p2531 : Option Addr) (c2531 : Nat) (m2532 : Nat) (m2533 : Nat), Fr ⟨88, []⟩ aa [(0, .map q1), (8, .pointer (some ⟨b7, 0, none⟩)), (9, .int .i64 (s2196.2))] ∧ St w0 ww (HP.blk b2426 (bcells x2420.1 ++ ([Value.int .i64 (x2420.2.1), Value.int .i64 (x2420.2.2)])) 48 :: HP.blk b7 ([.map q1, .int .u64 (r2530.1), .slice p2531 (r2530.2.1).length c2531, .map (some m2532), .map (some m2533)]) 45 :: HP.blk b4 (bcells x1_) 32 :: HP.mm q1 hv false (rSl rByte) (fun l => l.length = 32) x0_ :: HP.ow R_diff_place 48 p2531 c2531 r2530.2.1 :: HP.mm (some m2532) ekP3 false (rInt .i64) (okP3 32) r2530.2.2.1 :: HP.mm (some m2533) hv false (rInt .i64) (fun l => l.length = 32) r2530.2.2.2 :: l)) ?_ ?_
 refine bl (sr (bk [0, 0, 0] F H rfl trivial ?_)); clear F; intro a F
 replace H := H.nf 8 rfl
 refine nl ?_
 obtain ⟨o2582, eo2582, hm2582⟩ := ob hm; clear hm; revert eo2582; intro hm
 refine x_mid (fun aa ww => ∃ r2582, o2582 = Sum.inl r2582 ∧ ∃ (p2583 : Option Addr) (c2583 : Nat) (m2584 : Nat) (m2585 : Nat), Fr ⟨88, []⟩ aa [(0, .map q1), (8, .pointer (some ⟨b7, 0, none⟩)), (9, .int .i64 (s2196.2))] ∧ St w0 ww (HP.blk b2426 (bcells x2420.1 ++ ([Value.int .i64 (x2420.2.1), Value.int .i64 (x2420.2.2)])) 48 :: HP.blk b7 ([.map q1, .int .u64 (r2582.1), .slice p2583 (r2582.2.1).length c2583, .map (some m2584), .map (some m2585)]) 45 :: HP.blk b4 (bcells x1_) 32 :: HP.mm q1 hv false (rSl rByte) (fun l => l.length = 32) x0_ :: HP.ow R_diff_place 48 p2583 c2583 r2582.2.1 :: HP.mm (some m2584) ekP3 false (rInt .i64) (okP3 32) r2582.2.2.1 :: HP.mm (some m2585) hv false (rInt .i64) (fun l => l.length = 32) r2582.2.2.2 :: l)) ?_ ?_
 refine cB F rfl (fun hg2586 => ?_) (fun hg2586 => ?_)
 replace hm := ifT hg2586 hm
 refine mix_region [6] [6] (.step 0 0 (.step 0 1 (.step 0 2 (.step 1 3 (.step 0 4 (.step 1 5 (.step 3 6 .done))))))) (fun u => ∃ ls, St w0 u (ls)) (by kernel_rfl) (by kernel_rfl) ⟨_, H.drew⟩ ?_
 replace H := H.drew
 generalize w.drew = w at H ⊢
 refine mbk [0, 0, 4, 2004, 0] F H rfl ⟨fld45_4, rfl, plain42, fld48_0, trivial⟩ ?_; clear F; intro a F
 refine m_read F rfl rfl rfl rfl (y_loadA F agg32 rfl rfl (row_mid (A := ([] : List Value)) (X := bcells x2420.1) (C := [.int .i64 (x2420.2.1), .int .i64 (x2420.2.2)]) (w := _) ((H.blk 1 rfl).row) rfl) ((bcells_length _).trans hl2424)) ?_; clear F; intro a F
 refine m_last rfl rfl ?_
 refine s_mmSet wkP F rfl rfl Tryd.underlying42 (keyH key32) rfl H 5 rfl rfl (k := x2420.1) rfl (cs := [.int .i64 (1)]) rfl hl2424 (v := 1) (fun gg => rfl) ?_; clear H; intro w H
 refine lz ?_; refine ct ?_
 refine m_nil ?_
 cases hm
 refine ct ?_
 exact ⟨_, rfl, p2197, c2198, m2199, m2200, F.sl rfl, (H.pm 8 [1, 2, 6, 7, 3, 4, 5] rfl:)⟩
 replace hm := ifF (nT hg2586) hm
 refine sq (sq ?_)
 obtain ⟨x2587, ex2587, hm⟩ := ob hm
 have hl2588 : (x2587).length = 32 := by obtain ⟨_, _, _, _, _, hx, _⟩ := calls_ex (w_dfSum ex2587 (H.pm 8 [0, 0, 1, 2, 3, 4, 5, 6, 7] rfl:)); exact hx
 refine qr H (by kernel_rfl) (by kernel_rfl) ?_
 refine qbk [0] F rfl trivial ?_; clear F; intro a F
 refine q_call F rfl rfl rfl (fun u hu => y_call F rfl rfl ent11) (fun u hu => (w_dfSum ex2587 (hu.pm 8 [0, 0, 1, 2, 3, 4, 5, 6, 7] rfl:)).mono fun e u2 he => by obtain ⟨v, rfl, rfl, _, H⟩ := he; exact ⟨rfl, H⟩) ?_; clear F; intro a F
 refine qbk [0] F rfl ⟨fld48_0, trivial⟩ ?_; clear F; intro a F
 refine q_val F rfl rfl rfl (fun u hu => y_loadA F agg32 rfl rfl (row_mid (A := ([] : List Value)) (X := bcells x2420.1) (C := [.int .i64 (x2420.2.1), .int .i64 (x2420.2.2)]) (w := _) ((hu.blk 1 rfl).row) rfl) ((bcells_length _).trans hl2424)) ?_; clear F; intro a F
 refine q_val F rfl rfl rfl (fun u hu => y_neqA F key32 rfl rfl rfl hl2588 hl2424) ?_; clear F; intro a F
 refine qbk [0] F rfl trivial ?_; clear F; intro a F
 refine q_nil ?_; clear H; intro w H
 refine ct ?_
 obtain ⟨r2609, er2609, hm2609⟩ := ob hm; clear hm; revert er2609; intro hm
 refine x_mid (fun aa ww => ∃ (p2610 : Option Addr) (c2610 : Nat) (m2611 : Nat) (m2612 : Nat), Fr ⟨88, []⟩ aa [(0, .map q1), (8, .pointer (some ⟨b7, 0, none⟩)), (9, .int .i64 (s2196.2)), (55, .bool (r2609.2))] ∧ St w0 ww (HP.blk b2426 (bcells x2420.1 ++ ([Value.int .i64 (x2420.2.1), Value.int .i64 (x2420.2.2)])) 48 :: HP.blk b7 ([.map q1, .int .u64 (r2609.1.1), .slice p2610 (r2609.1.2.1).length c2610, .map (some m2611), .map (some m2612)]) 45 :: HP.blk b4 (bcells x1_) 32 :: HP.mm q1 hv false (rSl rByte) (fun l => l.length = 32) x0_ :: HP.ow R_diff_place 48 p2610 c2610 r2609.1.2.1 :: HP.mm (some m2611) ekP3 false (rInt .i64) (okP3 32) r2609.1.2.2.1 :: HP.mm (some m2612) hv false (rInt .i64) (fun l => l.length = 32) r2609.1.2.2.2 :: l)) ?_ ?_
 refine cN F rfl (fun hg2613 => ?_) (fun hg2613 => ?_)
 replace hm := ifF hg2613 hm
 refine sk ?_
 cases hm
 refine ct ?_
 exact ⟨p2197, c2198, m2199, m2200, F.sl rfl, (H.pm 8 [1, 2, 6, 7, 3, 4, 5] rfl:)⟩
 replace hm := ifT hg2613 hm
 refine sr (bk [32] F H rfl ⟨fld48_1, trivial⟩ ?_); clear F; intro a F
 refine s_val wkP F rfl rfl rfl rfl (y_load1 F plain3 rfl rfl (row_at (v := .int .i64 (x2420.2.1)) ((H.blk 1 rfl).row) (by simp [List.getElem?_append, icells_length, bcells_length, hl2424]))) ?_; clear F; intro a F
 refine bk [0, 0] F H rfl trivial ?_; clear F; intro a F
 by_cases hg2614 : x2420.2.1 ≤ 1
 replace hm := ifT hg2614 hm
 replace F := F.bT 64 hg2614 rfl
 refine bk [0, 0, 32] F H rfl ⟨fld48_1, trivial⟩ ?_; clear F; intro a F
 refine g_onP F rfl rfl rfl rfl ?_
 refine s_val wkP F rfl rfl rfl rfl (y_load1 F plain3 rfl rfl (row_at (v := .int .i64 (x2420.2.1)) ((H.blk 1 rfl).row) (by simp [List.getElem?_append, icells_length, bcells_length, hl2424]))) ?_; clear F; intro a F
 refine bk [0] F H rfl trivial ?_; clear F; intro a F
 refine g_onP F rfl rfl rfl rfl ?_
 replace H := O_diff_finder_s (H.pm 8 [2, 3, 4, 5, 0, 1, 6, 7] rfl:)
 obtain ⟨x2615, ex2615, hm⟩ := ob hm
 refine sc wkP F rfl ent12 (w_dfRecord ex2615 (H.pm 5 [0, 1, 1, 2, 3, 4] rfl:):) ?_; clear F H; rintro _ w a ⟨rfl, H⟩ F
 refine bk [0, 0, 0] F H rfl trivial ?_; clear F; intro a F
 replace H := H.nf 5 rfl
 refine nl ?_
 obtain ⟨r2619, er2619, hm2619⟩ := ob hm; clear hm; revert er2619; intro hm
 refine x_mid (fun aa ww => Fr ⟨88, []⟩ aa [(0, .map q1), (8, .pointer (some ⟨b7, 0, none⟩)), (9, .int .i64 (s2196.2)), (55, .bool (r2619.2))] ∧ St w0 ww (O_diff_finder b7 q1 r2619.1 :: HP.blk b2426 (bcells x2420.1 ++ ([Value.int .i64 (x2420.2.1), Value.int .i64 (x2420.2.2)])) 48 :: HP.blk b4 (bcells x1_) 32 :: HP.mm q1 hv false (rSl rByte) (fun l => l.length = 32) x0_ :: l)) ?_ ?_
 refine cB F rfl (fun hg2620 => ?_) (fun hg2620 => ?_)
 replace hm := ifT hg2620 hm
 refine sk ?_
 cases hm
 refine ct ?_
 exact ⟨F.sl rfl, (H.pm 5 [0, 2, 3, 4] rfl:)⟩
 replace hm := ifF (nT hg2620) hm
 refine rl (bk [32] F H rfl ⟨fld48_1, trivial⟩ ?_); clear F; intro a F
 refine s_val wkP F rfl rfl rfl rfl (y_load1 F plain3 rfl rfl (row_at (v := .int .i64 (x2420.2.1)) ((H.blk 2 rfl).row) (by simp [List.getElem?_append, icells_length, bcells_length, hl2424]))) ?_; clear F; intro a F
 refine bk [0, 0] F H rfl trivial ?_; clear F; intro a F
 by_cases hg2621 : 1 < x2420.2.1
 replace hm := ifT hg2621 hm
 replace F := F.bT 76 hg2621 rfl
 refine bk [0, 0, 2999] F H rfl ⟨rfl, (aggn agg48 (by simp only [List.length_append, List.length_cons, List.length_nil, icells_length, bcells_length, hl2424])), trivial⟩ ?_; clear F; intro a F
 refine g_onP F rfl rfl rfl rfl ?_
 obtain ⟨x2622, ex2622, hm⟩ := ob hm
 refine sc wkP F rfl ent13 (w_dfTree hl2424 ex2622 (H.pm 5 [0, 1, 1, 2, 3, 4] rfl:):) ?_; clear F H; rintro _ w a ⟨rfl, H⟩ F
 refine bk [0, 0, 0] F H rfl trivial ?_; clear F; intro a F
 replace H := H.nf 5 rfl
 refine lz ?_
 cases hm
 refine ct ?_
 exact ⟨F.sl rfl, (H.pm 5 [0, 2, 3, 4] rfl:)⟩
 replace hm := ifF hg2621 hm
 replace F := F.bF 76 hg2621 rfl
 refine bk (List.replicate 7 0) F H rfl trivial ?_; clear F; intro a F
 refine lz ?_
 cases hm
 refine ct ?_
 exact ⟨F.sl rfl, (H.pm 5 [0, 2, 3, 4] rfl:)⟩
 clear F H hm
 rintro a w ⟨F, H⟩; have hm := hm2619; clear hm2619
 obtain ⟨p2623, c2624, m2625, m2626, H⟩ := O_diff_finder_o (H.pk 0 rfl)
 cases hm
 refine ct ?_
 exact ⟨p2623, c2624, m2625, m2626, F.sl rfl, (H.pm 7 [4, 0, 5, 6, 1, 2, 3] rfl:)⟩
 replace hm := ifF hg2614 hm
 replace F := F.bF 64 hg2614 rfl
 refine bk (List.replicate 9 0) F H rfl trivial ?_; clear F; intro a F
 refine nl (cF F rfl ?_)
 refine rl (bk [32] F H rfl ⟨fld48_1, trivial⟩ ?_); clear F; intro a F
 refine s_val wkP F rfl rfl rfl rfl (y_load1 F plain3 rfl rfl (row_at (v := .int .i64 (x2420.2.1)) ((H.blk 1 rfl).row) (by simp [List.getElem?_append, icells_length, bcells_length, hl2424]))) ?_; clear F; intro a F
 refine bk [0, 0] F H rfl trivial ?_; clear F; intro a F
 by_cases hg2627 : 1 < x2420.2.1
 replace hm := ifT hg2627 hm
 replace F := F.bT 76 hg2627 rfl
 refine bk [0, 0, 1999] F H rfl ⟨rfl, (aggn agg48 (by simp only [List.length_append, List.length_cons, List.length_nil, icells_length, bcells_length, hl2424])), trivial⟩ ?_; clear F; intro a F
 refine g_onP F rfl rfl rfl rfl ?_
 replace H := O_diff_finder_s (H.pm 8 [2, 3, 4, 5, 0, 1, 6, 7] rfl:)
 obtain ⟨x2628, ex2628, hm⟩ := ob hm
 refine sc wkP F rfl ent13 (w_dfTree hl2424 ex2628 (H.pm 5 [0, 1, 1, 2, 3, 4] rfl:):) ?_; clear F H; rintro _ w a ⟨rfl, H⟩ F
 refine bk [0, 0, 0] F H rfl trivial ?_; clear F; intro a F
 replace H := H.nf 5 rfl
 refine lz ?_
 obtain ⟨p2629, c2630, m2631, m2632, H⟩ := O_diff_finder_o (H.pk 0 rfl)
 cases hm
 refine ct ?_
 exact ⟨p2629, c2630, m2631, m2632, F.sl rfl, (H.pm 8 [5, 0, 6, 7, 1, 2, 3] rfl:)⟩
 replace hm := ifF hg2627 hm
 replace F := F.bF 76 hg2627 rfl
 refine bk (List.replicate 7 0) F H rfl trivial ?_; clear F; intro a F
 refine lz ?_
 cases hm
 refine ct ?_
 exact ⟨p2197, c2198, m2199, m2200, F.sl rfl, (H.pm 8 [1, 2, 6, 7, 3, 4, 5] rfl:)⟩
 clear F H hm
 rintro a w ⟨p2610, c2610, m2611, m2612, F, H⟩; have hm := hm2609; clear hm2609
 refine ct (cB F rfl (fun hg2633 => ?_) (fun hg2633 => ?_))
 replace hm := ifT hg2633 hm
 refine sr (bk [0, 0] F H rfl trivial ?_); clear F; intro a F
 refine nl (wr (tr ?_))
 cases hm
 replace hm := elimR hm2582
 refine br (tr ?_)
 cases hm
 replace hm := elimR hm2530
 refine br (tr ?_)
 cases hm
 replace hm := elimR hm2416
 refine tr (tr ?_); cases hm; refine ⟨_, rfl, ?_⟩; rintro rfl
 refine br (tr ?_)
 replace hm := elimR hm1321
 refine tr ?_
 replace H := H.slNil (rBytesN 32)
 cases hm
 refine x_ret2 F rfl rfl rfl ?_
 exact ⟨_, rfl, none, 0, rfl, (H.pm 8 [0, 4] rfl:)⟩
 replace hm := ifF (nT hg2633) hm
 refine sk ?_
 cases hm
 refine ct ?_
 exact ⟨_, rfl, p2610, c2610, m2611, m2612, F.sl rfl, H⟩
 clear F H hm
 rintro a w ⟨r2582, rfl, p2583, c2583, m2584, m2585, F, H⟩; have hm := elimL hm2582; clear hm2582
 refine bn ?_
 cases hm
 refine ct ?_
 exact ⟨_, rfl, p2583, c2583, m2584, m2585, F.sl rfl, H⟩
 clear F H hm
 rintro a w ⟨r2530, rfl, p2531, c2531, m2532, m2533, F, H⟩; have hm := elimL hm2530; clear hm2530
 refine bn ?_
 cases hm
 refine ct ?_
 exact ⟨_, rfl, p2531, c2531, m2532, m2533, F.sl rfl, (H.pm 7 [1, 2, 3, 4, 5, 6] rfl:)⟩
 clear F H hm
 rintro a w ⟨r2416, rfl, p2417, c2417, m2418, m2419, F, H⟩; have hm := elimL hm2416; clear hm2416
 refine ct (rl (bk [0, 0, 0] F H rfl trivial ?_)); clear F; intro a F
 refine lz ?_
 replace H := O_diff_finder_s (H.pm 6 [0, 3, 4, 5, 1, 2] rfl:)
 refine ct ?_; cases hm
 exact ⟨_, rfl, ⟨F.sl rfl, H⟩⟩
 replace hm := ifF hg2201 hm
 refine ex (cx (cx ?_)); cases hm; refine ⟨_, rfl, ?_⟩; rintro rfl
 refine ch ?_
 replace H := O_diff_finder_s H
 refine ct ?_
 exact ⟨_, rfl, F.sl rfl, H⟩
 clear F H hm
 rintro a w ⟨r1321, rfl, F, H⟩; have hm := elimL hm1321; clear hm1321
 refine ct (sr (bk [0, 0, 4] F H rfl ⟨fld45_4, trivial⟩ ?_)); clear F; intro a F
 obtain ⟨p2634, c2635, m2636, m2637, H⟩ := O_diff_finder_o (H.pk 0 rfl)
 refine bk [4] F H rfl ⟨rfl, plain42, trivial⟩ ?_; clear F; intro a F
 obtain ⟨x2638, ex2638, hm⟩ := ob hm
 refine sc wkP F rfl ent14 (w_dfRising ex2638 (H.pm 6 [3, 0, 1, 2, 4, 5] rfl:):) ?_; clear F H; rintro _ w a ⟨p2639, c2639, rfl, H⟩ F
 refine bk [0, 0] F H rfl trivial ?_; clear F; intro a F
 replace H := H.nf 7 rfl
 refine nl (wr ?_)
 replace H := H.frz 0 rfl
 cases hm
 refine x_ret2 F rfl rfl rfl ?_
 exact ⟨_, rfl, p2639, c2639, rfl, (H.pm 7 [0, 6] rfl:)⟩
end Go.Proofs.YtgcgggjihhdonaaDoor
