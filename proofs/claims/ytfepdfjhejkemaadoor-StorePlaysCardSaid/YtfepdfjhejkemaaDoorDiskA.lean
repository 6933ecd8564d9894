/- disk -/
import Derived.Test.YtfepdfjhejkemaaDoorPackA
set_option linter.unusedSimpArgs false
set_option linter.unusedVariables false
namespace Go.Proofs.YtfepdfjhejkemaaDoor
open Go.RowKit Go.Tri
theorem elem69 : ElemT Tryd.prog 69 88 2 32 (.agg [.int .i64 0, .slice none 0 0].toArray) := ⟨Tryd.underlying69, by kernel_rfl, by kernel_rfl, by decide⟩
theorem agg88 : AggT Tryd.prog 88 2 [.int .i64 0, .slice none 0 0] := ⟨by rw [Tryd.underlying88]; rfl, by kernel_rfl, by kernel_rfl⟩
theorem plain69 : Plain Tryd.prog 69 := by unfold Plain; rw [Tryd.underlying69]; rfl
theorem w_mk56 (p0 : Option Addr) (n0 c0 : Nat) (w0 w : World) (l : List HP) (H : St w0 w l) :
  Calls Tryd.prog 56 [.slice p0 n0 c0].toArray w (fun e w' => ∃ v, e = .returned v ∧ ∃ b0, v = .func (.func 75) #[] [.pointer (some ⟨b0, 0, none⟩)].toArray ∧ St w0 w' (HP.blk b0 ([.slice p0 n0 c0]) 69 :: l)) := by
 refine x_enter Tryd.func56 rfl rfl rfl ?_
 intro a F
 replace F : Fr ⟨4, []⟩ a [(0, .slice p0 n0 c0)] := F
 refine wp_seq ?_
 refine r_lit ?_
 refine s_box1 wkP F rfl rfl rfl rfl rfl rfl H ?_; clear F H; intro b0 w a H F
 refine s_val wkP F rfl rfl rfl rfl (y_assign F rfl rfl) ?_; clear F; intro a F
 refine wpList_nil ?_
 refine c_then ?_
 refine wp_seq ?_
 refine r_lit ?_
 refine s_val wkP F rfl rfl rfl rfl (y_makeFunc F rfl rfl) ?_; clear F; intro a F
 refine s_val wkP F rfl rfl rfl rfl (y_assign F rfl rfl) ?_; clear F; intro a F
 refine wpList_nil ?_
 refine c_then ?_
 refine wp_ret ?_
 refine x_ret1 F rfl rfl ?_
 exact ⟨_, rfl, b0, rfl, H⟩
theorem seq75 {γ : Type} (bb : Nat) (p : Option Addr) (c : Nat) (css : List (List Value)) (xs : List γ) (hl : css.length = xs.length) (hk : ∀ c ∈ css, c.length = 2) :
    SeqC Tryd.prog 75 [.pointer (some ⟨bb, 0, none⟩)] (fun z : (Nat × List Value) × γ => [.int .i64 (z.1.1 : Int), .agg z.1.2.toArray]) [HP.blk bb ([.slice p xs.length c]) 69, HP.own 88 2 (.slice p xs.length c) xs.length css.flatten] (fun pre x => ∃ post, backZ css xs = pre ++ x :: post) (fun pre => pre = backZ css xs) := by
 intro L w0 G E J KK next stop g0 hY W fr H
 refine xii_enter Tryd.func75 rfl rfl rfl ?_
 intro a F
 replace F : Fr ⟨19, []⟩ a [(0, .func (.yield L) #[] #[]), (1, .pointer (some ⟨bb, 0, none⟩))] := F
 have H : St w0 W (HP.blk bb ([.slice p xs.length c]) 69 :: HP.own 88 2 (.slice p xs.length c) xs.length css.flatten :: (J g0 ++ fr)) := H.perm perm_mid
 have hmx := ownMax H 1 rfl
 unfold maxLen at hmx
 refine wpIn_seq ?_
 refine ri_lit ?_
 refine s_val wkI F rfl rfl rfl rfl (y_load1 F plain69 rfl rfl ((H.blk 0 rfl).cell _)) ?_; clear F; intro a F
 refine s_val wkI F rfl rfl rfl rfl (y_lenS F rfl Tryd.underlying69 rfl) ?_; clear F; intro a F
 refine s_val wkI F rfl rfl rfl rfl (y_sub F rfl rfl rfl (wrap_i64 (r := ((xs.length : Nat) : Int) - 1) rfl (by omega) (by omega))) ?_; clear F; intro a F
 refine s_val wkI F rfl rfl rfl rfl (y_assign F rfl rfl) ?_; clear F; intro a F
 refine wpListIn_nil ?_
 refine c_then ?_
 refine wpIn_block ?_
 refine xi_loop (fun (q : G × Nat) aa ww => q.2 ≤ xs.length ∧ Rn next g0 ((backZ css xs).take (xs.length - q.2)) q.1 ∧ Fr ⟨19, []⟩ aa [(0, .func (.yield L) #[] #[]), (1, .pointer (some ⟨bb, 0, none⟩)), (3, .int .i64 (((q.2 : Nat) : Int) - 1))] ∧ St w0 ww (HP.blk bb ([.slice p xs.length c]) 69 :: HP.own 88 2 (.slice p xs.length c) xs.length css.flatten :: (J q.1 ++ fr))) (fun q => q.2) (g0, xs.length) ⟨Nat.le_refl _, by simp only [Nat.sub_self]; rfl, F.cut _ ⟨rfl, rfl, rfl, trivial⟩, H⟩ ?_
 clear F H
 rintro ⟨g, i⟩ a w ⟨hi, hrn, F, H⟩
 refine wpIn_seq ?_
 refine wpIn_seq ?_
 refine ri_lit ?_
 refine s_val wkI F rfl rfl rfl rfl (y_move F rfl rfl) ?_; clear F; intro a F
 refine s_val wkI F rfl rfl rfl rfl (y_geq F rfl rfl rfl) ?_; clear F; intro a F
 refine wpListIn_nil ?_
 refine c_then ?_
 refine xi_condP F rfl (fun hc => ?_) (fun hc => ?_)
 · refine wpIn_skip ?_
   refine c_then ?_
   obtain ⟨j, rfl⟩ : ∃ j, i = j + 1 := ⟨i - 1, by omega⟩
   have hjl : j < xs.length := hi
   replace F := F.bool (k := 3) (u := .int .i64 ((j : Nat) : Int)) rfl (congrArg (Value.int .i64) (by show ((j + 1 : Nat) : Int) - 1 = _; omega))
   obtain ⟨cj, hcj⟩ : ∃ cj, css[j]? = some cj := ⟨_, List.getElem?_eq_getElem (by omega)⟩
   obtain ⟨yj, hyj⟩ : ∃ yj, xs[j]? = some yj := ⟨_, List.getElem?_eq_getElem hjl⟩
   have hcl := hk cj (List.mem_of_getElem? hcj)
   have hat := backZ_at hl hjl hcj hyj
   obtain ⟨b, off, hp, hrow⟩ := (ownsRow_sl (H.owns 1 rfl)).rowAt (c := 0) rfl (by omega)
   have hidx : idxO xs ((j : Nat) : Int) = some yj := by unfold idxO; rw [if_pos (by omega)]; simpa using hyj
   have hrw : Row w b (off + (((j : Nat) : Int)).toNat * 2) cj := by have := hrow.sub (j * 2) 2; rw [flatK_at hk hcj] at this; simpa using this
   have hadm : ∃ post, backZ css xs = (backZ css xs).take (xs.length - (j + 1)) ++ ((j, cj), yj) :: post := by
     refine ⟨(backZ css xs).drop (xs.length - 1 - j + 1), ?_⟩
     have h1 : xs.length - (j + 1) = xs.length - 1 - j := by omega
     rw [h1]
     obtain ⟨h2, h3⟩ := List.getElem?_eq_some_iff.1 hat
     rw [← h3, ← List.drop_eq_getElem_cons h2, List.take_append_drop]
   refine wpIn_seq ?_
   refine wpIn_block ?_
   refine wpIn_seq ?_
   refine ri_lit ?_
   refine s_val wkI F rfl rfl rfl rfl (y_move F rfl rfl) ?_; clear F; intro a F
   refine s_val wkI F rfl rfl rfl rfl (y_move F rfl rfl) ?_; clear F; intro a F
   refine s_val wkI F rfl rfl rfl rfl (y_load1 F plain69 rfl rfl ((H.blk 0 rfl).cell _)) ?_; clear F; intro a F
   refine s_val wkI F rfl rfl rfl rfl (y_move F rfl rfl) ?_; clear F; intro a F
   refine s_val wkI F rfl rfl rfl rfl (y_idxS F elem69 rfl rfl rfl hp hidx) ?_; clear F; intro a F
   refine s_val wkI F rfl rfl rfl rfl (y_loadA F agg88 rfl rfl hrw hcl) ?_; clear F; intro a F
   refine si_yield F rfl rfl rfl rfl rfl rfl (R := fun bo W' => (bo = true ∧ ∃ g', next g ((j, cj), yj) g' ∧ St w0 W' (J g' ++ ([HP.blk bb ([.slice p xs.length c]) 69, HP.own 88 2 (.slice p xs.length c) xs.length css.flatten] ++ fr))) ∨ (bo = false ∧ ∃ k, stop g ((j, cj), yj) k ∧ St w0 W' (KK k ++ ([HP.blk bb ([.slice p xs.length c]) 69, HP.own 88 2 (.slice p xs.length c) xs.length css.flatten] ++ fr)))) (YieldI.mono (hY _ g ((j, cj), yj) _ ([HP.blk bb ([.slice p xs.length c]) 69, HP.own 88 2 (.slice p xs.length c) xs.length css.flatten] ++ fr) hadm hrn (H.perm (perm_mid (A := [HP.blk bb ([.slice p xs.length c]) 69, HP.own 88 2 (.slice p xs.length c) xs.length css.flatten])))) ?_) ?_
   · rintro ee W' (⟨g', rfl, hn, H'⟩ | ⟨k, rfl, hs, H'⟩)
     · exact ⟨true, rfl, .inl ⟨rfl, g', hn, H'⟩⟩
     · exact ⟨false, rfl, .inr ⟨rfl, k, hs, H'⟩⟩
   intro bo w a hR F
   refine s_val wkI F rfl rfl rfl rfl (y_not F rfl rfl) ?_; clear F; intro a F
   refine wpListIn_nil ?_
   refine c_then ?_
   rcases hR with ⟨rfl, g', hn, H⟩ | ⟨rfl, k, hst, H⟩
   · refine xi_condF F rfl ?_
     refine wpIn_skip ?_
     refine c_blkN ?_
     refine c_then ?_
     refine ri_lit ?_
     refine s_val wkI F rfl rfl rfl rfl (y_move F rfl rfl) ?_; clear F; intro a F
     refine s_val wkI F rfl rfl rfl rfl (y_sub F rfl rfl rfl (wrap_i64 (r := ((j : Nat) : Int) - 1) rfl (by omega) (by omega))) ?_; clear F; intro a F
     refine s_val wkI F rfl rfl rfl rfl (y_assign F rfl rfl) ?_; clear F; intro a F
     refine wpListIn_nil ?_
     refine c_then ⟨(g', j), ⟨by show j ≤ _; omega, ?_, F.cut _ ⟨rfl, rfl, rfl, trivial⟩, H.perm perm_mid⟩, Nat.lt_succ_self j⟩
     show Rn next g0 ((backZ css xs).take (xs.length - j)) g'
     rw [show xs.length - j = (xs.length - 1 - j) + 1 by omega, List.take_add_one, hat]
     refine Rn.snoc ?_ hn
     rw [show xs.length - 1 - j = xs.length - (j + 1) by omega]; exact hrn
   · refine xi_condT F rfl ?_
     refine wpIn_ret ?_
     refine c_blkR ?_
     refine c_thenR ?_
     refine c_thenR ?_
     refine c_blkR ?_
     refine xi_ret0 F rfl ?_
     exact ⟨_, rfl, .inr ⟨_, g, ((j, cj), yj), k, hadm, hrn, hst, H⟩⟩
 · refine wpIn_exit ?_
   refine c_thenX ?_
   refine c_thenX ?_
   refine c_hit ?_
   refine xi_end0 F rfl ?_
   have hi0 : i = 0 := by omega
   subst hi0
   rw [Nat.sub_zero, List.take_of_length_le (by rw [backZ_len _ _ hl]; exact Nat.le_refl _)] at hrn
   exact ⟨_, rfl, .inl ⟨_, g, rfl, hrn, H.perm (perm_mid (A := [HP.blk bb ([.slice p xs.length c]) 69, HP.own 88 2 (.slice p xs.length c) xs.length css.flatten]))⟩⟩
theorem fld71_0 : FieldT Tryd.prog 71 0 0 := by unfold FieldT; rw [Tryd.underlying71]; kernel_rfl
theorem plain22 : Plain Tryd.prog 22 := by unfold Plain; rw [Tryd.underlying22]; rfl
theorem elem22 : ElemT Tryd.prog 22 33 1 24 (.slice none 0 0) := ⟨Tryd.underlying22, by kernel_rfl, by kernel_rfl, by decide⟩
theorem zero22 : Zero1 Tryd.prog 22 (.slice none 0 0) := ⟨by kernel_rfl, rfl⟩
set_option maxRecDepth 100000 in
set_option maxHeartbeats 4000000 in
theorem w_diskNew {n : Int}  {w0 w : World} {l : List HP}  {r : T_disk_Disk_o × Int} (hm : diskNew n = some r) (H : St w0 w (l)) :
  Calls Tryd.prog 9 [.int .i64 (n)].toArray w (fun e w' => ∃ v, e = .returned v ∧ ∃ (b1 : Nat), v = .tuple [.pointer (some ⟨b1, 0, none⟩), .int .i64 (r.2)].toArray ∧ St w0 w' (O_disk_Disk b1 r.1 :: l)) := by
 unfold diskNew at hm
 refine x_enter Tryd.func9 rfl rfl rfl ?_
 intro a F
 refine sr (bk [0, 0] F H rfl trivial ?_); clear F; intro a F
 refine nl (sq (sr (bk [0, 0, 0] F H rfl trivial ?_))); clear F; intro a F
 by_cases hg2 : n < 1
 · replace hm := ifT hg2 hm
   replace F := F.bT 7 hg2 rfl
   refine bk [0, 0, 0] F H rfl trivial ?_; clear F; intro a F
   refine nl (cT F rfl ?_)
   refine sr (bk [0, 0] F H rfl trivial ?_); clear F; intro a F
   refine nl (wr ?_)
   cases hm
 · replace hm := ifF hg2 hm
   replace F := F.bF 7 hg2 rfl
   refine bk [0, 0, 0] F H rfl trivial ?_; clear F; intro a F
   refine nl (cP F rfl (fun hg3 => ?_) (fun hg3 => ?_))
   · replace hm := ifT hg3 hm
     refine sr (bk [0, 0] F H rfl trivial ?_); clear F; intro a F
     refine nl (wr ?_)
     cases hm
   · replace hm := ifF hg3 hm
     refine sk (ct (sr ?_))
     replace H := H.owNil (rSl rByte) 33
     replace H := H.owNil R_disk_write 88
     refine s_val wkP F rfl rfl rfl rfl (y_build F rfl rfl (cs := [.slice none (([] : List (List UInt8))).length 0, .slice none (([] : List T_disk_write)).length 0, .int .i64 (-1), .bool false]) (by kernel_rfl)) ?_; clear F; intro a F
     refine s_boxA wkP F rfl rfl rfl rfl rfl H ?_; clear F H; intro b4 w a H F
     refine bk [0] F H rfl trivial ?_; clear F; intro a F
     replace H := H.nf 3 rfl
     refine nl (sq (sr (bk [0, 0] F H rfl trivial ?_))); clear F; intro a F
     refine nl ?_
     replace H := O_disk_Disk_s (x0 := ([] : List (List UInt8))) (x1 := ([] : List T_disk_write)) (H.pm 3 [0, 2, 1] rfl:)
     obtain ⟨r63, er63, hm63⟩ := ob hm; clear hm; revert er63; intro hm
     refine x_mid (fun aa ww => Fr ⟨28, []⟩ aa [(4, .pointer (some ⟨b4, 0, none⟩))] ∧ St w0 ww (O_disk_Disk b4 r63 :: l)) ?_ ?_
     · skip
       refine bl (x_loopO _ (fun (s102 : T_disk_Disk_o × Int) aa ww => Fr ⟨28, []⟩ aa [(4, .pointer (some ⟨b4, 0, none⟩)), (13, .int .i64 (n)), (14, .int .i64 (s102.2))] ∧ St w0 ww (O_disk_Disk b4 s102.1 :: l)) hm ⟨F.sl rfl, H⟩ ?_)
       clear F H hm
       rintro s102 a w o ⟨F, H⟩ hm
       refine sr (bk [0] F H rfl trivial ?_); clear F; intro a F
       refine nl (sq (cP F rfl (fun hg103 => ?_) (fun hg103 => ?_)))
       · replace hm := ifT hg103 hm
         refine sk (ct (sq (bl ?_)))
         obtain ⟨p113, c114, p115, c116, H⟩ := O_disk_Disk_o (H.pk 0 rfl)
         refine mix_region [5, 6, 7, 10] [10] (.step 0 0 (.step 0 1 (.step 0 2 (.step 0 3 (.step 0 4 (.step 2 5 (.step 2 6 (.step 2 7 (.step 0 8 (.step 0 9 (.step 3 10 .done))))))))))) (fun u => ∃ ls, St w0 u (HP.blk b4 ([.slice p113 (s102.1.1).length c114, .slice p115 (s102.1.2.1).length c116, .int .i64 (s102.1.2.2.1), .bool (s102.1.2.2.2)]) 71 :: ls)) (by kernel_rfl) (by kernel_rfl) ⟨_, H.drew⟩ ?_
         replace H := H.drew
         generalize w.drew = w at H ⊢
         refine mbk [0, 0, 0, 0] F H rfl ⟨fld71_0, trivial⟩ ?_; clear F; intro a F
         refine m_pure F rfl rfl rfl rfl (fun u hu => y_load1 F plain22 rfl rfl (row_at (v := .slice p113 (s102.1.1).length c114) ((hu.choose_spec.blk 0 rfl).row) rfl)) ?_; clear F; intro a F
         refine m_heavy rfl rfl ?_
         obtain ⟨x118, ex118, hm⟩ := ob hm
         refine s_mkO (R := rByte) wkP F rfl rfl rfl elem33 rfl rfl rfl rfl rfl rfl (z := (0 : UInt8)) (fun _ => rfl) ex118 H ?_; clear F H; intro b117 w a H F
         refine lz ?_; refine ct ⟨⟨_, (H.pm 4 [1, 0, 2, 3] rfl:)⟩, ?_⟩
         refine m_heavy rfl rfl ?_
         replace H := H.frz 0 rfl
         refine s_buildC wkP F rfl rfl rfl elem22 zero33 rfl rfl rfl rfl (by simp [Value.cells]) (by decide) H ?_; clear F H; intro b119 w a H F
         replace H : St w0 w (HP.ow (rSl rByte) 33 (some ⟨b119, 0, none⟩) (([x118]).length) ([x118]) :: HP.sl rByte (some ⟨b117, 0, none⟩) ((x118).length) x118 :: HP.blk b4 ([.slice p113 (s102.1.1).length c114, .slice p115 (s102.1.2.1).length c116, .int .i64 (s102.1.2.2.1), .bool (s102.1.2.2.2)]) 71 :: HP.ow (rSl rByte) 33 p113 c114 s102.1.1 :: HP.ow R_disk_write 88 p115 c116 s102.1.2.1 :: l) := H.blkOw (R := (rSl rByte)) 0 rfl (fun gg => ⟨[[.slice (some ⟨b117, 0, none⟩) (x118).length ((x118).length)]], by simp, ⟨_, _, rfl, (gg 1 _ rfl).choose_spec⟩, trivial⟩) (by simp)
         refine lz ?_; refine ct ⟨⟨_, (H.pm 5 [2, 0, 1, 3, 4] rfl:)⟩, ?_⟩
         refine m_heavy rfl rfl ?_
         replace H := H.frz 0 rfl
         obtain ⟨x121, ex121, hm⟩ := ob hm
         refine s_app wkP F rfl rfl rfl rfl rfl rfl elem22 rfl ex121 H 3 0 rfl rfl ?_; clear F H; intro p120 c120 w a H F
         refine lz ?_; refine ct ⟨⟨_, (H.pm 5 [2, 0, 1, 3, 4] rfl:)⟩, ?_⟩
         refine mbk [0, 0] F H rfl ⟨fld71_0, trivial⟩ ?_; clear F; intro a F
         refine m_last rfl rfl ?_
         refine s_st1 wkP F rfl rfl zero22 rfl rfl rfl rfl rfl H 2 rfl rfl ?_; clear H; intro w H
         refine lz ?_; refine ct ?_
         refine m_nil ?_
         refine bn (ct (rl (bk [0, 0] F H rfl trivial ?_))); clear F; intro a F
         replace H := H.nf 5 rfl
         refine lz ?_
         replace H := O_disk_Disk_s (H.pm 5 [2, 3, 4, 0, 1] rfl:)
         refine ct ?_; cases hm
         exact ⟨_, rfl, ⟨F.sl rfl, (H.pm 3 [0] rfl:)⟩⟩
       · replace hm := ifF hg103 hm
         refine ex (cx (cx ?_)); cases hm; refine ⟨_, rfl, ?_⟩; rintro rfl
         refine ch (ct ?_)
         exact ⟨F.sl rfl, H⟩
     · skip
       clear F H hm
       rintro a w ⟨F, H⟩; have hm := hm63; clear hm63
       refine ct (sr (bk [0, 0, 0] F H rfl trivial ?_)); clear F; intro a F
       refine nl (wr ?_)
       cases hm
       refine x_ret2 F rfl rfl rfl ?_
       exact ⟨_, rfl, b4, rfl, H⟩
set_option maxRecDepth 100000 in
set_option maxHeartbeats 4000000 in
theorem w_diskSectors {d : T_disk_Disk_o} {bo0 : Nat} {w0 w : World} {l : List HP}  {r : Int} (hm : diskSectors d = some r) (H : St w0 w (O_disk_Disk bo0 d :: l)) :
  Calls Tryd.prog 32 [.pointer (some ⟨bo0, 0, none⟩)].toArray w (fun e w' => ∃ v, e = .returned v ∧ v = .int .i64 (r) ∧ St w0 w' (O_disk_Disk bo0 d :: l)) := by
 unfold diskSectors at hm
 refine x_enter Tryd.func32 rfl rfl rfl ?_
 intro a F
 refine sr (bk [0] F H rfl trivial ?_); clear F; intro a F
 refine nl (sr (bk [0, 0, 0] F H rfl ⟨fld71_0, trivial⟩ ?_)); clear F; intro a F
 obtain ⟨p1, c2, p3, c4, H⟩ := O_disk_Disk_o (H.pk 0 rfl)
 refine bk [0, 0, 0] F H rfl ⟨rfl, plain22, ⟨_, Tryd.underlying22⟩, trivial⟩ ?_; clear F; intro a F
 refine nl (wr ?_)
 replace H := O_disk_Disk_s H
 cases hm
 refine x_ret1 F rfl rfl ?_
 exact ⟨_, rfl, rfl, H⟩
theorem fld71_2 : FieldT Tryd.prog 71 2 2 := by unfold FieldT; rw [Tryd.underlying71]; kernel_rfl
theorem plain3 : Plain Tryd.prog 3 := by unfold Plain; rw [Tryd.underlying3]; rfl
theorem fld71_3 : FieldT Tryd.prog 71 3 3 := by unfold FieldT; rw [Tryd.underlying71]; kernel_rfl
theorem zero4 : Zero1 Tryd.prog 4 (.bool false) := ⟨by kernel_rfl, rfl⟩
theorem zero3 : Zero1 Tryd.prog 3 (.int .i64 0) := ⟨by kernel_rfl, rfl⟩
set_option maxRecDepth 100000 in
set_option maxHeartbeats 4000000 in
theorem w_diskCall {d : T_disk_Disk_o} {bo0 : Nat} {w0 w : World} {l : List HP}  {r : Bool × T_disk_Disk_o} (hm : diskCall d = some r) (H : St w0 w (O_disk_Disk bo0 d :: l)) :
  Calls Tryd.prog 41 [.pointer (some ⟨bo0, 0, none⟩)].toArray w (fun e w' => ∃ v, e = .returned v ∧ v = .bool (r.1) ∧ St w0 w' (O_disk_Disk bo0 r.2 :: l)) := by
 unfold diskCall at hm
 refine x_enter Tryd.func41 rfl rfl rfl ?_
 intro a F
 refine sr (bk [0] F H rfl trivial ?_); clear F; intro a F
 refine nl (sq (sr (bk [0, 0, 2] F H rfl ⟨fld71_2, trivial⟩ ?_))); clear F; intro a F
 obtain ⟨p1, c2, p3, c4, H⟩ := O_disk_Disk_o (H.pk 0 rfl)
 refine bk [2, 0] F H rfl ⟨rfl, plain3, trivial⟩ ?_; clear F; intro a F
 refine nl (cP F rfl (fun hg5 => ?_) (fun hg5 => ?_))
 · replace hm := ifT hg5 hm
   refine sr (bk [0, 0, 3] F H rfl ⟨fld71_3, trivial⟩ ?_); clear F; intro a F
   refine s_st1 wkP F rfl rfl zero4 rfl rfl rfl rfl rfl H 0 rfl rfl ?_; clear H; intro w H
   replace H := H.nf 3 rfl
   refine nl (sr (bk [0] F H rfl trivial ?_)); clear F; intro a F
   refine nl (wr (tr ?_))
   replace H := O_disk_Disk_s H
   cases hm
   refine x_ret1 F rfl rfl ?_
   exact ⟨_, rfl, rfl, H⟩
 · replace hm := ifF hg5 hm
   refine sk (ct (sq (sr (bk [0, 0, 2, 2, 0] F H rfl ⟨fld71_2, rfl, plain3, trivial⟩ ?_)))); clear F; intro a F
   refine nl ?_
   replace H := O_disk_Disk_s H
   obtain ⟨r11, er11, hm11⟩ := ob hm; clear hm; revert er11; intro hm
   refine x_mid (fun aa ww => Fr ⟨23, []⟩ aa [] ∧ St w0 ww (O_disk_Disk bo0 r11 :: l)) ?_ ?_
   · skip
     refine cP F rfl (fun hg12 => ?_) (fun hg12 => ?_)
     · replace hm := ifT hg12 hm
       refine rl (bk [0, 0, 2] F H rfl ⟨fld71_2, trivial⟩ ?_); clear F; intro a F
       obtain ⟨p13, c14, p15, c16, H⟩ := O_disk_Disk_o (H.pk 0 rfl)
       refine bk [2, 0, 0, 2] F H rfl ⟨rfl, plain3, fld71_2, trivial⟩ ?_; clear F; intro a F
       refine s_st1 wkP F rfl rfl zero3 rfl rfl rfl rfl rfl H 0 rfl rfl ?_; clear H; intro w H
       replace H := H.nf 3 rfl
       refine lz ?_
       replace H := O_disk_Disk_s H
       cases hm
       refine ct ?_
       exact ⟨F.cut _ trivial, H⟩
     · replace hm := ifF hg12 hm
       refine sk ?_
       cases hm
       refine ct ?_
       exact ⟨F.cut _ trivial, H⟩
   · skip
     clear F H hm
     rintro a w ⟨F, H⟩; have hm := hm11; clear hm11
     refine ct (sr (bk [0] F H rfl trivial ?_)); clear F; intro a F
     replace H := H.nf 1 rfl
     refine nl (wr ?_)
     cases hm
     refine x_ret1 F rfl rfl ?_
     exact ⟨_, rfl, rfl, H⟩
theorem zero26 : Zero1 Tryd.prog 26 (.int .i64 0) := ⟨by kernel_rfl, rfl⟩
theorem plain4 : Plain Tryd.prog 4 := by unfold Plain; rw [Tryd.underlying4]; rfl
theorem plain26 : Plain Tryd.prog 26 := by unfold Plain; rw [Tryd.underlying26]; rfl
theorem fld71_1 : FieldT Tryd.prog 71 1 1 := by unfold FieldT; rw [Tryd.underlying71]; kernel_rfl
theorem ent56 : ∀ args w, (callFunc 56 args).run Tryd.prog w = .ok (.enter 56 args) w := enters Tryd.func56 (by kernel_rfl) rfl
theorem agz88 : AggT Tryd.prog 88 2 ([.int .i64 (0), .slice none (([] : List UInt8)).length 0]) := ⟨by rw [Tryd.underlying88]; rfl, by kernel_rfl, by kernel_rfl⟩
theorem fld88_0 : FieldT Tryd.prog 88 0 0 := by unfold FieldT; rw [Tryd.underlying88]; kernel_rfl
theorem fld88_1 : FieldT Tryd.prog 88 1 1 := by unfold FieldT; rw [Tryd.underlying88]; kernel_rfl
theorem ent75 : ∀ args w, (callFunc 75 args).run Tryd.prog w = .ok (.enter 75 args) w := enters Tryd.func75 (by kernel_rfl) rfl
set_option maxRecDepth 100000 in
set_option maxHeartbeats 4000000 in
theorem w_diskRead {d : T_disk_Disk_o} {i : Int} {bo0 : Nat} {w0 w : World} {l : List HP}  {r : (List UInt8) × Int} (hm : diskRead d i = some r) (H : St w0 w (O_disk_Disk bo0 d :: l)) :
  Calls Tryd.prog 33 [.pointer (some ⟨bo0, 0, none⟩), .int .i64 (i)].toArray w (fun e w' => ∃ v, e = .returned v ∧ ∃ (p1 : Option Addr) (c1 : Nat), v = .tuple [.slice p1 (r.1).length c1, .int .i64 (r.2)].toArray ∧ St w0 w' (HP.sl rByte p1 c1 r.1 :: O_disk_Disk bo0 d :: l)) := by
 unfold diskRead at hm
 refine xk_enter Tryd.func33 rfl rfl rfl ?_
 intro a F
 replace H := H.mks0
 refine sr (s_box1 wkP F rfl rfl rfl rfl rfl rfl H ?_); clear F H; intro b2 w a H F
 replace H := H.owNil rByte 5
 refine s_alloc1 wkP F rfl rfl rfl zero33 rfl H ?_; clear F H; intro b3 w a H F
 refine s_alloc1 wkP F rfl rfl rfl zero26 rfl H ?_; clear F H; intro b4 w a H F
 replace H := H.nf 6 rfl
 refine nl (sq (bl (sr (bk [0, 0, 3] F H rfl ⟨fld71_3, trivial⟩ ?_)))); clear F; intro a F
 obtain ⟨p5, c6, p7, c8, H⟩ := O_disk_Disk_o (H.pk 5 rfl)
 refine bk [3, 0] F H rfl ⟨rfl, plain4, trivial⟩ ?_; clear F; intro a F
 refine nl (cB F rfl (fun hg9 => ?_) (fun hg9 => ?_))
 · replace hm := ifT hg9 hm
   refine sr ?_
   replace H := H.owNil rByte 5
   refine s_st1 wkP F rfl rfl zero33 rfl rfl rfl rfl rfl H 5 rfl rfl ?_; clear H; intro w H
   refine s_st1 wkP F rfl rfl zero26 rfl rfl rfl rfl rfl H 4 rfl rfl ?_; clear H; intro w H
   replace H := H.nf 9 rfl
   refine nl (wr (br (tr ?_)))
   replace H := H.frz 0 rfl
   replace H := O_disk_Disk_s (H.pm 9 [1, 2, 3, 0, 4, 5, 6, 7, 8] rfl:)
   cases hm
   refine xk_resC2 F rfl ((H.pm 7 [6, 0, 1, 2, 3, 4, 5] rfl:)) (fun w H => ⟨_, rfl, ld1 plain33 ((H.blk 3 rfl).cell _)⟩) (fun w H => ⟨_, rfl, ld1 plain26 ((H.blk 2 rfl).cell _)⟩) ?_; clear H; intro w H
   exact ⟨_, rfl, none, 0, rfl, (H.pm 6 [1, 0] rfl:)⟩
 · replace hm := ifF (nT hg9) hm
   refine sq ?_
   by_cases hg10 : i < 0
   · replace hm := ifT hg10 hm
     refine qr H (by kernel_rfl) (by kernel_rfl) ?_
     refine qbk [6000, 0, 0] F rfl ⟨rfl, plain3, trivial⟩ ?_; clear F; intro a F
     replace F := F.bT 16 hg10 rfl
     refine qbk (List.replicate 9 0) F rfl trivial ?_; clear F; intro a F
     refine q_nil ?_; clear H; intro w H
     refine ct (cT F rfl ?_)
     refine sr ?_
     replace H := H.owNil rByte 5
     refine s_st1 wkP F rfl rfl zero33 rfl rfl rfl rfl rfl H 5 rfl rfl ?_; clear H; intro w H
     refine s_st1 wkP F rfl rfl zero26 rfl rfl rfl rfl rfl H 4 rfl rfl ?_; clear H; intro w H
     replace H := H.nf 9 rfl
     refine nl (wr (br (tr ?_)))
     replace H := H.frz 0 rfl
     replace H := O_disk_Disk_s (H.pm 9 [1, 2, 3, 0, 4, 5, 6, 7, 8] rfl:)
     cases hm
     refine xk_resC2 F rfl ((H.pm 7 [6, 0, 1, 2, 3, 4, 5] rfl:)) (fun w H => ⟨_, rfl, ld1 plain33 ((H.blk 3 rfl).cell _)⟩) (fun w H => ⟨_, rfl, ld1 plain26 ((H.blk 2 rfl).cell _)⟩) ?_; clear H; intro w H
     exact ⟨_, rfl, none, 0, rfl, (H.pm 6 [1, 0] rfl:)⟩
   · replace hm := ifF hg10 hm
     refine qr H (by kernel_rfl) (by kernel_rfl) ?_
     refine qbk [6000, 0, 0] F rfl ⟨rfl, plain3, trivial⟩ ?_; clear F; intro a F
     replace F := F.bF 16 hg10 rfl
     refine qbk [6000, 0, 0, 0, 0, 0, 0, 0, 0] F rfl ⟨rfl, plain3, fld71_0, rfl, plain22, ⟨_, Tryd.underlying22⟩, trivial⟩ ?_; clear F; intro a F
     refine q_nil ?_; clear H; intro w H
     refine ct (cP F rfl (fun hg11 => ?_) (fun hg11 => ?_))
     · replace hm := ifT hg11 hm
       refine sr ?_
       replace H := H.owNil rByte 5
       refine s_st1 wkP F rfl rfl zero33 rfl rfl rfl rfl rfl H 5 rfl rfl ?_; clear H; intro w H
       refine s_st1 wkP F rfl rfl zero26 rfl rfl rfl rfl rfl H 4 rfl rfl ?_; clear H; intro w H
       replace H := H.nf 9 rfl
       refine nl (wr (br (tr ?_)))
       replace H := H.frz 0 rfl
       replace H := O_disk_Disk_s (H.pm 9 [1, 2, 3, 0, 4, 5, 6, 7, 8] rfl:)
       cases hm
       refine xk_resC2 F rfl ((H.pm 7 [6, 0, 1, 2, 3, 4, 5] rfl:)) (fun w H => ⟨_, rfl, ld1 plain33 ((H.blk 3 rfl).cell _)⟩) (fun w H => ⟨_, rfl, ld1 plain26 ((H.blk 2 rfl).cell _)⟩) ?_; clear H; intro w H
       exact ⟨_, rfl, none, 0, rfl, (H.pm 6 [1, 0] rfl:)⟩
     · replace hm := ifF hg11 hm
       refine sk (bn (ct (sq (sr (bk [0, 0, 1, 1] F H rfl ⟨fld71_1, rfl, plain69, trivial⟩ ?_))))); clear F; intro a F
       refine s_call wkP F rfl rfl rfl rfl (y_call F rfl rfl ent56) (w_mk56 p7 _ c8 w0 _ _ H) ?_; clear F H; rintro _ w a ⟨b12, rfl, H⟩ F
       replace H := H.nf 9 rfl
       refine nl (bl ?_)
       obtain ⟨css13, _, H⟩ := H.owOpen 3 rfl
       obtain ⟨hl13, hk13⟩ := H.rdlLen 0 rfl
       obtain ⟨o26, eo26, hm26⟩ := ob hm; clear hm
       refine x_range (gf := 75) (lb := [.pointer (some ⟨b12, 0, none⟩)]) (ps := [30, 31]) (zs := backZ css13 d.2.1) (enc := (fun z => [.int .i64 (z.1.1 : Int), .agg z.1.2.toArray])) (l := [(0, .pointer (some ⟨bo0, 0, none⟩)), (3, .pointer (some ⟨b2, 0, none⟩)), (4, .pointer (some ⟨b3, 0, none⟩)), (5, .pointer (some ⟨b4, 0, none⟩)), (29, .func (.func 75) #[] [.pointer (some ⟨b12, 0, none⟩)].toArray)]) (own := [HP.blk b12 ([.slice p7 (d.2.1).length c8]) 69, HP.own 88 2 (.slice p7 (d.2.1).length c8) (d.2.1).length css13.flatten]) (fr := l) (fun z => ((z.1.1 : Int), z.2)) (F.cut _ ⟨rfl, rfl, rfl, rfl, rfl, trivial⟩) rfl ent75 (seq75 b12 p7 c8 css13 d.2.1 hl13 hk13) (fun (s26 : Unit) (i26 : Unit) => [HP.rdl R_disk_write css13 d.2.1, HP.blk bo0 ([.slice p5 (d.1).length c6, .slice p7 (d.2.1).length c8, .int .i64 (d.2.2.1), .bool (d.2.2.2)]) 71, HP.ow (rSl rByte) 33 p5 c6 d.1, HP.blk b4 ([.int .i64 (0)]) 26, HP.blk b3 ([.slice none (([] : List UInt8)).length 0]) 33, HP.ow rByte 5 none 0 ([] : List UInt8), HP.blk b2 ([.int .i64 (i)]) 3]) (fun (r26 : (List UInt8)) (i26 : (Option Addr) × Nat) => [HP.rdl R_disk_write css13 d.2.1, HP.blk bo0 ([.slice p5 (d.1).length c6, .slice p7 (d.2.1).length c8, .int .i64 (d.2.2.1), .bool (d.2.2.2)]) 71, HP.ow (rSl rByte) 33 p5 c6 d.1, HP.blk b4 ([.int .i64 (0)]) 26, HP.blk b3 ([.slice i26.1 (r26).length i26.2]) 33, HP.blk b2 ([.int .i64 (i)]) 3, HP.ow rByte 5 i26.1 i26.2 r26]) (fun _ => Code.ret) _ () () (by rw [backZ_pj _ _ hl13]; exact eo26) ((H.pm 10 [9, 0, 2, 3, 5, 6, 7, 8, 1, 4, 0] rfl:).keep 10 1) (fun _ => rfl) rfl (fun (s26 : Unit) (i26 : Unit) (x26 : (Nat × List Value) × T_disk_write) (m26 : Nat) => [(0, .pointer (some ⟨bo0, 0, none⟩)), (3, .pointer (some ⟨b2, 0, none⟩)), (4, .pointer (some ⟨b3, 0, none⟩)), (5, .pointer (some ⟨b4, 0, none⟩)), (7, .pointer (some ⟨m26, 0, none⟩)), (29, .func (.func 75) #[] [.pointer (some ⟨b12, 0, none⟩)].toArray), (30, .int .i64 ((x26.1.1 : Int))), (31, .agg (x26.1.2).toArray)]) (fun (s26 : Unit) (i26 : Unit) (x26 : (Nat × List Value) × T_disk_write) (m26 : Nat) => [HP.blk m26 (x26.1.2) 88, HP.ow rByte 5 none 0 ([] : List UInt8), HP.rc R_disk_write x26.1.2 x26.2, HP.rdl R_disk_write css13 d.2.1, HP.blk bo0 ([.slice p5 (d.1).length c6, .slice p7 (d.2.1).length c8, .int .i64 (d.2.2.1), .bool (d.2.2.2)]) 71, HP.ow (rSl rByte) 33 p5 c6 d.1, HP.blk b4 ([.int .i64 (0)]) 26, HP.blk b3 ([.slice none (([] : List UInt8)).length 0]) 33, HP.ow rByte 5 none 0 ([] : List UInt8), HP.blk b2 ([.int .i64 (i)]) 3]) ?_ ?_ ?_ ?_
       · clear F H
         rintro L s26 _ ⟨⟨kx13, cx13⟩, yx13⟩ a w l hx F H
         replace F : Fr ⟨47, []⟩ a [(31, .agg (cx13).toArray), (30, .int .i64 ((kx13 : Int))), (0, .pointer (some ⟨bo0, 0, none⟩)), (3, .pointer (some ⟨b2, 0, none⟩)), (4, .pointer (some ⟨b3, 0, none⟩)), (5, .pointer (some ⟨b4, 0, none⟩)), (29, .func (.func 75) #[] [.pointer (some ⟨b12, 0, none⟩)].toArray)] := F
         replace H : St w0 w (HP.rdl R_disk_write css13 d.2.1 :: HP.blk bo0 ([.slice p5 (d.1).length c6, .slice p7 (d.2.1).length c8, .int .i64 (d.2.2.1), .bool (d.2.2.2)]) 71 :: HP.ow (rSl rByte) 33 p5 c6 d.1 :: HP.blk b4 ([.int .i64 (0)]) 26 :: HP.blk b3 ([.slice none (([] : List UInt8)).length 0]) 33 :: HP.ow rByte 5 none 0 ([] : List UInt8) :: HP.blk b2 ([.int .i64 (i)]) 3 :: l) := H
         obtain ⟨hx1, hx2⟩ := backZ_mem hx; obtain ⟨hxn13, hxf13, H⟩ := H.rdlEl 0 rfl hx1 hx2
         replace H : St w0 w (HP.rc R_disk_write cx13 yx13 :: HP.rdl R_disk_write css13 d.2.1 :: HP.blk bo0 ([.slice p5 (d.1).length c6, .slice p7 (d.2.1).length c8, .int .i64 (d.2.2.1), .bool (d.2.2.2)]) 71 :: HP.ow (rSl rByte) 33 p5 c6 d.1 :: HP.blk b4 ([.int .i64 (0)]) 26 :: HP.blk b3 ([.slice none (([] : List UInt8)).length 0]) 33 :: HP.ow rByte 5 none 0 ([] : List UInt8) :: HP.blk b2 ([.int .i64 (i)]) 3 :: l) := H
         refine rli ?_
         replace H := H.owNil rByte 5
         refine s_allocA wkI F rfl rfl rfl agz88 rfl H ?_; clear F H; intro b28 w a H F
         refine s_storeA wkI F rfl rfl agg88 rfl rfl rfl H 0 rfl hxn13 (by simp only [List.length_append, List.length_cons, List.length_nil, icells_length, bcells_length]) hxf13 ?_; clear H; intro w H
         replace H := H.nf 10 rfl
         refine lzi (ct ?_)
         exact ⟨b28, F.cut _ ⟨rfl, rfl, rfl, rfl, rfl, rfl, rfl, rfl, trivial⟩, H⟩
       · clear F H
         rintro L s26 _ ⟨⟨kx13, cx13⟩, yx13⟩ b28 o a w l hx hm F H
         replace F : Fr ⟨47, []⟩ a [(0, .pointer (some ⟨bo0, 0, none⟩)), (3, .pointer (some ⟨b2, 0, none⟩)), (4, .pointer (some ⟨b3, 0, none⟩)), (5, .pointer (some ⟨b4, 0, none⟩)), (7, .pointer (some ⟨b28, 0, none⟩)), (29, .func (.func 75) #[] [.pointer (some ⟨b12, 0, none⟩)].toArray), (30, .int .i64 ((kx13 : Int))), (31, .agg (cx13).toArray)] := F
         replace H : St w0 w (HP.blk b28 (cx13) 88 :: HP.ow rByte 5 none 0 ([] : List UInt8) :: HP.rc R_disk_write cx13 yx13 :: HP.rdl R_disk_write css13 d.2.1 :: HP.blk bo0 ([.slice p5 (d.1).length c6, .slice p7 (d.2.1).length c8, .int .i64 (d.2.2.1), .bool (d.2.2.2)]) 71 :: HP.ow (rSl rByte) 33 p5 c6 d.1 :: HP.blk b4 ([.int .i64 (0)]) 26 :: HP.blk b3 ([.slice none (([] : List UInt8)).length 0]) 33 :: HP.ow rByte 5 none 0 ([] : List UInt8) :: HP.blk b2 ([.int .i64 (i)]) 3 :: l) := H
         replace F : Fr ⟨47, []⟩ a [(0, .pointer (some ⟨bo0, 0, none⟩)), (3, .pointer (some ⟨b2, 0, none⟩)), (4, .pointer (some ⟨b3, 0, none⟩)), (5, .pointer (some ⟨b4, 0, none⟩)), (7, .pointer (some ⟨b28, 0, none⟩)), (29, .func (.func 75) #[] [.pointer (some ⟨b12, 0, none⟩)].toArray), (30, .int .i64 ((kx13 : Int))), (31, .agg cx13.toArray)] := F
         replace H : St w0 w (HP.blk b28 (cx13) 88 :: HP.ow rByte 5 none 0 ([] : List UInt8) :: HP.rc R_disk_write cx13 yx13 :: HP.rdl R_disk_write css13 d.2.1 :: HP.blk bo0 ([.slice p5 (d.1).length c6, .slice p7 (d.2.1).length c8, .int .i64 (d.2.2.1), .bool (d.2.2.2)]) 71 :: HP.ow (rSl rByte) 33 p5 c6 d.1 :: HP.blk b4 ([.int .i64 (0)]) 26 :: HP.blk b3 ([.slice none (([] : List UInt8)).length 0]) 33 :: HP.ow rByte 5 none 0 ([] : List UInt8) :: HP.blk b2 ([.int .i64 (i)]) 3 :: l) := H
         refine bli (sri (bki [0] F H rfl ⟨fld88_0, trivial⟩ ?_)); clear F; intro a F
         replace H := rc_disk_write (H.pk 2 rfl); obtain ⟨p29, c30, rfl, H⟩ := H
         refine bki [1000, 9000, 0] F H rfl ⟨rfl, plain3, rfl, plain3, trivial⟩ ?_; clear F; intro a F
         refine nli (xi_condP F rfl (fun hg31 => ?_) (fun hg31 => ?_))
         · replace hm := ifT hg31 hm
           refine sri (bki [1, 1001] F H rfl ⟨fld88_1, rfl, plain33, trivial⟩ ?_); clear F; intro a F
           obtain ⟨x32, ex32, hm⟩ := ob hm
           refine sc wkI F rfl ent42 (w_cloneB ex32 (H.pm 10 [0, 0, 1, 2, 3, 4, 5, 6, 7, 8, 9] rfl:):) ?_; clear F H; rintro _ w a ⟨p33, c33, rfl, H⟩ F
           refine s_st1 wkI F rfl rfl zero33 rfl rfl rfl rfl rfl H 8 rfl rfl ?_; clear H; intro w H
           refine s_st1 wkI F rfl rfl zero26 rfl rfl rfl rfl rfl H 7 rfl rfl ?_; clear H; intro w H
           replace H := H.nf 11 rfl
           refine nli (wri (br ?_))
           cases hm; exact rq_r x32 (p33, c33) rfl rfl (H.pm 11 [4, 5, 6, 7, 8, 10, 0] rfl:)
         · replace hm := ifF hg31 hm
           refine ski (bn ?_)
           cases hm; exact rq_n () () rfl (H.pm 10 [3, 4, 5, 6, 7, 8, 9] rfl:)
       · clear F H
         rintro s26 _ Ds34 a w ho F H; subst ho; have hm := elimL hm26; clear hm26 eo26
         replace F : Fr ⟨47, marks Ds34⟩ a [(0, .pointer (some ⟨bo0, 0, none⟩)), (3, .pointer (some ⟨b2, 0, none⟩)), (4, .pointer (some ⟨b3, 0, none⟩)), (5, .pointer (some ⟨b4, 0, none⟩)), (29, .func (.func 75) #[] [.pointer (some ⟨b12, 0, none⟩)].toArray)] := F
         replace H : St w0 w (HP.mks Ds34 :: HP.rdl R_disk_write css13 d.2.1 :: HP.blk bo0 ([.slice p5 (d.1).length c6, .slice p7 (d.2.1).length c8, .int .i64 (d.2.2.1), .bool (d.2.2.2)]) 71 :: HP.ow (rSl rByte) 33 p5 c6 d.1 :: HP.blk b4 ([.int .i64 (0)]) 26 :: HP.blk b3 ([.slice none (([] : List UInt8)).length 0]) 33 :: HP.ow rByte 5 none 0 ([] : List UInt8) :: HP.blk b2 ([.int .i64 (i)]) 3 :: HP.blk b12 ([.slice p7 (d.2.1).length c8]) 69 :: HP.own 88 2 (.slice p7 (d.2.1).length c8) (d.2.1).length css13.flatten :: l) := H
         replace H := H.owShut 9 1 rfl rfl
         refine bn (ct (sq ?_))
         obtain ⟨x41, ex41, hm⟩ := ob hm
         obtain ⟨b42, hp42⟩ := H.owP 3 rfl (idxO_some ex41).2
         obtain ⟨css43, H⟩ := H.oxOpen 3 rfl
         obtain ⟨cs43, hcs43, hcl43, H⟩ := H.oxEl 3 rfl (idxO_some ex41).2
         obtain ⟨p44, c44, rfl, H⟩ := H.rcSl 0 rfl
         replace H := H.dp 1 rfl
         refine mix_region [7, 8, 9] [9] (.step 0 0 (.step 0 1 (.step 0 2 (.step 1 3 (.step 1 4 (.step 0 5 (.step 1 6 (.step 2 7 (.step 2 8 (.step 3 9 .done)))))))))) (fun u => ∃ ls, St w0 u (ls)) (by kernel_rfl) (by kernel_rfl) ⟨_, H.drew⟩ ?_
         replace H := H.drew
         generalize w.drew = w at H ⊢
         refine mbk [0, 0, 0, 3000, 8000] F H rfl ⟨fld71_0, rfl, plain22, rfl, plain3, trivial⟩ ?_; clear F; intro a F
         refine m_pure F rfl rfl rfl rfl (fun u hu => y_idxS F elem22 rfl rfl rfl hp42 ex41) ?_; clear F; intro a F
         refine m_read F rfl rfl rfl rfl (y_load1 F plain33 rfl rfl ((H.oxRow 4 rfl hp42 hcs43 hcl43) 0 _ rfl)) ?_; clear F; intro a F
         refine m_heavy rfl rfl ?_
         obtain ⟨x45, ex45, hm⟩ := ob hm
         refine sc wkP F rfl ent42 (w_cloneB ex45 (H.pm 11 [0, 0, 1, 2, 3, 4, 5, 6, 7, 8, 9, 10] rfl:):) ?_; clear F H; rintro _ w a ⟨p46, c46, rfl, H⟩ F
         refine lz ?_; refine ct ⟨⟨_, H⟩, ?_⟩
         refine m_heavy rfl rfl ?_
         refine s_st1 wkP F rfl rfl zero33 rfl rfl rfl rfl rfl H 7 rfl rfl ?_; clear H; intro w H
         refine lz ?_; refine ct ⟨⟨_, H⟩, ?_⟩
         refine m_last rfl rfl ?_
         refine s_st1 wkP F rfl rfl zero26 rfl rfl rfl rfl rfl H 6 rfl rfl ?_; clear H; intro w H
         refine lz ?_; refine ct ?_
         refine m_nil ?_
         replace H := H.oxShut 5 rfl
         refine ct (wr ?_)
         replace H := H.frz 0 rfl
         replace H := O_disk_Disk_s (H.pm 12 [4, 5, 11, 0, 1, 2, 3, 6, 7, 8, 9, 10] rfl:)
         cases hm
         refine xk_resC2 F rfl ((H.pm 10 [3, 0, 1, 2, 4, 5, 6, 7, 8, 9] rfl:)) (fun w H => ⟨_, rfl, ld1 plain33 ((H.blk 5 rfl).cell _)⟩) (fun w H => ⟨_, rfl, ld1 plain26 ((H.blk 4 rfl).cell _)⟩) ?_; clear H; intro w H
         exact ⟨_, rfl, p46, c46, rfl, (H.pm 9 [1, 0] rfl:)⟩
       · clear F H
         rintro r26 ⟨p27, c27⟩ Ds47 a w ho F H; subst ho; have hm := elimR hm26; clear hm26 eo26
         replace F : Fr ⟨47, marks Ds47⟩ a [(0, .pointer (some ⟨bo0, 0, none⟩)), (3, .pointer (some ⟨b2, 0, none⟩)), (4, .pointer (some ⟨b3, 0, none⟩)), (5, .pointer (some ⟨b4, 0, none⟩)), (29, .func (.func 75) #[] [.pointer (some ⟨b12, 0, none⟩)].toArray)] := F
         replace H : St w0 w (HP.mks Ds47 :: HP.rdl R_disk_write css13 d.2.1 :: HP.blk bo0 ([.slice p5 (d.1).length c6, .slice p7 (d.2.1).length c8, .int .i64 (d.2.2.1), .bool (d.2.2.2)]) 71 :: HP.ow (rSl rByte) 33 p5 c6 d.1 :: HP.blk b4 ([.int .i64 (0)]) 26 :: HP.blk b3 ([.slice p27 (r26).length c27]) 33 :: HP.blk b2 ([.int .i64 (i)]) 3 :: HP.ow rByte 5 p27 c27 r26 :: HP.blk b12 ([.slice p7 (d.2.1).length c8]) 69 :: HP.own 88 2 (.slice p7 (d.2.1).length c8) (d.2.1).length css13.flatten :: l) := H
         replace H := H.owShut 9 1 rfl rfl
         refine wr (br (tr ?_))
         replace H := H.frz 7 rfl
         replace H := O_disk_Disk_s (H.pm 10 [3, 4, 9, 0, 1, 2, 5, 6, 7, 8] rfl:)
         cases hm
         refine xk_resC2 F rfl ((H.pm 8 [2, 0, 1, 3, 4, 5, 6, 7] rfl:)) (fun w H => ⟨_, rfl, ld1 plain33 ((H.blk 4 rfl).cell _)⟩) (fun w H => ⟨_, rfl, ld1 plain26 ((H.blk 3 rfl).cell _)⟩) ?_; clear H; intro w H
         exact ⟨_, rfl, p27, c27, rfl, (H.pm 7 [1, 0] rfl:)⟩
theorem ent41 : ∀ args w, (callFunc 41 args).run Tryd.prog w = .ok (.enter 41 args) w := enters Tryd.func41 (by kernel_rfl) rfl
theorem zero69 : Zero1 Tryd.prog 69 (.slice none 0 0) := ⟨by kernel_rfl, rfl⟩
set_option maxRecDepth 100000 in
set_option maxHeartbeats 4000000 in
theorem w_diskWrite {d : T_disk_Disk_o} {i : Int} {data : List UInt8} {bo0 : Nat} {p1 : Option Addr} {c1 : Nat} {w0 w : World} {l : List HP}  {r : Int × T_disk_Disk_o} (hm : diskWrite d i data = some r) (H : St w0 w (O_disk_Disk bo0 d :: HP.sl rByte p1 c1 data :: l)) :
  Calls Tryd.prog 19 [.pointer (some ⟨bo0, 0, none⟩), .int .i64 (i), .slice p1 (data).length c1].toArray w (fun e w' => ∃ v, e = .returned v ∧ v = .int .i64 (r.1) ∧ St w0 w' (O_disk_Disk bo0 r.2 :: l)) := by
 unfold diskWrite at hm
 refine x_enter Tryd.func19 rfl rfl rfl ?_
 intro a F
 refine sr (bk [0] F H rfl trivial ?_); clear F; intro a F
 refine nl (sq (bl (sr (bk [0, 0, 3] F H rfl ⟨fld71_3, trivial⟩ ?_)))); clear F; intro a F
 obtain ⟨p2, c3, p4, c5, H⟩ := O_disk_Disk_o (H.pk 0 rfl)
 refine bk [3, 0] F H rfl ⟨rfl, plain4, trivial⟩ ?_; clear F; intro a F
 refine nl (cB F rfl (fun hg6 => ?_) (fun hg6 => ?_))
 · replace hm := ifT hg6 hm
   refine sr (bk [0] F H rfl trivial ?_); clear F; intro a F
   refine nl (wr (br (tr ?_)))
   replace H := O_disk_Disk_s H
   cases hm
   refine x_ret1 F rfl rfl ?_
   exact ⟨_, rfl, rfl, (H.pm 2 [0] rfl:)⟩
 · replace hm := ifF (nT hg6) hm
   refine sr (bk [0, 0, 0] F H rfl trivial ?_); clear F; intro a F
   by_cases hg7 : i < 0
   · replace hm := ifT hg7 hm
     replace F := F.bT 16 hg7 rfl
     refine bk (List.replicate 9 0) F H rfl trivial ?_; clear F; intro a F
     refine nl (cT F rfl ?_)
     refine sr (bk [0] F H rfl trivial ?_); clear F; intro a F
     refine nl (wr (br (tr ?_)))
     replace H := O_disk_Disk_s H
     cases hm
     refine x_ret1 F rfl rfl ?_
     exact ⟨_, rfl, rfl, (H.pm 2 [0] rfl:)⟩
   · replace hm := ifF hg7 hm
     replace F := F.bF 16 hg7 rfl
     refine bk (List.replicate 9 0) F H rfl ⟨fld71_0, rfl, plain22, ⟨_, Tryd.underlying22⟩, trivial⟩ ?_; clear F; intro a F
     refine nl (cP F rfl (fun hg8 => ?_) (fun hg8 => ?_))
     · replace hm := ifT hg8 hm
       refine sr (bk [0] F H rfl trivial ?_); clear F; intro a F
       refine nl (wr (br (tr ?_)))
       replace H := O_disk_Disk_s H
       cases hm
       refine x_ret1 F rfl rfl ?_
       exact ⟨_, rfl, rfl, (H.pm 2 [0] rfl:)⟩
     · replace hm := ifF hg8 hm
       refine sr (bk [0, 0, 0, 0] F H rfl ⟨⟨_, Tryd.underlying33⟩, trivial⟩ ?_); clear F; intro a F
       refine nl (cN F rfl (fun hg9 => ?_) (fun hg9 => ?_))
       · replace hm := ifF hg9 hm
         refine sr (bk [0] F H rfl trivial ?_); clear F; intro a F
         refine nl (wr (br (tr ?_)))
         replace H := O_disk_Disk_s H
         cases hm
         refine x_ret1 F rfl rfl ?_
         exact ⟨_, rfl, rfl, (H.pm 2 [0] rfl:)⟩
       · replace hm := ifT hg9 hm
         refine sk (bn (ct (sr (bk [0] F H rfl trivial ?_)))); clear F; intro a F
         replace H := O_disk_Disk_s H
         obtain ⟨x10, ex10, hm⟩ := ob hm
         refine sc wkP F rfl ent41 (w_diskCall ex10 H:) ?_; clear F H; rintro _ w a ⟨rfl, H⟩ F
         refine bk [0] F H rfl trivial ?_; clear F; intro a F
         replace H := H.nf 2 rfl
         refine nl (sq ?_)
         obtain ⟨p20, c21, p22, c23, H⟩ := O_disk_Disk_o (H.pk 0 rfl)
         refine mix_region [7, 9, 10, 13] [13] (.step 0 0 (.step 0 1 (.step 0 2 (.step 0 3 (.step 0 4 (.step 0 5 (.step 0 6 (.step 2 7 (.step 0 8 (.step 2 9 (.step 2 10 (.step 0 11 (.step 0 12 (.step 3 13 .done)))))))))))))) (fun u => ∃ ls, St w0 u (HP.blk bo0 ([.slice p20 (x10.2.1).length c21, .slice p22 (x10.2.2.1).length c23, .int .i64 (x10.2.2.2.1), .bool (x10.2.2.2.2)]) 71 :: ls)) (by kernel_rfl) (by kernel_rfl) ⟨_, H.drew⟩ ?_
         replace H := H.drew
         generalize w.drew = w at H ⊢
         refine mbk [0, 0, 0, 1] F H rfl ⟨fld71_1, trivial⟩ ?_; clear F; intro a F
         refine m_pure F rfl rfl rfl rfl (fun u hu => y_load1 F plain69 rfl rfl (row_at (v := .slice p22 (x10.2.2.1).length c23) ((hu.choose_spec.blk 0 rfl).row) rfl)) ?_; clear F; intro a F
         refine mbk [0, 0] F H rfl trivial ?_; clear F; intro a F
         refine m_heavy rfl rfl ?_
         obtain ⟨x24, ex24, hm⟩ := ob hm
         refine sc wkP F rfl ent42 (w_cloneB ex24 (H.pm 4 [3, 0, 1, 2, 3] rfl:):) ?_; clear F H; rintro _ w a ⟨p25, c25, rfl, H⟩ F
         refine lz ?_; refine ct ⟨⟨_, (H.pm 5 [1, 0, 2, 3, 4] rfl:)⟩, ?_⟩
         refine m_pure F rfl rfl rfl rfl (fun u hu => y_build F rfl rfl (cs := [.int .i64 (i), .slice p25 (x24).length c25]) (by kernel_rfl)) ?_; clear F; intro a F
         refine m_heavy rfl rfl ?_
         replace H := H.frz 0 rfl
         refine s_build1 wkP F rfl rfl rfl agg88 elem69 rfl rfl (by simp only [List.length_append, List.length_cons, List.length_nil, icells_length, bcells_length]) (by decide) H ?_; clear F H; intro b26 w a H F
         replace H : St w0 w (HP.ow R_disk_write 88 (some ⟨b26, 0, none⟩) (([(i, x24)]).length) ([(i, x24)]) :: HP.sl rByte p25 c25 x24 :: HP.blk bo0 ([.slice p20 (x10.2.1).length c21, .slice p22 (x10.2.2.1).length c23, .int .i64 (x10.2.2.2.1), .bool (x10.2.2.2.2)]) 71 :: HP.ow (rSl rByte) 33 p20 c21 x10.2.1 :: HP.ow R_disk_write 88 p22 c23 x10.2.2.1 :: HP.sl rByte p1 c1 data :: l) := H.blkOw (R := R_disk_write) 0 rfl (fun gg => ⟨[[.int .i64 (i), .slice p25 (x24).length c25]], by simp, ⟨_, _, rfl, rfl, ⟨_, _, rfl, (gg 1 _ rfl).choose_spec⟩⟩, trivial⟩) (by simp)
         refine lz ?_; refine ct ⟨⟨_, (H.pm 6 [2, 0, 1, 3, 4, 5] rfl:)⟩, ?_⟩
         refine m_heavy rfl rfl ?_
         replace H := H.frz 0 rfl
         obtain ⟨x28, ex28, hm⟩ := ob hm
         refine s_app wkP F rfl rfl rfl rfl rfl rfl elem69 rfl ex28 H 4 0 rfl rfl ?_; clear F H; intro p27 c27 w a H F
         refine lz ?_; refine ct ⟨⟨_, (H.pm 6 [2, 0, 1, 3, 4, 5] rfl:)⟩, ?_⟩
         refine mbk [0, 1] F H rfl ⟨fld71_1, trivial⟩ ?_; clear F; intro a F
         refine m_last rfl rfl ?_
         refine s_st1 wkP F rfl rfl zero69 rfl rfl rfl rfl rfl H 2 rfl rfl ?_; clear H; intro w H
         refine lz ?_; refine ct ?_
         refine m_nil ?_
         refine ct (sq (sr (bk [0, 0] F H rfl trivial ?_))); clear F; intro a F
         replace H := H.nf 6 rfl
         refine nl (cB F rfl (fun hg29 => ?_) (fun hg29 => ?_))
         · replace hm := ifT hg29 hm
           refine sr (bk [0] F H rfl trivial ?_); clear F; intro a F
           refine nl (wr (tr ?_))
           replace H := O_disk_Disk_s (H.pm 6 [2, 3, 4, 0, 1, 5] rfl:)
           cases hm
           refine x_ret1 F rfl rfl ?_
           exact ⟨_, rfl, rfl, (H.pm 4 [0] rfl:)⟩
         · replace hm := ifF (nT hg29) hm
           refine sk (ct (sr (bk [0] F H rfl trivial ?_))); clear F; intro a F
           refine nl (wr ?_)
           replace H := O_disk_Disk_s (H.pm 6 [2, 3, 4, 0, 1, 5] rfl:)
           cases hm
           refine x_ret1 F rfl rfl ?_
           exact ⟨_, rfl, rfl, (H.pm 4 [0] rfl:)⟩
set_option maxRecDepth 100000 in
set_option maxHeartbeats 4000000 in
theorem w_diskFlush {d : T_disk_Disk_o} {bo0 : Nat} {w0 w : World} {l : List HP}  {r : Int × T_disk_Disk_o} (hm : diskFlush d = some r) (H : St w0 w (O_disk_Disk bo0 d :: l)) :
  Calls Tryd.prog 13 [.pointer (some ⟨bo0, 0, none⟩)].toArray w (fun e w' => ∃ v, e = .returned v ∧ v = .int .i64 (r.1) ∧ St w0 w' (O_disk_Disk bo0 r.2 :: l)) := by
 unfold diskFlush at hm
 refine x_enter Tryd.func13 rfl rfl rfl ?_
 intro a F
 refine sr (bk [0] F H rfl trivial ?_); clear F; intro a F
 refine nl (sq (sr (bk [0, 0, 3] F H rfl ⟨fld71_3, trivial⟩ ?_))); clear F; intro a F
 obtain ⟨p1, c2, p3, c4, H⟩ := O_disk_Disk_o (H.pk 0 rfl)
 refine bk [3, 0] F H rfl ⟨rfl, plain4, trivial⟩ ?_; clear F; intro a F
 by_cases hg5 : d.2.2.2 = true
 · replace hm := ifT hg5 hm
   replace F := F.vT 9 hg5 rfl
   refine bk [0, 0, 0, 0] F H rfl trivial ?_; clear F; intro a F
   refine nl (cT F rfl ?_)
   refine sr (bk [0] F H rfl trivial ?_); clear F; intro a F
   refine nl (wr (tr ?_))
   replace H := O_disk_Disk_s H
   cases hm
   refine x_ret1 F rfl rfl ?_
   exact ⟨_, rfl, rfl, H⟩
 · replace hm := ifF hg5 hm
   replace F := F.vF 9 hg5 rfl
   refine bk [0] F H rfl trivial ?_; clear F; intro a F
   refine g_onP F rfl rfl rfl rfl ?_
   replace H := O_disk_Disk_s H
   obtain ⟨x6, ex6, hm⟩ := ob hm
   refine sc wkP F rfl ent41 (w_diskCall ex6 H:) ?_; clear F H; rintro _ w a ⟨rfl, H⟩ F
   refine bk [0, 0] F H rfl trivial ?_; clear F; intro a F
   replace H := H.nf 1 rfl
   refine nl (cB F rfl (fun hg7 => ?_) (fun hg7 => ?_))
   · replace hm := ifT hg7 hm
     refine sr (bk [0] F H rfl trivial ?_); clear F; intro a F
     refine nl (wr (tr ?_))
     cases hm
     refine x_ret1 F rfl rfl ?_
     exact ⟨_, rfl, rfl, H⟩
   · replace hm := ifF (nT hg7) hm
     refine sk (ct (sq (sr (bk [0, 0, 1] F H rfl ⟨fld71_1, trivial⟩ ?_)))); clear F; intro a F
     obtain ⟨p8, c9, p10, c11, H⟩ := O_disk_Disk_o (H.pk 0 rfl)
     refine bk [1, 0, 0] F H rfl ⟨rfl, plain69, ⟨_, Tryd.underlying69⟩, trivial⟩ ?_; clear F; intro a F
     refine nl ?_
     obtain ⟨r67, er67, hm67⟩ := ob hm; clear hm; revert er67; intro hm
     refine x_mid (fun aa ww => ∃ (p68 : Option Addr) (c68 : Nat), Fr ⟨36, []⟩ aa [(0, .pointer (some ⟨bo0, 0, none⟩))] ∧ St w0 ww (HP.blk bo0 ([.slice p68 (r67).length c68, .slice p10 (x6.2.2.1).length c11, .int .i64 (x6.2.2.2.1), .bool (x6.2.2.2.2)]) 71 :: HP.ow R_disk_write 88 p10 c11 x6.2.2.1 :: HP.ow (rSl rByte) 33 p68 c68 r67 :: l)) ?_ ?_
     · skip
       refine bl ?_
       refine x_loopO _ (fun (s105 : (List (List UInt8)) × Int) aa ww => ∃ (p106 : Option Addr) (c106 : Nat), Fr ⟨36, []⟩ aa [(0, .pointer (some ⟨bo0, 0, none⟩)), (17, .slice p10 (x6.2.2.1).length c11), (18, .int .i64 (((x6.2.2.1).length : Int))), (19, .int .i64 (s105.2))] ∧ St w0 ww (HP.blk bo0 ([.slice p106 (s105.1).length c106, .slice p10 (x6.2.2.1).length c11, .int .i64 (x6.2.2.2.1), .bool (x6.2.2.2.2)]) 71 :: HP.ow R_disk_write 88 p10 c11 x6.2.2.1 :: HP.ow (rSl rByte) 33 p106 c106 s105.1 :: l)) hm ⟨p8, c9, F.sl rfl, (H.pm 3 [0, 2, 1] rfl:)⟩ ?_
       clear F H hm
       rintro s105 a w o ⟨p106, c106, F, H⟩ hm
       refine sr (bk [0] F H rfl trivial ?_); clear F; intro a F
       refine nl (sq (cP F rfl (fun hg107 => ?_) (fun hg107 => ?_)))
       · replace hm := ifT hg107 hm
         refine sk (ct (sq (bl (sr ?_))))
         obtain ⟨x108, ex108, hm⟩ := ob hm
         obtain ⟨b109, hp109⟩ := H.owP 1 rfl (idxO_some ex108).2
         obtain ⟨css110, H⟩ := H.oxOpen 1 rfl
         obtain ⟨cs110, hcs110, hcl110, H⟩ := H.oxEl 1 rfl (idxO_some ex108).2
         refine s_val wkP F rfl rfl rfl rfl (y_idxS F elem69 rfl rfl rfl hp109 ex108) ?_; clear F; intro a F
         refine s_val wkP F rfl rfl rfl rfl (y_loadA F agg88 rfl rfl (H.oxRow 2 rfl hp109 hcs110 hcl110) (H.rcLen 0 rfl)) ?_; clear F; intro a F
         replace H := H.owNil rByte 5
         refine s_allocA wkP F rfl rfl rfl agz88 rfl H ?_; clear F H; intro b111 w a H F
         refine s_storeA wkP F rfl rfl agg88 rfl rfl rfl H 0 rfl (H.rcLen 2 rfl) (by simp only [List.length_append, List.length_cons, List.length_nil, icells_length, bcells_length]) (H.rcFlat 2 rfl) ?_; clear H; intro w H
         replace H := H.nf 6 rfl
         refine nl ?_
         replace H := H.oxShut 4 rfl
         replace H := rc_disk_write (H.pk 2 rfl); obtain ⟨p118, c119, rfl, H⟩ := H
         obtain ⟨x120, ex120, hm⟩ := ob hm
         obtain ⟨b121, hp121⟩ := H.owP 5 rfl (idxO_some ex120).2
         obtain ⟨css122, H⟩ := H.oxOpen 5 rfl
         obtain ⟨cs122, hcs122, hcl122, H⟩ := H.oxEl 5 rfl (idxO_some ex120).2
         obtain ⟨p123, c123, rfl, H⟩ := H.rcSl 0 rfl
         replace H := H.dp 1 rfl
         refine mix_region [9] [9] (.step 0 0 (.step 0 1 (.step 0 2 (.step 1 3 (.step 0 4 (.step 1 5 (.step 0 6 (.step 1 7 (.step 0 8 (.step 3 9 .done)))))))))) (fun u => ∃ ls, St w0 u (ls)) (by kernel_rfl) (by kernel_rfl) ⟨_, H.drew⟩ ?_
         replace H := H.drew
         generalize w.drew = w at H ⊢
         refine mbk [0, 0, 0, 4000, 0, 2000, 1, 2001] F H rfl ⟨fld71_0, rfl, plain22, fld88_0, rfl, plain3, fld88_1, rfl, plain33, trivial⟩ ?_; clear F; intro a F
         refine m_pure F rfl rfl rfl rfl (fun u hu => y_idxS F elem22 rfl rfl rfl hp121 ex120) ?_; clear F; intro a F
         refine m_last rfl rfl ?_
         replace H := H.oxShut 6 rfl
         refine s_owSet1 wkP F rfl rfl zero33 rfl rfl rfl rfl rfl rfl H 6 rfl hp121 ex120 (zz := x108.2) (fun gg => ⟨_, _, rfl, (gg 1 _ rfl).choose_spec⟩) ?_; clear H; intro w H
         replace H : St w0 w (HP.sl rByte p123 c123 x120 :: HP.sl rByte p118 c119 x108.2 :: HP.blk b111 ([.int .i64 (x108.1), .slice p118 (x108.2).length c119]) 88 :: HP.ow rByte 5 none 0 ([] : List UInt8) :: HP.blk bo0 ([.slice p106 ((s105.1).set (x108.1 : Int).toNat x108.2).length c106, .slice p10 (x6.2.2.1).length c11, .int .i64 (x6.2.2.2.1), .bool (x6.2.2.2.2)]) 71 :: HP.ow R_disk_write 88 p10 c11 x6.2.2.1 :: HP.ow (rSl rByte) 33 p106 c106 ((s105.1).set (x108.1 : Int).toNat x108.2) :: l) := (by have h := H; first | exact h | (simp only [List.length_set] at h ⊢; exact h))
         replace F := F.bool (k := 26) (u := .slice p106 ((s105.1).set (x108.1 : Int).toNat x108.2).length c106) rfl (by simp only [List.length_set])
         refine lz ?_; refine ct ?_
         refine m_nil ?_
         refine bn (ct (rl (bk [0, 0] F H rfl trivial ?_))); clear F; intro a F
         refine lz (ct ?_); cases hm
         exact ⟨_, rfl, ⟨p106, c106, F.sl rfl, (H.pm 7 [4, 5, 6] rfl:)⟩⟩
       · replace hm := ifF hg107 hm
         refine ex (cx (cx ?_)); cases hm; refine ⟨_, rfl, ?_⟩; rintro rfl
         refine ch (ct ?_)
         exact ⟨p106, c106, F.sl rfl, H⟩
     · skip
       clear F H hm
       rintro a w ⟨p68, c68, F, H⟩; have hm := hm67; clear hm67
       refine ct (sr (bk [0, 0, 1] F H rfl ⟨fld71_1, trivial⟩ ?_)); clear F; intro a F
       replace H := H.owNil R_disk_write 88
       refine s_st1 wkP F rfl rfl zero69 rfl rfl rfl rfl rfl H 1 rfl rfl ?_; clear H; intro w H
       replace H := H.nf 4 rfl
       refine nl (sr (bk [0] F H rfl trivial ?_)); clear F; intro a F
       refine nl (wr ?_)
       replace H := O_disk_Disk_s (x1 := ([] : List T_disk_write)) (H.pm 4 [1, 3, 0, 2] rfl:)
       cases hm
       refine x_ret1 F rfl rfl ?_
       exact ⟨_, rfl, rfl, (H.pm 2 [0] rfl:)⟩
set_option maxRecDepth 100000 in
set_option maxHeartbeats 4000000 in
theorem w_diskLimit {d : T_disk_Disk_o} {n : Int} {bo0 : Nat} {w0 w : World} {l : List HP}  {r : T_disk_Disk_o} (hm : diskLimit d n = some r) (H : St w0 w (O_disk_Disk bo0 d :: l)) :
  Calls Tryd.prog 23 [.pointer (some ⟨bo0, 0, none⟩), .int .i64 (n)].toArray w (fun e w' => ∃ v, e = .returned v ∧ v = .tuple [].toArray ∧ St w0 w' (O_disk_Disk bo0 r :: l)) := by
 unfold diskLimit at hm
 refine x_enter Tryd.func23 rfl rfl rfl ?_
 intro a F
 refine rl (bk [0, 0] F H rfl trivial ?_); clear F; intro a F
 refine s_val wkP F rfl rfl rfl rfl (y_max F rfl rfl rfl rfl) ?_; clear F; intro a F
 refine bk [0, 2] F H rfl ⟨fld71_2, trivial⟩ ?_; clear F; intro a F
 obtain ⟨p1, c2, p3, c4, H⟩ := O_disk_Disk_o (H.pk 0 rfl)
 refine s_st1 wkP F rfl rfl zero3 rfl rfl rfl rfl rfl H 0 rfl rfl ?_; clear H; intro w H
 replace H := H.nf 3 rfl
 refine lz ?_
 replace H := O_disk_Disk_s H
 cases hm
 refine x_end0 F rfl ?_
 exact ⟨_, rfl, rfl, H⟩
theorem elem23 : ElemT Tryd.prog 23 3 1 8 (.int .i64 0) := ⟨Tryd.underlying23, by kernel_rfl, by kernel_rfl, by decide⟩
set_option maxRecDepth 100000 in
set_option maxHeartbeats 4000000 in
theorem w_diskCrash {d : T_disk_Disk_o} {fates : List Int} {bo0 : Nat} {p1 : Option Addr} {c1 : Nat} {w0 w : World} {l : List HP}  {r : T_disk_Disk_o} (hm : diskCrash d fates = some r) (H : St w0 w (O_disk_Disk bo0 d :: HP.sl (rInt .i64) p1 c1 fates :: l)) :
  Calls Tryd.prog 15 [.pointer (some ⟨bo0, 0, none⟩), .slice p1 (fates).length c1].toArray w (fun e w' => ∃ v, e = .returned v ∧ ∃ (b2 : Nat), v = .pointer (some ⟨b2, 0, none⟩) ∧ St w0 w' (O_disk_Disk b2 r :: O_disk_Disk bo0 d :: l)) := by
 unfold diskCrash at hm
 refine x_enter Tryd.func15 rfl rfl rfl ?_
 intro a F
 refine sr (bk [0] F H rfl trivial ?_); clear F; intro a F
 refine nl (sr ?_)
 replace H := (H.ownNil 33 1).osNil 5
 replace H := H.owNil R_disk_write 88
 refine s_val wkP F rfl rfl rfl rfl (y_build F rfl rfl (cs := [.slice none (([] : List (List UInt8))).length 0, .slice none (([] : List T_disk_write)).length 0, .int .i64 (-1), .bool false]) (by kernel_rfl)) ?_; clear F; intro a F
 refine s_boxA wkP F rfl rfl rfl rfl rfl H ?_; clear F H; intro b3 w a H F
 refine bk [0] F H rfl trivial ?_; clear F; intro a F
 replace H := H.nf 6 rfl
 refine nl (sq (sr (bk [0, 0, 0] F H rfl ⟨fld71_0, trivial⟩ ?_))); clear F; intro a F
 obtain ⟨p4, c5, p6, c7, H⟩ := O_disk_Disk_o (H.pk 4 rfl)
 refine bk [0, 0, 0] F H rfl ⟨rfl, plain22, ⟨_, Tryd.underlying22⟩, trivial⟩ ?_; clear F; intro a F
 refine nl ?_
 obtain ⟨r57, er57, hm57⟩ := ob hm; clear hm; revert er57; intro hm
 refine x_mid (fun aa ww => ∃ (p58 : Option Addr) (c58 : Nat) (css58 : List (List Value)), Fr ⟨96, []⟩ aa [(0, .pointer (some ⟨bo0, 0, none⟩)), (1, .slice p1 (fates).length c1), (5, .pointer (some ⟨b3, 0, none⟩))] ∧ St w0 ww (HP.blk bo0 ([.slice p4 (d.1).length c5, .slice p6 (d.2.1).length c7, .int .i64 (d.2.2.1), .bool (d.2.2.2)]) 71 :: HP.ow (rSl rByte) 33 p4 c5 d.1 :: HP.ow R_disk_write 88 p6 c7 d.2.1 :: HP.blk b3 ([.slice p58 (r57).length c58, .slice none (([] : List T_disk_write)).length 0, .int .i64 (-1), .bool false]) 71 :: HP.ow R_disk_write 88 none 0 ([] : List T_disk_write) :: HP.sl (rInt .i64) p1 c1 fates :: HP.own 33 1 (.slice p58 (r57).length c58) (r57).length (css58).flatten :: HP.os 5 css58 r57 noh :: l)) ?_ ?_
 · skip
   refine bl ?_
   refine x_loopO _ (fun (s91 : (List (List UInt8)) × Int) aa ww => ∃ (p92 : Option Addr) (c92 : Nat) (css92 : List (List Value)), Fr ⟨96, []⟩ aa [(0, .pointer (some ⟨bo0, 0, none⟩)), (1, .slice p1 (fates).length c1), (5, .pointer (some ⟨b3, 0, none⟩)), (18, .slice p4 (d.1).length c5), (19, .int .i64 (((d.1).length : Int))), (20, .int .i64 (s91.2))] ∧ St w0 ww (HP.blk bo0 ([.slice p4 (d.1).length c5, .slice p6 (d.2.1).length c7, .int .i64 (d.2.2.1), .bool (d.2.2.2)]) 71 :: HP.ow (rSl rByte) 33 p4 c5 d.1 :: HP.ow R_disk_write 88 p6 c7 d.2.1 :: HP.blk b3 ([.slice p92 (s91.1).length c92, .slice none (([] : List T_disk_write)).length 0, .int .i64 (-1), .bool false]) 71 :: HP.ow R_disk_write 88 none 0 ([] : List T_disk_write) :: HP.sl (rInt .i64) p1 c1 fates :: HP.own 33 1 (.slice p92 (s91.1).length c92) (s91.1).length (css92).flatten :: HP.os 5 css92 s91.1 noh :: l)) hm ⟨none, 0, ([] : List (List Value)), F.sl rfl, (H.pm 8 [0, 1, 2, 3, 4, 7, 6, 5] rfl:)⟩ ?_
   clear F H hm
   rintro s91 a w o ⟨p92, c92, css92, F, H⟩ hm
   refine sr (bk [0] F H rfl trivial ?_); clear F; intro a F
   refine nl (sq (cP F rfl (fun hg93 => ?_) (fun hg93 => ?_)))
   · replace hm := ifT hg93 hm
     refine sk (ct (sq (bl (sr ?_))))
     obtain ⟨x94, ex94, hm⟩ := ob hm
     obtain ⟨b95, hp95⟩ := H.owP 1 rfl (idxO_some ex94).2
     obtain ⟨css96, H⟩ := H.oxOpen 1 rfl
     obtain ⟨cs96, hcs96, hcl96, H⟩ := H.oxEl 1 rfl (idxO_some ex94).2
     obtain ⟨p97, c97, rfl, H⟩ := H.rcSl 0 rfl
     replace H := H.dp 1 rfl
     refine s_val wkP F rfl rfl rfl rfl (y_idxS F elem22 rfl rfl rfl hp95 ex94) ?_; clear F; intro a F
     refine s_val wkP F rfl rfl rfl rfl (y_load1 F plain33 rfl rfl ((H.oxRow 2 rfl hp95 hcs96 hcl96) 0 _ rfl)) ?_; clear F; intro a F
     refine bk [0] F H rfl trivial ?_; clear F; intro a F
     refine nl ?_
     replace H := H.oxShut 2 rfl
     refine mix_region [6, 7, 8, 11] [11] (.step 0 0 (.step 0 1 (.step 0 2 (.step 0 3 (.step 0 4 (.step 0 5 (.step 2 6 (.step 2 7 (.step 2 8 (.step 0 9 (.step 0 10 (.step 3 11 .done)))))))))))) (fun u => ∃ ls, St w0 u (HP.blk b3 ([.slice p92 (s91.1).length c92, .slice none (([] : List T_disk_write)).length 0, .int .i64 (-1), .bool false]) 71 :: ls)) (by kernel_rfl) (by kernel_rfl) ⟨_, (H.drew.pm 9 [4, 0, 1, 2, 3, 5, 6, 7, 8] rfl:)⟩ ?_
     replace H := H.drew
     generalize w.drew = w at H ⊢
     refine mbk [0, 0, 0, 0] F H rfl ⟨fld71_0, trivial⟩ ?_; clear F; intro a F
     refine m_pure F rfl rfl rfl rfl (fun u hu => y_load1 F plain22 rfl rfl (row_at (v := .slice p92 (s91.1).length c92) ((hu.choose_spec.blk 0 rfl).row) rfl)) ?_; clear F; intro a F
     refine mbk [0] F H rfl trivial ?_; clear F; intro a F
     refine m_heavy rfl rfl ?_
     obtain ⟨x103, ex103, hm⟩ := ob hm
     refine sc wkP F rfl ent42 (w_cloneB ex103 (H.pm 9 [0, 0, 1, 2, 3, 4, 5, 6, 7, 8] rfl:):) ?_; clear F H; rintro _ w a ⟨p104, c104, rfl, H⟩ F
     refine lz ?_; refine ct ⟨⟨_, (H.pm 10 [5, 0, 1, 2, 3, 4, 6, 7, 8, 9] rfl:)⟩, ?_⟩
     refine m_heavy rfl rfl ?_
     refine s_buildC wkP F rfl rfl rfl elem22 zero33 rfl rfl rfl rfl (by simp [Value.cells]) (by decide) H ?_; clear F H; intro b105 w a H F
     refine lz ?_; refine ct ⟨⟨_, (H.pm 11 [6, 0, 1, 2, 3, 4, 5, 7, 8, 9, 10] rfl:)⟩, ?_⟩
     refine m_heavy rfl rfl ?_
     obtain ⟨x107, ex107, hm⟩ := ob hm
     refine s_appOO wkP F rfl rfl rfl rfl rfl rfl elem22 rfl ex107 ((H.pm 11 [9, 1, 10, 0, 2, 3, 4, 5, 6, 7, 8] rfl:)) ?_; clear F H; intro p106 c106 w a H F
     refine lz ?_; refine ct ⟨⟨_, (H.pm 9 [6, 0, 1, 2, 3, 4, 5, 7, 8] rfl:)⟩, ?_⟩
     refine mbk [0, 0] F H rfl ⟨fld71_0, trivial⟩ ?_; clear F; intro a F
     refine m_last rfl rfl ?_
     refine s_st1 wkP F rfl rfl zero22 rfl rfl rfl rfl rfl H 6 rfl rfl ?_; clear H; intro w H
     refine lz ?_; refine ct ?_
     refine m_nil ?_
     refine bn (ct (rl (bk [0, 0] F H rfl trivial ?_))); clear F; intro a F
     replace H := H.nf 9 rfl
     refine lz (ct ?_); cases hm
     exact ⟨_, rfl, ⟨p106, c106, (css92 ++ [[Value.slice p104 (x103).length c104]]), F.sl rfl, (H.pm 9 [3, 4, 5, 6, 7, 8, 1, 0] rfl:)⟩⟩
   · replace hm := ifF hg93 hm
     refine ex (cx (cx ?_)); cases hm; refine ⟨_, rfl, ?_⟩; rintro rfl
     refine ch (ct ?_)
     exact ⟨p92, c92, css92, F.sl rfl, H⟩
 · skip
   clear F H hm
   rintro a w ⟨p58, c58, css58, F, H⟩; have hm := hm57; clear hm57
   refine ct (sq (sr (bk [0, 0, 1, 1, 0, 0] F H rfl ⟨fld71_1, rfl, plain69, ⟨_, Tryd.underlying69⟩, trivial⟩ ?_))); clear F; intro a F
   refine nl ?_
   obtain ⟨r1627, er1627, hm1627⟩ := ob hm; clear hm; revert er1627; intro hm
   refine x_mid (fun aa ww => Fr ⟨96, []⟩ aa [(5, .pointer (some ⟨b3, 0, none⟩))] ∧ St w0 ww (HP.blk bo0 ([.slice p4 (d.1).length c5, .slice p6 (d.2.1).length c7, .int .i64 (d.2.2.1), .bool (d.2.2.2)]) 71 :: HP.ow (rSl rByte) 33 p4 c5 d.1 :: HP.ow R_disk_write 88 p6 c7 d.2.1 :: HP.blk b3 ([.slice p58 (r1627).length c58, .slice none (([] : List T_disk_write)).length 0, .int .i64 (-1), .bool false]) 71 :: HP.ow R_disk_write 88 none 0 ([] : List T_disk_write) :: HP.own 33 1 (.slice p58 (r1627).length c58) (r1627).length (css58).flatten :: HP.os 5 css58 r1627 noh :: l)) ?_ ?_
   · skip
     refine bl ?_
     refine x_loopO _ (fun (s2640 : (List (List UInt8)) × Int) aa ww => Fr ⟨96, []⟩ aa [(1, .slice p1 (fates).length c1), (5, .pointer (some ⟨b3, 0, none⟩)), (39, .slice p6 (d.2.1).length c7), (40, .int .i64 (((d.2.1).length : Int))), (41, .int .i64 (s2640.2))] ∧ St w0 ww (HP.blk bo0 ([.slice p4 (d.1).length c5, .slice p6 (d.2.1).length c7, .int .i64 (d.2.2.1), .bool (d.2.2.2)]) 71 :: HP.ow (rSl rByte) 33 p4 c5 d.1 :: HP.ow R_disk_write 88 p6 c7 d.2.1 :: HP.blk b3 ([.slice p58 (s2640.1).length c58, .slice none (([] : List T_disk_write)).length 0, .int .i64 (-1), .bool false]) 71 :: HP.ow R_disk_write 88 none 0 ([] : List T_disk_write) :: HP.sl (rInt .i64) p1 c1 fates :: HP.own 33 1 (.slice p58 (s2640.1).length c58) (s2640.1).length (css58).flatten :: HP.os 5 css58 s2640.1 noh :: l)) hm ⟨F.sl rfl, H⟩ ?_
     clear F H hm
     rintro s2640 a w o ⟨F, H⟩ hm
     refine sr (bk [0] F H rfl trivial ?_); clear F; intro a F
     refine nl (sq (cP F rfl (fun hg2641 => ?_) (fun hg2641 => ?_)))
     · replace hm := ifT hg2641 hm
       refine sk (ct (sq ?_))
       obtain ⟨r2894, er2894, hm2894⟩ := ob hm; clear hm; revert er2894; intro hm
       refine x_mid (fun aa ww => Fr ⟨96, []⟩ aa [(1, .slice p1 (fates).length c1), (5, .pointer (some ⟨b3, 0, none⟩)), (39, .slice p6 (d.2.1).length c7), (40, .int .i64 (((d.2.1).length : Int))), (41, .int .i64 (s2640.2))] ∧ St w0 ww (HP.blk bo0 ([.slice p4 (d.1).length c5, .slice p6 (d.2.1).length c7, .int .i64 (d.2.2.1), .bool (d.2.2.2)]) 71 :: HP.ow (rSl rByte) 33 p4 c5 d.1 :: HP.ow R_disk_write 88 p6 c7 d.2.1 :: HP.blk b3 ([.slice p58 (r2894).length c58, .slice none (([] : List T_disk_write)).length 0, .int .i64 (-1), .bool false]) 71 :: HP.ow R_disk_write 88 none 0 ([] : List T_disk_write) :: HP.sl (rInt .i64) p1 c1 fates :: HP.own 33 1 (.slice p58 (r2894).length c58) (r2894).length (css58).flatten :: HP.os 5 css58 r2894 noh :: l)) ?_ ?_
       · skip
         refine bl (sr (bk [0] F H rfl trivial ?_)); clear F; intro a F
         obtain ⟨x2895, ex2895, hm⟩ := ob hm
         obtain ⟨b2896, hp2896⟩ := H.owP 2 rfl (idxO_some ex2895).2
         obtain ⟨css2897, H⟩ := H.oxOpen 2 rfl
         obtain ⟨cs2897, hcs2897, hcl2897, H⟩ := H.oxEl 2 rfl (idxO_some ex2895).2
         refine s_val wkP F rfl rfl rfl rfl (y_idxS F elem69 rfl rfl rfl hp2896 ex2895) ?_; clear F; intro a F
         refine s_val wkP F rfl rfl rfl rfl (y_loadA F agg88 rfl rfl (H.oxRow 3 rfl hp2896 hcs2897 hcl2897) (H.rcLen 0 rfl)) ?_; clear F; intro a F
         replace H := H.owNil rByte 5
         refine s_allocA wkP F rfl rfl rfl agz88 rfl H ?_; clear F H; intro b2898 w a H F
         refine bk [0] F H rfl trivial ?_; clear F; intro a F
         refine s_storeA wkP F rfl rfl agg88 rfl rfl rfl H 0 rfl (H.rcLen 2 rfl) (by simp only [List.length_append, List.length_cons, List.length_nil, icells_length, bcells_length]) (H.rcFlat 2 rfl) ?_; clear H; intro w H
         replace H := H.nf 11 rfl
         refine nl ?_
         replace H := H.oxShut 5 rfl
         refine sr (bk [0] F H rfl trivial ?_); clear F; intro a F
         replace H := H.nf 11 rfl
         refine nl (sq (sr (bk [0, 0, 0, 0] F H rfl ⟨⟨_, Tryd.underlying23⟩, trivial⟩ ?_))); clear F; intro a F
         refine nl ?_
         obtain ⟨r2903, er2903, hm2903⟩ := ob hm; clear hm; revert er2903; intro hm
         refine x_mid (fun aa ww => Fr ⟨96, []⟩ aa [(1, .slice p1 (fates).length c1), (5, .pointer (some ⟨b3, 0, none⟩)), (9, .pointer (some ⟨b2898, 0, none⟩)), (10, .int .i64 (r2903)), (39, .slice p6 (d.2.1).length c7), (40, .int .i64 (((d.2.1).length : Int))), (41, .int .i64 (s2640.2))] ∧ St w0 ww (HP.blk b2898 (cs2897) 88 :: HP.ow rByte 5 none 0 ([] : List UInt8) :: HP.rc R_disk_write cs2897 x2895 :: HP.blk bo0 ([.slice p4 (d.1).length c5, .slice p6 (d.2.1).length c7, .int .i64 (d.2.2.1), .bool (d.2.2.2)]) 71 :: HP.ow (rSl rByte) 33 p4 c5 d.1 :: HP.ow R_disk_write 88 p6 c7 d.2.1 :: HP.blk b3 ([.slice p58 (s2640.1).length c58, .slice none (([] : List T_disk_write)).length 0, .int .i64 (-1), .bool false]) 71 :: HP.ow R_disk_write 88 none 0 ([] : List T_disk_write) :: HP.sl (rInt .i64) p1 c1 fates :: HP.own 33 1 (.slice p58 (s2640.1).length c58) (s2640.1).length (css58).flatten :: HP.os 5 css58 s2640.1 noh :: l)) ?_ ?_
         · skip
           refine cP F rfl (fun hg2904 => ?_) (fun hg2904 => ?_)
           · replace hm := ifT hg2904 hm
             refine rl (bk [0, 0] F H rfl trivial ?_); clear F; intro a F
             obtain ⟨x2905, ex2905, hm⟩ := ob hm
             obtain ⟨b2906, o2906, hp2906⟩ := H.slP 8 rfl (idxO_some ex2905).2
             obtain ⟨cs2907, hcl2907, H⟩ := H.slEl 8 rfl hp2906 (idxO_some ex2905).2
             obtain rfl := H.rcI 1 rfl
             replace H := H.dp 1 rfl
             clear hcl2907
             refine s_val wkP F rfl rfl rfl rfl (y_idxS F elem23 rfl rfl rfl hp2906 ex2905) ?_; clear F; intro a F
             refine bk [0, 0] F H rfl ⟨rfl, plain3, trivial⟩ ?_; clear F; intro a F
             refine lz ?_
             cases hm
             refine ct ?_
             exact ⟨F.sl rfl, (H.pm 12 [1, 2, 3, 4, 5, 6, 7, 8, 9, 10, 11] rfl:)⟩
           · replace hm := ifF hg2904 hm
             refine sk ?_
             cases hm
             refine ct ?_
             exact ⟨F.sl rfl, H⟩
         · skip
           clear F H hm
           rintro a w ⟨F, H⟩; have hm := hm2903; clear hm2903
           refine ct (sq ?_)
           replace H := rc_disk_write (H.pk 2 rfl); obtain ⟨p2908, c2909, rfl, H⟩ := H
           obtain ⟨x2910, ex2910, hm⟩ := ob hm
           obtain ⟨b2911, hp2911⟩ := H.ooP 9 rfl (Nat.lt_of_le_of_lt (Nat.zero_le _) (List.getElem?_eq_some_iff.1 (idxO_some ex2910).2).1)
           obtain ⟨p2913, c2913, hc2913, H⟩ := (H.mv 10 rfl).osTake (idxO_some ex2910).2
           refine qr H (by kernel_rfl) (by kernel_rfl) ?_
           refine qbk [0, 0, 0, 8000, 0, 3000] F rfl ⟨fld71_0, rfl, plain22, fld88_0, rfl, plain3, trivial⟩ ?_; clear F; intro a F
           refine q_val F rfl rfl rfl (fun u hu => y_idxS F elem22 rfl rfl rfl hp2911 ex2910) ?_; clear F; intro a F
           refine q_val F rfl rfl rfl (fun u hu => y_load1 F plain33 rfl rfl (hu.ooCell 11 1 rfl rfl hp2911 hc2913)) ?_; clear F; intro a F
           refine qbk [0] F rfl trivial ?_; clear F; intro a F
           refine q_nil ?_; clear H; intro w H
           refine ct (sr (bk [0] F H rfl trivial ?_)); clear F; intro a F
           refine s_val wkP F rfl rfl rfl rfl (i_shr F rfl rfl rfl (by decide)) ?_; clear F; intro a F
           obtain ⟨x2914, ex2914, hm⟩ := ob hm
           refine s_val wkP F rfl rfl rfl rfl (i_rem F rfl rfl rfl ex2914) ?_; clear F; intro a F
           refine bk [0, 0] F H rfl trivial ?_; clear F; intro a F
           obtain ⟨x2915, ex2915, hm⟩ := ob hm
           refine s_val wkP F rfl rfl rfl rfl (i_rem F rfl rfl rfl ex2915) ?_; clear F; intro a F
           refine bk [0] F H rfl trivial ?_; clear F; intro a F
           refine nl (sr (bk [0, 0] F H rfl trivial ?_)); clear F; intro a F
           refine nl ?_
           obtain ⟨r3031, er3031, hm3031⟩ := ob hm; clear hm; revert er3031; intro hm
           refine x_mid (fun aa ww => Fr ⟨96, []⟩ aa [(1, .slice p1 (fates).length c1), (5, .pointer (some ⟨b3, 0, none⟩)), (39, .slice p6 (d.2.1).length c7), (40, .int .i64 (((d.2.1).length : Int))), (41, .int .i64 (s2640.2))] ∧ St w0 ww (HP.os 5 css58 r3031 noh :: HP.sl rByte p2908 c2909 x2895.2 :: HP.blk b2898 ([.int .i64 (x2895.1), .slice p2908 (x2895.2).length c2909]) 88 :: HP.ow rByte 5 none 0 ([] : List UInt8) :: HP.blk bo0 ([.slice p4 (d.1).length c5, .slice p6 (d.2.1).length c7, .int .i64 (d.2.2.1), .bool (d.2.2.2)]) 71 :: HP.ow (rSl rByte) 33 p4 c5 d.1 :: HP.ow R_disk_write 88 p6 c7 d.2.1 :: HP.blk b3 ([.slice p58 (r3031).length c58, .slice none (([] : List T_disk_write)).length 0, .int .i64 (-1), .bool false]) 71 :: HP.ow R_disk_write 88 none 0 ([] : List T_disk_write) :: HP.sl (rInt .i64) p1 c1 fates :: HP.own 33 1 (.slice p58 (r3031).length c58) (r3031).length (css58).flatten :: l)) ?_ ?_
           · skip
             refine bl (sr (bk [0, 0] F H rfl trivial ?_)); clear F; intro a F
             refine nl ?_
             obtain ⟨r3089, er3089, hm3089⟩ := ob hm; clear hm; revert er3089; intro hm
             refine x_mid (fun aa ww => Fr ⟨96, []⟩ aa [(1, .slice p1 (fates).length c1), (5, .pointer (some ⟨b3, 0, none⟩)), (39, .slice p6 (d.2.1).length c7), (40, .int .i64 (((d.2.1).length : Int))), (41, .int .i64 (s2640.2))] ∧ St w0 ww (HP.os 5 css58 r3089 noh :: HP.sl rByte p2908 c2909 x2895.2 :: HP.blk b2898 ([.int .i64 (x2895.1), .slice p2908 (x2895.2).length c2909]) 88 :: HP.ow rByte 5 none 0 ([] : List UInt8) :: HP.blk bo0 ([.slice p4 (d.1).length c5, .slice p6 (d.2.1).length c7, .int .i64 (d.2.2.1), .bool (d.2.2.2)]) 71 :: HP.ow (rSl rByte) 33 p4 c5 d.1 :: HP.ow R_disk_write 88 p6 c7 d.2.1 :: HP.blk b3 ([.slice p58 (r3089).length c58, .slice none (([] : List T_disk_write)).length 0, .int .i64 (-1), .bool false]) 71 :: HP.ow R_disk_write 88 none 0 ([] : List T_disk_write) :: HP.sl (rInt .i64) p1 c1 fates :: HP.own 33 1 (.slice p58 (r3089).length c58) (r3089).length (css58).flatten :: l)) ?_ ?_
             · skip
               refine cP F rfl (fun hg3090 => ?_) (fun hg3090 => ?_)
               · replace hm := ifT hg3090 hm
                 refine rl (bk [0, 1, 3001] F H rfl ⟨fld88_1, rfl, plain33, trivial⟩ ?_); clear F; intro a F
                 have hf3091 : 0 + (x2910).length ≤ (x2910).length := (by rw [Nat.zero_add]; exact Nat.le_refl _)
                 have hl3091 : (putAt x2910 0 ((x2895.2).take (x2910).length)).length = (x2910).length := putAt_len _ _ _ (by rw [List.length_take]; omega)
                 refine s_cpyO wkP F rfl rfl rfl elem33 rfl H 0 2 rfl rfl (fun h => by obtain ⟨b, hb⟩ := H.owP 0 rfl (List.getElem?_eq_getElem h); exact ⟨b, hb, hb⟩) hf3091 rfl rfl ?_; clear F H; intro w a H F
                 replace F := F.bool (k := 61) (u := .slice p2913 ((putAt x2910 0 ((x2895.2).take (x2910).length))).length c2913) rfl (by rw [hl3091])
                 replace F := F.bool (k := 11) (u := .slice p2913 ((putAt x2910 0 ((x2895.2).take (x2910).length))).length c2913) rfl (by rw [hl3091])
                 replace F := F.bool (k := 72) (u := .slice p2913 ((putAt x2910 0 ((x2895.2).take (x2910).length))).length c2913) rfl (by rw [hl3091])
                 replace H := H.nf 12 rfl
                 refine lz ?_
                 replace H : St w0 w (HP.os 5 css58 ((s2640.1).set (x2895.1 : Int).toNat (putAt x2910 0 ((x2895.2).take (x2910).length))) noh :: HP.sl rByte p2908 c2909 x2895.2 :: HP.blk b2898 ([.int .i64 (x2895.1), .slice p2908 (x2895.2).length c2909]) 88 :: HP.ow rByte 5 none 0 ([] : List UInt8) :: HP.blk bo0 ([.slice p4 (d.1).length c5, .slice p6 (d.2.1).length c7, .int .i64 (d.2.2.1), .bool (d.2.2.2)]) 71 :: HP.ow (rSl rByte) 33 p4 c5 d.1 :: HP.ow R_disk_write 88 p6 c7 d.2.1 :: HP.blk b3 ([.slice p58 ((s2640.1).set (x2895.1 : Int).toNat (putAt x2910 0 ((x2895.2).take (x2910).length))).length c58, .slice none (([] : List T_disk_write)).length 0, .int .i64 (-1), .bool false]) 71 :: HP.ow R_disk_write 88 none 0 ([] : List T_disk_write) :: HP.sl (rInt .i64) p1 c1 fates :: HP.own 33 1 (.slice p58 ((s2640.1).set (x2895.1 : Int).toNat (putAt x2910 0 ((x2895.2).take (x2910).length))).length c58) ((s2640.1).set (x2895.1 : Int).toNat (putAt x2910 0 ((x2895.2).take (x2910).length))).length (css58).flatten :: l) := (by have h := (H).osPut (by rw [(hl3091.trans rfl)]; exact hc2913); simp only [List.length_set] at h ⊢; exact h)
                 replace F := F.bool (k := 57) (u := .slice p58 ((s2640.1).set (x2895.1 : Int).toNat (putAt x2910 0 ((x2895.2).take (x2910).length))).length c58) rfl (by simp only [List.length_set])
                 cases hm
                 refine ct ?_
                 exact ⟨F.sl rfl, H⟩
               · replace hm := ifF hg3090 hm
                 refine sr (bk [0, 0] F H rfl trivial ?_); clear F; intro a F
                 refine nl ?_
                 obtain ⟨r3119, er3119, hm3119⟩ := ob hm; clear hm; revert er3119; intro hm
                 refine x_mid (fun aa ww => Fr ⟨96, []⟩ aa [(1, .slice p1 (fates).length c1), (5, .pointer (some ⟨b3, 0, none⟩)), (39, .slice p6 (d.2.1).length c7), (40, .int .i64 (((d.2.1).length : Int))), (41, .int .i64 (s2640.2))] ∧ St w0 ww (HP.os 5 css58 r3119 noh :: HP.sl rByte p2908 c2909 x2895.2 :: HP.blk b2898 ([.int .i64 (x2895.1), .slice p2908 (x2895.2).length c2909]) 88 :: HP.ow rByte 5 none 0 ([] : List UInt8) :: HP.blk bo0 ([.slice p4 (d.1).length c5, .slice p6 (d.2.1).length c7, .int .i64 (d.2.2.1), .bool (d.2.2.2)]) 71 :: HP.ow (rSl rByte) 33 p4 c5 d.1 :: HP.ow R_disk_write 88 p6 c7 d.2.1 :: HP.blk b3 ([.slice p58 (r3119).length c58, .slice none (([] : List T_disk_write)).length 0, .int .i64 (-1), .bool false]) 71 :: HP.ow R_disk_write 88 none 0 ([] : List T_disk_write) :: HP.sl (rInt .i64) p1 c1 fates :: HP.own 33 1 (.slice p58 (r3119).length c58) (r3119).length (css58).flatten :: l)) ?_ ?_
                 · skip
                   refine cP F rfl (fun hg3120 => ?_) (fun hg3120 => ?_)
                   · replace hm := ifT hg3120 hm
                     refine rl (bk [0, 1, 3001, 0] F H rfl ⟨fld88_1, rfl, plain33, trivial⟩ ?_); clear F; intro a F
                     obtain ⟨x3122, ex3122, hm⟩ := ob hm
                     have hc3121 := H.slCap 2 rfl
                     replace H := H.slSubN 1 rfl 2 rfl ex3122
                     refine s_val wkP F rfl rfl rfl rfl (y_slH F elem33 rfl rfl rfl ex3122 hc3121) ?_; clear F; intro a F
                     have hf3123 : 0 + (x2910).length ≤ (x2910).length := (by rw [Nat.zero_add]; exact Nat.le_refl _)
                     have hl3123 : (putAt x2910 0 ((x3122).take (x2910).length)).length = (x2910).length := putAt_len _ _ _ (by rw [List.length_take]; omega)
                     refine s_cpyO wkP F rfl rfl rfl elem33 rfl H 1 0 rfl rfl (fun h => by obtain ⟨b, hb⟩ := H.owP 1 rfl (List.getElem?_eq_getElem h); exact ⟨b, hb, hb⟩) hf3123 rfl rfl ?_; clear F H; intro w a H F
                     replace F := F.bool (k := 61) (u := .slice p2913 ((putAt x2910 0 ((x3122).take (x2910).length))).length c2913) rfl (by rw [hl3123])
                     replace F := F.bool (k := 11) (u := .slice p2913 ((putAt x2910 0 ((x3122).take (x2910).length))).length c2913) rfl (by rw [hl3123])
                     replace F := F.bool (k := 78) (u := .slice p2913 ((putAt x2910 0 ((x3122).take (x2910).length))).length c2913) rfl (by rw [hl3123])
                     replace H := H.nf 13 rfl
                     refine lz ?_
                     replace H : St w0 w (HP.os 5 css58 ((s2640.1).set (x2895.1 : Int).toNat (putAt x2910 0 ((x3122).take (x2910).length))) noh :: HP.sl rByte (shp p2908 c2909 0 1) (c2909 - 0) x3122 :: HP.sl rByte p2908 c2909 x2895.2 :: HP.blk b2898 ([.int .i64 (x2895.1), .slice p2908 (x2895.2).length c2909]) 88 :: HP.ow rByte 5 none 0 ([] : List UInt8) :: HP.blk bo0 ([.slice p4 (d.1).length c5, .slice p6 (d.2.1).length c7, .int .i64 (d.2.2.1), .bool (d.2.2.2)]) 71 :: HP.ow (rSl rByte) 33 p4 c5 d.1 :: HP.ow R_disk_write 88 p6 c7 d.2.1 :: HP.blk b3 ([.slice p58 ((s2640.1).set (x2895.1 : Int).toNat (putAt x2910 0 ((x3122).take (x2910).length))).length c58, .slice none (([] : List T_disk_write)).length 0, .int .i64 (-1), .bool false]) 71 :: HP.ow R_disk_write 88 none 0 ([] : List T_disk_write) :: HP.sl (rInt .i64) p1 c1 fates :: HP.own 33 1 (.slice p58 ((s2640.1).set (x2895.1 : Int).toNat (putAt x2910 0 ((x3122).take (x2910).length))).length c58) ((s2640.1).set (x2895.1 : Int).toNat (putAt x2910 0 ((x3122).take (x2910).length))).length (css58).flatten :: l) := (by have h := ((H.pm 13 [1, 2, 0, 3, 4, 5, 6, 7, 8, 9, 10, 11, 12] rfl:)).osPut (by rw [(hl3123.trans rfl)]; exact hc2913); simp only [List.length_set] at h ⊢; exact h)
                     replace F := F.bool (k := 57) (u := .slice p58 ((s2640.1).set (x2895.1 : Int).toNat (putAt x2910 0 ((x3122).take (x2910).length))).length c58) rfl (by simp only [List.length_set])
                     cases hm
                     refine ct ?_
                     exact ⟨F.sl rfl, (H.pm 12 [0, 2, 3, 4, 5, 6, 7, 8, 9, 10, 11] rfl:)⟩
                   · replace hm := ifF hg3120 hm
                     refine sr (bk [0, 0] F H rfl trivial ?_); clear F; intro a F
                     refine nl ?_
                     obtain ⟨r3135, er3135, hm3135⟩ := ob hm; clear hm; revert er3135; intro hm
                     refine x_mid (fun aa ww => Fr ⟨96, []⟩ aa [(1, .slice p1 (fates).length c1), (5, .pointer (some ⟨b3, 0, none⟩)), (39, .slice p6 (d.2.1).length c7), (40, .int .i64 (((d.2.1).length : Int))), (41, .int .i64 (s2640.2))] ∧ St w0 ww (HP.os 5 css58 r3135 noh :: HP.sl rByte p2908 c2909 x2895.2 :: HP.blk b2898 ([.int .i64 (x2895.1), .slice p2908 (x2895.2).length c2909]) 88 :: HP.ow rByte 5 none 0 ([] : List UInt8) :: HP.blk bo0 ([.slice p4 (d.1).length c5, .slice p6 (d.2.1).length c7, .int .i64 (d.2.2.1), .bool (d.2.2.2)]) 71 :: HP.ow (rSl rByte) 33 p4 c5 d.1 :: HP.ow R_disk_write 88 p6 c7 d.2.1 :: HP.blk b3 ([.slice p58 (r3135).length c58, .slice none (([] : List T_disk_write)).length 0, .int .i64 (-1), .bool false]) 71 :: HP.ow R_disk_write 88 none 0 ([] : List T_disk_write) :: HP.sl (rInt .i64) p1 c1 fates :: HP.own 33 1 (.slice p58 (r3135).length c58) (r3135).length (css58).flatten :: l)) ?_ ?_
                     · skip
                       refine cP F rfl (fun hg3136 => ?_) (fun hg3136 => ?_)
                       · replace hm := ifT hg3136 hm
                         obtain ⟨x3143, ex3143, hm⟩ := ob hm
                         have hc3142 := H.owForm 0 rfl
                         obtain ⟨x3145, ex3145, hm⟩ := ob hm
                         have hc3144 := H.slCap 2 rfl
                         replace H := H.slSubN 1 rfl 2 rfl ex3145
                         refine mix_region [7] [7] (.step 0 0 (.step 0 1 (.step 0 2 (.step 0 3 (.step 1 4 (.step 0 5 (.step 0 6 (.step 3 7 .done)))))))) (fun u => ∃ ls, St w0 u (ls)) (by kernel_rfl) (by kernel_rfl) ⟨_, H.drew⟩ ?_
                         replace H := H.drew
                         generalize w.drew = w at H ⊢
                         refine mbk [0, 0] F H rfl trivial ?_; clear F; intro a F
                         refine m_pure F rfl rfl rfl rfl (fun u hu => y_slL F elem33 rfl rfl rfl ex3143 hc3142) ?_; clear F; intro a F
                         refine mbk [1, 4001, 0] F H rfl ⟨fld88_1, rfl, plain33, trivial⟩ ?_; clear F; intro a F
                         refine m_pure F rfl rfl rfl rfl (fun u hu => y_slL F elem33 rfl rfl rfl ex3145 hc3144) ?_; clear F; intro a F
                         refine m_last rfl rfl ?_
                         have hf3146 : (x2915 : Int).toNat + (x3143).length ≤ (x2910).length := (ow_sub H 1 rfl ex3143).2
                         have hl3146 : (putAt x2910 (x2915 : Int).toNat ((x3145).take (x3143).length)).length = (x2910).length := putAt_len _ _ _ (by rw [List.length_take]; omega)
                         refine s_cpyO wkP F rfl rfl rfl elem33 rfl H 1 0 rfl rfl (ow_sub H 1 rfl ex3143).1 hf3146 rfl rfl ?_; clear F H; intro w a H F
                         replace F := F.bool (k := 61) (u := .slice p2913 ((putAt x2910 (x2915 : Int).toNat ((x3145).take (x3143).length))).length c2913) rfl (by rw [hl3146])
                         replace F := F.bool (k := 11) (u := .slice p2913 ((putAt x2910 (x2915 : Int).toNat ((x3145).take (x3143).length))).length c2913) rfl (by rw [hl3146])
                         replace F := F.bool (k := 86) (u := .slice p2913 ((putAt x2910 (x2915 : Int).toNat ((x3145).take (x3143).length))).length c2913) rfl (by rw [hl3146])
                         refine lz ?_; refine ct ?_
                         refine m_nil ?_
                         replace H : St w0 w (HP.os 5 css58 ((s2640.1).set (x2895.1 : Int).toNat (putAt x2910 (x2915 : Int).toNat ((x3145).take (x3143).length))) noh :: HP.sl rByte (shp p2908 c2909 (x2915 : Int).toNat 1) (c2909 - (x2915 : Int).toNat) x3145 :: HP.sl rByte p2908 c2909 x2895.2 :: HP.blk b2898 ([.int .i64 (x2895.1), .slice p2908 (x2895.2).length c2909]) 88 :: HP.ow rByte 5 none 0 ([] : List UInt8) :: HP.blk bo0 ([.slice p4 (d.1).length c5, .slice p6 (d.2.1).length c7, .int .i64 (d.2.2.1), .bool (d.2.2.2)]) 71 :: HP.ow (rSl rByte) 33 p4 c5 d.1 :: HP.ow R_disk_write 88 p6 c7 d.2.1 :: HP.blk b3 ([.slice p58 ((s2640.1).set (x2895.1 : Int).toNat (putAt x2910 (x2915 : Int).toNat ((x3145).take (x3143).length))).length c58, .slice none (([] : List T_disk_write)).length 0, .int .i64 (-1), .bool false]) 71 :: HP.ow R_disk_write 88 none 0 ([] : List T_disk_write) :: HP.sl (rInt .i64) p1 c1 fates :: HP.own 33 1 (.slice p58 ((s2640.1).set (x2895.1 : Int).toNat (putAt x2910 (x2915 : Int).toNat ((x3145).take (x3143).length))).length c58) ((s2640.1).set (x2895.1 : Int).toNat (putAt x2910 (x2915 : Int).toNat ((x3145).take (x3143).length))).length (css58).flatten :: l) := (by have h := ((H.pm 13 [1, 2, 0, 3, 4, 5, 6, 7, 8, 9, 10, 11, 12] rfl:)).osPut (by rw [(hl3146.trans rfl)]; exact hc2913); simp only [List.length_set] at h ⊢; exact h)
                         replace F := F.bool (k := 57) (u := .slice p58 ((s2640.1).set (x2895.1 : Int).toNat (putAt x2910 (x2915 : Int).toNat ((x3145).take (x3143).length))).length c58) rfl (by simp only [List.length_set])
                         cases hm
                         refine ct ?_
                         exact ⟨F.sl rfl, (H.pm 12 [0, 2, 3, 4, 5, 6, 7, 8, 9, 10, 11] rfl:)⟩
                       · replace hm := ifF hg3136 hm
                         refine sk ?_
                         replace H : St w0 w (HP.os 5 css58 s2640.1 noh :: HP.sl rByte p2908 c2909 x2895.2 :: HP.blk b2898 ([.int .i64 (x2895.1), .slice p2908 (x2895.2).length c2909]) 88 :: HP.ow rByte 5 none 0 ([] : List UInt8) :: HP.blk bo0 ([.slice p4 (d.1).length c5, .slice p6 (d.2.1).length c7, .int .i64 (d.2.2.1), .bool (d.2.2.2)]) 71 :: HP.ow (rSl rByte) 33 p4 c5 d.1 :: HP.ow R_disk_write 88 p6 c7 d.2.1 :: HP.blk b3 ([.slice p58 (s2640.1).length c58, .slice none (([] : List T_disk_write)).length 0, .int .i64 (-1), .bool false]) 71 :: HP.ow R_disk_write 88 none 0 ([] : List T_disk_write) :: HP.sl (rInt .i64) p1 c1 fates :: HP.own 33 1 (.slice p58 (s2640.1).length c58) (s2640.1).length (css58).flatten :: l) := (by have h := (H).osPut hc2913; rw [set_same (idxO_some ex2910).2] at h; exact h)
                         cases hm
                         refine ct ?_
                         exact ⟨F.sl rfl, H⟩
                     · skip
                       clear F H hm
                       rintro a w ⟨F, H⟩; have hm := hm3135; clear hm3135
                       cases hm
                       refine ct ?_
                       exact ⟨F.sl rfl, H⟩
                 · skip
                   clear F H hm
                   rintro a w ⟨F, H⟩; have hm := hm3119; clear hm3119
                   cases hm
                   refine ct ?_
                   exact ⟨F.sl rfl, H⟩
             · skip
               clear F H hm
               rintro a w ⟨F, H⟩; have hm := hm3089; clear hm3089
               refine bn ?_
               cases hm
               refine ct ?_
               exact ⟨F.sl rfl, H⟩
           · skip
             clear F H hm
             rintro a w ⟨F, H⟩; have hm := hm3031; clear hm3031
             refine bn ?_
             cases hm
             refine ct ?_
             exact ⟨F.sl rfl, (H.pm 11 [4, 5, 6, 7, 8, 9, 10, 0] rfl:)⟩
       · skip
         clear F H hm
         rintro a w ⟨F, H⟩; have hm := hm2894; clear hm2894
         refine ct (rl (bk [0, 0] F H rfl trivial ?_)); clear F; intro a F
         refine lz (ct ?_); cases hm
         exact ⟨_, rfl, ⟨F.sl rfl, H⟩⟩
     · replace hm := ifF hg2641 hm
       refine ex (cx (cx ?_)); cases hm; refine ⟨_, rfl, ?_⟩; rintro rfl
       refine ch (ct ?_)
       exact ⟨F.sl rfl, (H.pm 8 [0, 1, 2, 3, 4, 6, 7] rfl:)⟩
   · skip
     clear F H hm
     rintro a w ⟨F, H⟩; have hm := hm1627; clear hm1627
     refine ct (sr (bk [0, 0] F H rfl trivial ?_)); clear F; intro a F
     refine nl (wr ?_)
     replace H := (H.mv 6 rfl).osFrz
     replace H := H.owShut 6 0 rfl rfl
     replace H := O_disk_Disk_s (x1 := ([] : List T_disk_write)) (H.pm 7 [4, 6, 5, 0, 1, 2, 3] rfl:)
     replace H := O_disk_Disk_s (H.pm 5 [2, 3, 4, 0, 1] rfl:)
     cases hm
     refine x_ret1 F rfl rfl ?_
     exact ⟨_, rfl, b3, rfl, (H.pm 3 [1, 0] rfl:)⟩
end Go.Proofs.YtfepdfjhejkemaaDoor
