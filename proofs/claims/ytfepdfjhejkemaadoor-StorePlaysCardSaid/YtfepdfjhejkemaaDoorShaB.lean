/- sha -/
import Derived.Test.YtfepdfjhejkemaaDoorShaA
set_option linter.unusedSimpArgs false
set_option linter.unusedVariables false
namespace Go.Proofs.YtfepdfjhejkemaaDoor
open Go.RowKit Go.Tri
theorem agz81 : AggT Tryd.prog 81 64 (icells .u32 (List.replicate 64 0)) := ⟨by rw [Tryd.underlying81]; rfl, by kernel_rfl, by kernel_rfl⟩
theorem agg81 : AggT Tryd.prog 81 64 (List.replicate 64 (.int .u32 0)) := ⟨by rw [Tryd.underlying81]; rfl, by kernel_rfl, by kernel_rfl⟩
set_option maxRecDepth 100000 in
set_option maxHeartbeats 4000000 in
theorem w_rConst   {w0 w : World} {l : List HP}  {r : (List Int)} (hm : rConst  = some r) (H : St w0 w (l)) :
  Calls Tryd.prog 38 [].toArray w (fun e w' => ∃ v, e = .returned v ∧ v = .agg (icells .u32 r).toArray ∧ ((r).length = 64) ∧ St w0 w' (l)) := by
 unfold rConst at hm
 refine x_enter Tryd.func38 rfl rfl rfl ?_
 intro a F
 refine sr (s_allocA wkP F rfl rfl rfl agz81 rfl H ?_); clear F H; intro b2 w a H F
 replace H := H.nf 1 rfl
 refine nl (sr ?_)
 refine s_val wkP F rfl rfl rfl rfl (y_build F rfl rfl (cs := icells .u32 ([1116352408, 1899447441, 3049323471, 3921009573, 961987163, 1508970993, 2453635748, 2870763221, 3624381080, 310598401, 607225278, 1426881987, 1925078388, 2162078206, 2614888103, 3248222580, 3835390401, 4022224774, 264347078, 604807628, 770255983, 1249150122, 1555081692, 1996064986, 2554220882, 2821834349, 2952996808, 3210313671, 3336571891, 3584528711, 113926993, 338241895, 666307205, 773529912, 1294757372, 1396182291, 1695183700, 1986661051, 2177026350, 2456956037, 2730485921, 2820302411, 3259730800, 3345764771, 3516065817, 3600352804, 4094571909, 275423344, 430227734, 506948616, 659060556, 883997877, 958139571, 1322822218, 1537002063, 1747873779, 1955562222, 2024104815, 2227730452, 2361852424, 2428436474, 2756734187, 3204031479, 3329325298] : List Int)) (by kernel_rfl)) ?_; clear F; intro a F
 refine s_storeA wkP F rfl rfl agg81 rfl rfl rfl H 0 rfl ((icells_length _ _).trans rfl) ((icells_length _ _).trans (List.length_replicate (n := 64))) (icells_flat _ _) ?_; clear H; intro w H
 replace H := H.nf 1 rfl
 refine nl (wr ?_)
 cases hm
 refine x_resC1 F rfl (⟨_, rfl, agg81.run_load (H.blk 0 rfl).row ((icells_length _ _).trans rfl)⟩) ?_
 exact ⟨_, rfl, rfl, rfl, (H.pm 1 [] rfl:)⟩
theorem agz35 : AggT Tryd.prog 35 32 (bcells (List.replicate 32 0)) := ⟨by rw [Tryd.underlying35]; rfl, by kernel_rfl, by kernel_rfl⟩
theorem ent38 : ∀ args w, (callFunc 38 args).run Tryd.prog w = .ok (.enter 38 args) w := enters Tryd.func38 (by kernel_rfl) rfl
theorem agz83 : AggT Tryd.prog 83 8 (icells .u32 (List.replicate 8 0)) := ⟨by rw [Tryd.underlying83]; rfl, by kernel_rfl, by kernel_rfl⟩
theorem ent39 : ∀ args w, (callFunc 39 args).run Tryd.prog w = .ok (.enter 39 args) w := enters Tryd.func39 (by kernel_rfl) rfl
theorem plain5 : Plain Tryd.prog 5 := by unfold Plain; rw [Tryd.underlying5]; rfl
theorem arr81 : ArrT Tryd.prog 81 80 64 1 := ⟨Tryd.underlying81, by kernel_rfl⟩
theorem zero80 : Zero1 Tryd.prog 80 (.int .u32 0) := ⟨by kernel_rfl, rfl⟩
theorem plain80 : Plain Tryd.prog 80 := by unfold Plain; rw [Tryd.underlying80]; rfl
theorem ent40 : ∀ args w, (callFunc 40 args).run Tryd.prog w = .ok (.enter 40 args) w := enters Tryd.func40 (by kernel_rfl) rfl
theorem arr83 : ArrT Tryd.prog 83 80 8 1 := ⟨Tryd.underlying83, by kernel_rfl⟩
theorem agg35 : AggT Tryd.prog 35 32 (List.replicate 32 (.int .u8 0)) := ⟨by rw [Tryd.underlying35]; rfl, by kernel_rfl, by kernel_rfl⟩
theorem arr35 : ArrT Tryd.prog 35 5 32 1 := ⟨Tryd.underlying35, by kernel_rfl⟩
set_option maxRecDepth 100000 in
set_option maxHeartbeats 4000000 in
theorem w_rSum {b : List UInt8} {p1 : Option Addr} {c1 : Nat} {w0 w : World} {l : List HP}  {r : (List UInt8)} (hm : rSum b = some r) (H : St w0 w (HP.sl rByte p1 c1 b :: l)) :
  Calls Tryd.prog 12 [.slice p1 (b).length c1].toArray w (fun e w' => ∃ v, e = .returned v ∧ v = .agg (bcells r).toArray ∧ ((r).length = 32) ∧ St w0 w' (l)) := by
 unfold rSum at hm
 refine x_enter Tryd.func12 rfl rfl rfl ?_
 intro a F
 refine sr (s_allocA wkP F rfl rfl rfl agz35 rfl H ?_); clear F H; intro b3 w a H F
 replace H := H.nf 2 rfl
 refine nl (sr ?_)
 obtain ⟨x4, ex4, hm⟩ := ob hm
 refine sc wkP F rfl ent38 (w_rConst ex4 H:) ?_; clear F H; rintro _ w a ⟨rfl, hl5, H⟩ F
 refine s_allocA wkP F rfl rfl rfl agz81 rfl H ?_; clear F H; intro b6 w a H F
 refine s_storeA wkP F rfl rfl agg81 rfl rfl rfl H 0 rfl ((icells_length _ _).trans hl5) ((icells_length _ _).trans (List.length_replicate (n := 64))) (icells_flat _ _) ?_; clear H; intro w H
 replace H := H.nf 3 rfl
 refine nl (sr (s_val wkP F rfl rfl rfl rfl (y_build F rfl rfl (cs := icells .u32 ([1779033703, 3144134277, 1013904242, 2773480762, 1359893119, 2600822924, 528734635, 1541459225] : List Int)) (by kernel_rfl)) ?_)); clear F; intro a F
 refine s_allocA wkP F rfl rfl rfl agz83 rfl H ?_; clear F H; intro b7 w a H F
 refine s_storeA wkP F rfl rfl agg83 rfl rfl rfl H 0 rfl ((icells_length _ _).trans rfl) ((icells_length _ _).trans (List.length_replicate (n := 8))) (icells_flat _ _) ?_; clear H; intro w H
 replace H := H.nf 4 rfl
 refine nl (sr (bk [0] F H rfl trivial ?_)); clear F; intro a F
 obtain ⟨x8, ex8, hm⟩ := ob hm
 refine sc wkP F rfl ent39 (w_rPad ex8 (H.pm 4 [3, 0, 1, 2, 3] rfl:):) ?_; clear F H; rintro _ w a ⟨p9, c9, rfl, H⟩ F
 refine bk [0] F H rfl trivial ?_; clear F; intro a F
 replace H := H.nf 5 rfl
 refine nl (sq (sr (bk [0] F H rfl trivial ?_))); clear F; intro a F
 refine nl ?_
 obtain ⟨r1967, er1967, hm1967⟩ := ob hm; clear hm; revert er1967; intro hm
 refine x_mid (fun aa ww => Fr ⟨234, []⟩ aa [(2, .pointer (some ⟨b3, 0, none⟩)), (4, .pointer (some ⟨b7, 0, none⟩))] ∧ ((r1967).length = 8) ∧ St w0 ww (HP.ow rByte 5 p9 c9 x8 :: HP.blk b7 (icells .u32 r1967) 83 :: HP.blk b6 (icells .u32 x4) 81 :: HP.blk b3 (bcells (List.replicate 32 0)) 35 :: l)) ?_ ?_
 · skip
   refine bl ?_
   refine x_loopO _ (fun (s3273 : (List Int) × Int) aa ww => Fr ⟨234, []⟩ aa [(2, .pointer (some ⟨b3, 0, none⟩)), (3, .pointer (some ⟨b6, 0, none⟩)), (4, .pointer (some ⟨b7, 0, none⟩)), (5, .slice p9 (x8).length c9), (6, .int .i64 (s3273.2))] ∧ ((s3273.1).length = 8) ∧ St w0 ww (HP.ow rByte 5 p9 c9 x8 :: HP.blk b7 (icells .u32 s3273.1) 83 :: HP.blk b6 (icells .u32 x4) 81 :: HP.blk b3 (bcells (List.replicate 32 0)) 35 :: l)) hm ⟨F.sl rfl, rfl, (H.pm 5 [0, 1, 2, 3] rfl:)⟩ ?_
   clear F H hm
   rintro s3273 a w o ⟨F, hl3274, H⟩ hm
   refine sq (sr (bk [0, 0, 0, 0] F H rfl ⟨⟨_, Tryd.underlying33⟩, trivial⟩ ?_)); clear F; intro a F
   refine nl (cP F rfl (fun hg3275 => ?_) (fun hg3275 => ?_))
   · replace hm := ifT hg3275 hm
     refine sk (ct (sq (bl (sr (s_val wkP F rfl rfl rfl rfl (y_build F rfl rfl (cs := icells .u32 ([0, 0, 0, 0, 0, 0, 0, 0, 0, 0, 0, 0, 0, 0, 0, 0, 0, 0, 0, 0, 0, 0, 0, 0, 0, 0, 0, 0, 0, 0, 0, 0, 0, 0, 0, 0, 0, 0, 0, 0, 0, 0, 0, 0, 0, 0, 0, 0, 0, 0, 0, 0, 0, 0, 0, 0, 0, 0, 0, 0, 0, 0, 0, 0] : List Int)) (by kernel_rfl)) ?_))))); clear F; intro a F
     refine s_allocA wkP F rfl rfl rfl agz81 rfl H ?_; clear F H; intro b3276 w a H F
     refine s_storeA wkP F rfl rfl agg81 rfl rfl rfl H 0 rfl ((icells_length _ _).trans rfl) ((icells_length _ _).trans (List.length_replicate (n := 64))) (icells_flat _ _) ?_; clear H; intro w H
     replace H := H.nf 5 rfl
     refine nl (sq (sr (bk [0] F H rfl trivial ?_))); clear F; intro a F
     refine nl ?_
     obtain ⟨r3512, er3512, hm3512⟩ := ob hm; clear hm; revert er3512; intro hm
     refine x_mid (fun aa ww => Fr ⟨234, []⟩ aa [(2, .pointer (some ⟨b3, 0, none⟩)), (3, .pointer (some ⟨b6, 0, none⟩)), (4, .pointer (some ⟨b7, 0, none⟩)), (5, .slice p9 (x8).length c9), (6, .int .i64 (s3273.2)), (7, .pointer (some ⟨b3276, 0, none⟩))] ∧ ((r3512).length = 64) ∧ St w0 ww (HP.blk b3276 (icells .u32 r3512) 81 :: HP.ow rByte 5 p9 c9 x8 :: HP.blk b7 (icells .u32 s3273.1) 83 :: HP.blk b6 (icells .u32 x4) 81 :: HP.blk b3 (bcells (List.replicate 32 0)) 35 :: l)) ?_ ?_
     · skip
       refine bl ?_
       refine x_loopO _ (fun (s3670 : (List Int) × Int) aa ww => Fr ⟨234, []⟩ aa [(2, .pointer (some ⟨b3, 0, none⟩)), (3, .pointer (some ⟨b6, 0, none⟩)), (4, .pointer (some ⟨b7, 0, none⟩)), (5, .slice p9 (x8).length c9), (6, .int .i64 (s3273.2)), (7, .pointer (some ⟨b3276, 0, none⟩)), (8, .int .i64 (s3670.2))] ∧ ((s3670.1).length = 64) ∧ St w0 ww (HP.blk b3276 (icells .u32 s3670.1) 81 :: HP.ow rByte 5 p9 c9 x8 :: HP.blk b7 (icells .u32 s3273.1) 83 :: HP.blk b6 (icells .u32 x4) 81 :: HP.blk b3 (bcells (List.replicate 32 0)) 35 :: l)) hm ⟨F.sl rfl, rfl, H⟩ ?_
       clear F H hm
       rintro s3670 a w o ⟨F, hl3671, H⟩ hm
       refine sq (sr (bk [0, 0] F H rfl trivial ?_)); clear F; intro a F
       refine nl (cP F rfl (fun hg3672 => ?_) (fun hg3672 => ?_))
       · replace hm := ifT hg3672 hm
         refine sk (ct (sq ?_))
         obtain ⟨r3710, er3710, hm3710⟩ := ob hm; clear hm; revert er3710; intro hm
         refine x_mid (fun aa ww => Fr ⟨234, []⟩ aa [(2, .pointer (some ⟨b3, 0, none⟩)), (3, .pointer (some ⟨b6, 0, none⟩)), (4, .pointer (some ⟨b7, 0, none⟩)), (5, .slice p9 (x8).length c9), (6, .int .i64 (s3273.2)), (7, .pointer (some ⟨b3276, 0, none⟩)), (8, .int .i64 (s3670.2))] ∧ ((r3710).length = 64) ∧ St w0 ww (HP.blk b3276 (icells .u32 r3710) 81 :: HP.ow rByte 5 p9 c9 x8 :: HP.blk b7 (icells .u32 s3273.1) 83 :: HP.blk b6 (icells .u32 x4) 81 :: HP.blk b3 (bcells (List.replicate 32 0)) 35 :: l)) ?_ ?_
         · skip
           refine bl (sq (sr (bk [0, 0] F H rfl trivial ?_))); clear F; intro a F
           refine nl (cP F rfl (fun hg3712 => ?_) (fun hg3712 => ?_))
           · replace hm := ifT hg3712 hm
             refine sr (bk (List.replicate 5 0) F H rfl trivial ?_); clear F; intro a F
             refine nl (sq ?_)
             obtain ⟨x3724, ex3724, hm⟩ := ob hm
             obtain ⟨b3725, hp3725⟩ := H.owP 1 rfl (idxO_some ex3724).2
             obtain ⟨x3727, ex3727, hm⟩ := ob hm
             obtain ⟨x3729, ex3729, hm⟩ := ob hm
             obtain ⟨x3731, ex3731, hm⟩ := ob hm
             obtain ⟨x3733, ex3733, hm⟩ := ob hm
             refine mix_region [31] [31] (.step 0 0 (.step 0 1 (.step 0 2 (.step 0 3 (.step 1 4 (.step 0 5 (.step 0 6 (.step 0 7 (.step 0 8 (.step 0 9 (.step 0 10 (.step 1 11 (.step 0 12 (.step 0 13 (.step 0 14 (.step 0 15 (.step 0 16 (.step 0 17 (.step 0 18 (.step 1 19 (.step 0 20 (.step 0 21 (.step 0 22 (.step 0 23 (.step 0 24 (.step 0 25 (.step 0 26 (.step 1 27 (.step 0 28 (.step 0 29 (.step 0 30 (.step 3 31 .done)))))))))))))))))))))))))))))))) (fun u => ∃ ls, St w0 u (ls)) (by kernel_rfl) (by kernel_rfl) ⟨_, H.drew⟩ ?_
             replace H := H.drew
             generalize w.drew = w at H ⊢
             refine mbk [0, 0, 0] F H rfl trivial ?_; clear F; intro a F
             refine m_pure F rfl rfl rfl rfl (fun u hu => y_idxS F elem33 rfl rfl rfl hp3725 ex3724) ?_; clear F; intro a F
             refine m_read F rfl rfl rfl rfl (y_load1 F plain5 rfl rfl (H.owB 1 rfl hp3725 ex3724)) ?_; clear F; intro a F
             refine mbk [3] F H rfl ⟨Tryd.underlying5, Tryd.underlying80, trivial⟩ ?_; clear F; intro a F
             refine m_pure F rfl rfl rfl rfl (fun u hu => i_shl F rfl rfl rfl (by decide)) ?_; clear F; intro a F
             refine mbk [0, 0, 0] F H rfl trivial ?_; clear F; intro a F
             refine m_pure F rfl rfl rfl rfl (fun u hu => y_idxS F elem33 rfl rfl rfl hp3725 ex3727) ?_; clear F; intro a F
             refine m_read F rfl rfl rfl rfl (y_load1 F plain5 rfl rfl (H.owB 1 rfl hp3725 ex3727)) ?_; clear F; intro a F
             refine mbk [3] F H rfl ⟨Tryd.underlying5, Tryd.underlying80, trivial⟩ ?_; clear F; intro a F
             refine m_pure F rfl rfl rfl rfl (fun u hu => i_shl F rfl rfl rfl (by decide)) ?_; clear F; intro a F
             refine mbk [0, 0, 0, 0] F H rfl trivial ?_; clear F; intro a F
             refine m_pure F rfl rfl rfl rfl (fun u hu => y_idxS F elem33 rfl rfl rfl hp3725 ex3729) ?_; clear F; intro a F
             refine m_read F rfl rfl rfl rfl (y_load1 F plain5 rfl rfl (H.owB 1 rfl hp3725 ex3729)) ?_; clear F; intro a F
             refine mbk [3] F H rfl ⟨Tryd.underlying5, Tryd.underlying80, trivial⟩ ?_; clear F; intro a F
             refine m_pure F rfl rfl rfl rfl (fun u hu => i_shl F rfl rfl rfl (by decide)) ?_; clear F; intro a F
             refine mbk [0, 0, 0, 0] F H rfl trivial ?_; clear F; intro a F
             refine m_pure F rfl rfl rfl rfl (fun u hu => y_idxS F elem33 rfl rfl rfl hp3725 ex3731) ?_; clear F; intro a F
             refine m_read F rfl rfl rfl rfl (y_load1 F plain5 rfl rfl (H.owB 1 rfl hp3725 ex3731)) ?_; clear F; intro a F
             refine mbk [3, 0] F H rfl ⟨Tryd.underlying5, Tryd.underlying80, trivial⟩ ?_; clear F; intro a F
             refine m_pure F rfl rfl rfl rfl (fun u hu => y_idxA F arr81 rfl rfl rfl ex3733 hl3671) ?_; clear F; intro a F
             refine m_last rfl rfl ?_
             refine s_stI wkP F rfl rfl zero80 rfl rfl rfl H 0 rfl ex3733 ?_; clear H; intro w H
             refine lz ?_; refine ct ?_
             refine m_nil ?_
             refine ct (ex (cx (ch ?_)))
             cases hm
             refine ct ?_
             exact ⟨F.sl rfl, ((List.length_set ..).trans hl3671), H⟩
           · replace hm := ifF hg3712 hm
             refine sk (ct (sq ?_))
             obtain ⟨x3735, ex3735, hm⟩ := ob hm
             obtain ⟨x3736, ex3736, hm⟩ := ob hm
             refine qr H (by kernel_rfl) (by kernel_rfl) ?_
             refine qbk [0, 0] F rfl trivial ?_; clear F; intro a F
             refine q_val F rfl rfl rfl (fun u hu => y_idxA F arr81 rfl rfl rfl ex3735 hl3671) ?_; clear F; intro a F
             refine q_val F rfl rfl rfl (fun u hu => y_load1 F plain80 rfl rfl (row_ix ((hu.blk 0 rfl).row) (icells_idx ex3735))) ?_; clear F; intro a F
             refine qbk [0, 0] F rfl trivial ?_; clear F; intro a F
             refine q_val F rfl rfl rfl (fun u hu => y_idxA F arr81 rfl rfl rfl ex3736 hl3671) ?_; clear F; intro a F
             refine q_val F rfl rfl rfl (fun u hu => y_load1 F plain80 rfl rfl (row_ix ((hu.blk 0 rfl).row) (icells_idx ex3736))) ?_; clear F; intro a F
             refine qbk [0, 0] F rfl trivial ?_; clear F; intro a F
             refine q_nil ?_; clear H; intro w H
             refine ct (sr (bk [0] F H rfl trivial ?_)); clear F; intro a F
             obtain ⟨x3737, ex3737, hm⟩ := ob hm
             refine sc wkP F rfl ent40 (w_rotr ex3737 H:) ?_; clear F H; rintro _ w a ⟨rfl, H⟩ F
             refine bk [0] F H rfl trivial ?_; clear F; intro a F
             obtain ⟨x3738, ex3738, hm⟩ := ob hm
             refine sc wkP F rfl ent40 (w_rotr ex3738 H:) ?_; clear F H; rintro _ w a ⟨rfl, H⟩ F
             refine bk [0, 0] F H rfl trivial ?_; clear F; intro a F
             refine s_val wkP F rfl rfl rfl rfl (i_shr F rfl rfl rfl (by decide)) ?_; clear F; intro a F
             refine bk [0, 0] F H rfl trivial ?_; clear F; intro a F
             replace H := H.nf 5 rfl
             refine nl (sr (bk [0] F H rfl trivial ?_)); clear F; intro a F
             obtain ⟨x3739, ex3739, hm⟩ := ob hm
             refine sc wkP F rfl ent40 (w_rotr ex3739 H:) ?_; clear F H; rintro _ w a ⟨rfl, H⟩ F
             refine bk [0] F H rfl trivial ?_; clear F; intro a F
             obtain ⟨x3740, ex3740, hm⟩ := ob hm
             refine sc wkP F rfl ent40 (w_rotr ex3740 H:) ?_; clear F H; rintro _ w a ⟨rfl, H⟩ F
             refine bk [0, 0] F H rfl trivial ?_; clear F; intro a F
             refine s_val wkP F rfl rfl rfl rfl (i_shr F rfl rfl rfl (by decide)) ?_; clear F; intro a F
             refine bk [0, 0] F H rfl trivial ?_; clear F; intro a F
             replace H := H.nf 5 rfl
             refine nl ?_
             obtain ⟨x3745, ex3745, hm⟩ := ob hm
             obtain ⟨x3746, ex3746, hm⟩ := ob hm
             obtain ⟨x3747, ex3747, hm⟩ := ob hm
             refine mix_region [15] [15] (.step 0 0 (.step 0 1 (.step 0 2 (.step 0 3 (.step 1 4 (.step 0 5 (.step 0 6 (.step 0 7 (.step 0 8 (.step 0 9 (.step 1 10 (.step 0 11 (.step 0 12 (.step 0 13 (.step 0 14 (.step 3 15 .done)))))))))))))))) (fun u => ∃ ls, St w0 u (ls)) (by kernel_rfl) (by kernel_rfl) ⟨_, H.drew⟩ ?_
             replace H := H.drew
             generalize w.drew = w at H ⊢
             refine mbk [0, 0, 0] F H rfl trivial ?_; clear F; intro a F
             refine m_pure F rfl rfl rfl rfl (fun u hu => y_idxA F arr81 rfl rfl rfl ex3745 hl3671) ?_; clear F; intro a F
             refine m_read F rfl rfl rfl rfl (y_load1 F plain80 rfl rfl (row_ix ((H.blk 0 rfl).row) (icells_idx ex3745))) ?_; clear F; intro a F
             refine mbk [0, 0, 0, 0] F H rfl trivial ?_; clear F; intro a F
             refine m_pure F rfl rfl rfl rfl (fun u hu => y_idxA F arr81 rfl rfl rfl ex3746 hl3671) ?_; clear F; intro a F
             refine m_read F rfl rfl rfl rfl (y_load1 F plain80 rfl rfl (row_ix ((H.blk 0 rfl).row) (icells_idx ex3746))) ?_; clear F; intro a F
             refine mbk [0, 0, 0] F H rfl trivial ?_; clear F; intro a F
             refine m_pure F rfl rfl rfl rfl (fun u hu => y_idxA F arr81 rfl rfl rfl ex3747 hl3671) ?_; clear F; intro a F
             refine m_last rfl rfl ?_
             refine s_stI wkP F rfl rfl zero80 rfl rfl rfl H 0 rfl ex3747 ?_; clear H; intro w H
             refine lz ?_; refine ct ?_
             refine m_nil ?_
             refine bn ?_
             cases hm
             refine ct ?_
             exact ⟨F.sl rfl, ((List.length_set ..).trans hl3671), H⟩
         · skip
           clear F H hm
           rintro a w ⟨F, hl3711, H⟩; have hm := hm3710; clear hm3710
           refine ct (rl (bk [0, 0, 0] F H rfl trivial ?_)); clear F; intro a F
           refine lz (ct ?_); cases hm
           exact ⟨_, rfl, ⟨F.sl rfl, hl3711, H⟩⟩
       · replace hm := ifF hg3672 hm
         refine ex (cx (cx ?_)); cases hm; refine ⟨_, rfl, ?_⟩; rintro rfl
         refine ch (ct ?_)
         exact ⟨F.sl rfl, hl3671, H⟩
     · skip
       clear F H hm
       rintro a w ⟨F, hl3513, H⟩; have hm := hm3512; clear hm3512
       refine ct (sr (bk [2999] F H rfl ⟨rfl, (aggn agg83 ((icells_length _ _).trans hl3274)), trivial⟩ ?_)); clear F; intro a F
       refine s_allocA wkP F rfl rfl rfl agz83 rfl H ?_; clear F H; intro b3749 w a H F
       refine s_storeA wkP F rfl rfl agg83 rfl rfl rfl H 0 rfl ((icells_length _ _).trans hl3274) ((icells_length _ _).trans (List.length_replicate (n := 8))) (icells_flat _ _) ?_; clear H; intro w H
       replace H := H.nf 6 rfl
       refine nl (sq (sr (bk [0] F H rfl trivial ?_))); clear F; intro a F
       refine nl ?_
       obtain ⟨r3805, er3805, hm3805⟩ := ob hm; clear hm; revert er3805; intro hm
       refine x_mid (fun aa ww => Fr ⟨234, []⟩ aa [(2, .pointer (some ⟨b3, 0, none⟩)), (3, .pointer (some ⟨b6, 0, none⟩)), (4, .pointer (some ⟨b7, 0, none⟩)), (5, .slice p9 (x8).length c9), (6, .int .i64 (s3273.2)), (14, .pointer (some ⟨b3749, 0, none⟩))] ∧ ((r3805).length = 8) ∧ St w0 ww (HP.blk b3749 (icells .u32 r3805) 83 :: HP.blk b3276 (icells .u32 r3512) 81 :: HP.ow rByte 5 p9 c9 x8 :: HP.blk b7 (icells .u32 s3273.1) 83 :: HP.blk b6 (icells .u32 x4) 81 :: HP.blk b3 (bcells (List.replicate 32 0)) 35 :: l)) ?_ ?_
       · skip
         refine bl ?_
         refine x_loopO _ (fun (s3843 : (List Int) × Int) aa ww => Fr ⟨234, []⟩ aa [(2, .pointer (some ⟨b3, 0, none⟩)), (3, .pointer (some ⟨b6, 0, none⟩)), (4, .pointer (some ⟨b7, 0, none⟩)), (5, .slice p9 (x8).length c9), (6, .int .i64 (s3273.2)), (7, .pointer (some ⟨b3276, 0, none⟩)), (14, .pointer (some ⟨b3749, 0, none⟩)), (15, .int .i64 (s3843.2))] ∧ ((s3843.1).length = 8) ∧ St w0 ww (HP.blk b3749 (icells .u32 s3843.1) 83 :: HP.blk b3276 (icells .u32 r3512) 81 :: HP.ow rByte 5 p9 c9 x8 :: HP.blk b7 (icells .u32 s3273.1) 83 :: HP.blk b6 (icells .u32 x4) 81 :: HP.blk b3 (bcells (List.replicate 32 0)) 35 :: l)) hm ⟨F.sl rfl, hl3274, H⟩ ?_
         clear F H hm
         rintro s3843 a w o ⟨F, hl3844, H⟩ hm
         refine sq (sr (bk [0, 0] F H rfl trivial ?_)); clear F; intro a F
         refine nl (cP F rfl (fun hg3845 => ?_) (fun hg3845 => ?_))
         · replace hm := ifT hg3845 hm
           refine sk (ct (sq (bl (sq ?_))))
           obtain ⟨x3846, ex3846, hm⟩ := ob hm
           obtain ⟨x3847, ex3847, hm⟩ := ob hm
           obtain ⟨x3848, ex3848, hm⟩ := ob hm
           obtain ⟨x3849, ex3849, hm⟩ := ob hm
           obtain ⟨x3850, ex3850, hm⟩ := ob hm
           obtain ⟨x3851, ex3851, hm⟩ := ob hm
           refine qr H (by kernel_rfl) (by kernel_rfl) ?_
           refine q_val F rfl rfl rfl (fun u hu => y_idxA F arr83 rfl rfl rfl ex3846 hl3844) ?_; clear F; intro a F
           refine q_val F rfl rfl rfl (fun u hu => y_load1 F plain80 rfl rfl (row_ix ((hu.blk 0 rfl).row) (icells_idx ex3846))) ?_; clear F; intro a F
           refine q_val F rfl rfl rfl (fun u hu => y_idxA F arr83 rfl rfl rfl ex3847 hl3844) ?_; clear F; intro a F
           refine q_val F rfl rfl rfl (fun u hu => y_load1 F plain80 rfl rfl (row_ix ((hu.blk 0 rfl).row) (icells_idx ex3847))) ?_; clear F; intro a F
           refine q_val F rfl rfl rfl (fun u hu => y_idxA F arr83 rfl rfl rfl ex3848 hl3844) ?_; clear F; intro a F
           refine q_val F rfl rfl rfl (fun u hu => y_load1 F plain80 rfl rfl (row_ix ((hu.blk 0 rfl).row) (icells_idx ex3848))) ?_; clear F; intro a F
           refine q_val F rfl rfl rfl (fun u hu => y_idxA F arr83 rfl rfl rfl ex3849 hl3844) ?_; clear F; intro a F
           refine q_val F rfl rfl rfl (fun u hu => y_load1 F plain80 rfl rfl (row_ix ((hu.blk 0 rfl).row) (icells_idx ex3849))) ?_; clear F; intro a F
           refine q_val F rfl rfl rfl (fun u hu => y_idxA F arr83 rfl rfl rfl ex3850 hl3844) ?_; clear F; intro a F
           refine q_val F rfl rfl rfl (fun u hu => y_load1 F plain80 rfl rfl (row_ix ((hu.blk 0 rfl).row) (icells_idx ex3850))) ?_; clear F; intro a F
           refine q_val F rfl rfl rfl (fun u hu => y_idxA F arr83 rfl rfl rfl ex3851 hl3844) ?_; clear F; intro a F
           refine q_val F rfl rfl rfl (fun u hu => y_load1 F plain80 rfl rfl (row_ix ((hu.blk 0 rfl).row) (icells_idx ex3851))) ?_; clear F; intro a F
           refine qbk (List.replicate 6 0) F rfl trivial ?_; clear F; intro a F
           refine q_nil ?_; clear H; intro w H
           refine ct (sr (bk [0] F H rfl trivial ?_)); clear F; intro a F
           obtain ⟨x3852, ex3852, hm⟩ := ob hm
           refine sc wkP F rfl ent40 (w_rotr ex3852 H:) ?_; clear F H; rintro _ w a ⟨rfl, H⟩ F
           refine bk [0] F H rfl trivial ?_; clear F; intro a F
           obtain ⟨x3853, ex3853, hm⟩ := ob hm
           refine sc wkP F rfl ent40 (w_rotr ex3853 H:) ?_; clear F H; rintro _ w a ⟨rfl, H⟩ F
           refine bk [0, 0] F H rfl trivial ?_; clear F; intro a F
           obtain ⟨x3854, ex3854, hm⟩ := ob hm
           refine sc wkP F rfl ent40 (w_rotr ex3854 H:) ?_; clear F H; rintro _ w a ⟨rfl, H⟩ F
           refine bk [0, 0] F H rfl trivial ?_; clear F; intro a F
           replace H := H.nf 6 rfl
           refine nl (sr (bk (List.replicate 9 0) F H rfl trivial ?_)); clear F; intro a F
           refine nl (sq ?_)
           obtain ⟨x3855, ex3855, hm⟩ := ob hm
           obtain ⟨x3856, ex3856, hm⟩ := ob hm
           obtain ⟨x3857, ex3857, hm⟩ := ob hm
           refine qr H (by kernel_rfl) (by kernel_rfl) ?_
           refine q_val F rfl rfl rfl (fun u hu => y_idxA F arr83 rfl rfl rfl ex3855 hl3844) ?_; clear F; intro a F
           refine q_val F rfl rfl rfl (fun u hu => y_load1 F plain80 rfl rfl (row_ix ((hu.blk 0 rfl).row) (icells_idx ex3855))) ?_; clear F; intro a F
           refine qbk (List.replicate 5 0) F rfl trivial ?_; clear F; intro a F
           refine q_val F rfl rfl rfl (fun u hu => y_idxA F arr81 rfl rfl rfl ex3856 hl5) ?_; clear F; intro a F
           refine q_val F rfl rfl rfl (fun u hu => y_load1 F plain80 rfl rfl (row_ix ((hu.blk 4 rfl).row) (icells_idx ex3856))) ?_; clear F; intro a F
           refine qbk [0, 0] F rfl trivial ?_; clear F; intro a F
           refine q_val F rfl rfl rfl (fun u hu => y_idxA F arr81 rfl rfl rfl ex3857 hl3513) ?_; clear F; intro a F
           refine q_val F rfl rfl rfl (fun u hu => y_load1 F plain80 rfl rfl (row_ix ((hu.blk 1 rfl).row) (icells_idx ex3857))) ?_; clear F; intro a F
           refine qbk [0, 0] F rfl trivial ?_; clear F; intro a F
           refine q_nil ?_; clear H; intro w H
           refine ct (sr (bk [0] F H rfl trivial ?_)); clear F; intro a F
           obtain ⟨x3858, ex3858, hm⟩ := ob hm
           refine sc wkP F rfl ent40 (w_rotr ex3858 H:) ?_; clear F H; rintro _ w a ⟨rfl, H⟩ F
           refine bk [0] F H rfl trivial ?_; clear F; intro a F
           obtain ⟨x3859, ex3859, hm⟩ := ob hm
           refine sc wkP F rfl ent40 (w_rotr ex3859 H:) ?_; clear F H; rintro _ w a ⟨rfl, H⟩ F
           refine bk [0, 0] F H rfl trivial ?_; clear F; intro a F
           obtain ⟨x3860, ex3860, hm⟩ := ob hm
           refine sc wkP F rfl ent40 (w_rotr ex3860 H:) ?_; clear F H; rintro _ w a ⟨rfl, H⟩ F
           refine bk [0, 0] F H rfl trivial ?_; clear F; intro a F
           replace H := H.nf 6 rfl
           refine nl (sr (bk (List.replicate 12 0) F H rfl trivial ?_)); clear F; intro a F
           refine nl (rl (bk (List.replicate 8 0) F H rfl trivial ?_)); clear F; intro a F
           obtain ⟨x3861, ex3861, hm⟩ := ob hm
           refine s_val wkP F rfl rfl rfl rfl (y_idxA F arr83 rfl rfl rfl ex3861 hl3844) ?_; clear F; intro a F
           refine s_val wkP F rfl rfl rfl rfl (y_load1 F plain80 rfl rfl (row_ix ((H.blk 0 rfl).row) (icells_idx ex3861))) ?_; clear F; intro a F
           refine bk (List.replicate 5 0) F H rfl trivial ?_; clear F; intro a F
           refine s_val wkP F rfl rfl rfl rfl (y_build F rfl rfl (cs := icells .u32 ([IntKind.u32.wrap ((IntKind.u32.wrap ((IntKind.u32.wrap ((IntKind.u32.wrap ((IntKind.u32.wrap ((IntKind.u32.wrap (x3855 + (xorI .u32 (xorI .u32 x3852 x3853) x3854))) + (xorI .u32 (andI .u32 x3849 x3850) (andI .u32 (xorI .u32 4294967295 x3849) x3851)))) + x3856)) + x3857)) + (xorI .u32 (xorI .u32 x3858 x3859) x3860))) + (xorI .u32 (xorI .u32 (andI .u32 x3846 x3847) (andI .u32 x3846 x3848)) (andI .u32 x3847 x3848))), x3846, x3847, x3848, IntKind.u32.wrap (x3861 + (IntKind.u32.wrap ((IntKind.u32.wrap ((IntKind.u32.wrap ((IntKind.u32.wrap (x3855 + (xorI .u32 (xorI .u32 x3852 x3853) x3854))) + (xorI .u32 (andI .u32 x3849 x3850) (andI .u32 (xorI .u32 4294967295 x3849) x3851)))) + x3856)) + x3857))), x3849, x3850, x3851] : List Int)) (by kernel_rfl)) ?_; clear F; intro a F
           refine s_storeA wkP F rfl rfl agg83 rfl rfl rfl H 0 rfl ((icells_length _ _).trans rfl) ((icells_length _ _).trans hl3844) (icells_flat _ _) ?_; clear H; intro w H
           replace H := H.nf 6 rfl
           refine lz (bn (ct (rl (bk [0, 0, 0] F H rfl trivial ?_)))); clear F; intro a F
           refine lz (ct ?_); cases hm
           exact ⟨_, rfl, ⟨F.sl rfl, rfl, H⟩⟩
         · replace hm := ifF hg3845 hm
           refine ex (cx (cx ?_)); cases hm; refine ⟨_, rfl, ?_⟩; rintro rfl
           refine ch (ct ?_)
           exact ⟨F.sl rfl, hl3844, H⟩
       · skip
         clear F H hm
         rintro a w ⟨F, hl3806, H⟩; have hm := hm3805; clear hm3805
         refine ct (sr (bk [0] F H rfl trivial ?_)); clear F; intro a F
         refine nl ?_
         obtain ⟨r3893, er3893, hm3893⟩ := ob hm; clear hm; revert er3893; intro hm
         refine x_mid (fun aa ww => Fr ⟨234, []⟩ aa [(2, .pointer (some ⟨b3, 0, none⟩)), (3, .pointer (some ⟨b6, 0, none⟩)), (4, .pointer (some ⟨b7, 0, none⟩)), (5, .slice p9 (x8).length c9), (6, .int .i64 (s3273.2))] ∧ ((r3893).length = 8) ∧ St w0 ww (HP.blk b3749 (icells .u32 r3805) 83 :: HP.blk b3276 (icells .u32 r3512) 81 :: HP.ow rByte 5 p9 c9 x8 :: HP.blk b7 (icells .u32 r3893) 83 :: HP.blk b6 (icells .u32 x4) 81 :: HP.blk b3 (bcells (List.replicate 32 0)) 35 :: l)) ?_ ?_
         · skip
           refine bl ?_
           refine x_loopO _ (fun (s3915 : (List Int) × Int) aa ww => Fr ⟨234, []⟩ aa [(2, .pointer (some ⟨b3, 0, none⟩)), (3, .pointer (some ⟨b6, 0, none⟩)), (4, .pointer (some ⟨b7, 0, none⟩)), (5, .slice p9 (x8).length c9), (6, .int .i64 (s3273.2)), (14, .pointer (some ⟨b3749, 0, none⟩)), (27, .int .i64 (s3915.2))] ∧ ((s3915.1).length = 8) ∧ St w0 ww (HP.blk b3749 (icells .u32 r3805) 83 :: HP.blk b3276 (icells .u32 r3512) 81 :: HP.ow rByte 5 p9 c9 x8 :: HP.blk b7 (icells .u32 s3915.1) 83 :: HP.blk b6 (icells .u32 x4) 81 :: HP.blk b3 (bcells (List.replicate 32 0)) 35 :: l)) hm ⟨F.sl rfl, hl3274, H⟩ ?_
           clear F H hm
           rintro s3915 a w o ⟨F, hl3916, H⟩ hm
           refine sq (sr (bk [0, 0] F H rfl trivial ?_)); clear F; intro a F
           refine nl (cP F rfl (fun hg3917 => ?_) (fun hg3917 => ?_))
           · replace hm := ifT hg3917 hm
             refine sk (ct (sq (bl ?_)))
             obtain ⟨x3922, ex3922, hm⟩ := ob hm
             obtain ⟨x3923, ex3923, hm⟩ := ob hm
             obtain ⟨x3924, ex3924, hm⟩ := ob hm
             refine mix_region [8] [8] (.step 0 0 (.step 0 1 (.step 1 2 (.step 0 3 (.step 0 4 (.step 1 5 (.step 0 6 (.step 0 7 (.step 3 8 .done))))))))) (fun u => ∃ ls, St w0 u (ls)) (by kernel_rfl) (by kernel_rfl) ⟨_, H.drew⟩ ?_
             replace H := H.drew
             generalize w.drew = w at H ⊢
             refine mbk [0] F H rfl trivial ?_; clear F; intro a F
             refine m_pure F rfl rfl rfl rfl (fun u hu => y_idxA F arr83 rfl rfl rfl ex3922 hl3916) ?_; clear F; intro a F
             refine m_read F rfl rfl rfl rfl (y_load1 F plain80 rfl rfl (row_ix ((H.blk 3 rfl).row) (icells_idx ex3922))) ?_; clear F; intro a F
             refine mbk [0] F H rfl trivial ?_; clear F; intro a F
             refine m_pure F rfl rfl rfl rfl (fun u hu => y_idxA F arr83 rfl rfl rfl ex3923 hl3806) ?_; clear F; intro a F
             refine m_read F rfl rfl rfl rfl (y_load1 F plain80 rfl rfl (row_ix ((H.blk 0 rfl).row) (icells_idx ex3923))) ?_; clear F; intro a F
             refine mbk [0] F H rfl trivial ?_; clear F; intro a F
             refine m_pure F rfl rfl rfl rfl (fun u hu => y_idxA F arr83 rfl rfl rfl ex3924 hl3916) ?_; clear F; intro a F
             refine m_last rfl rfl ?_
             refine s_stI wkP F rfl rfl zero80 rfl rfl rfl H 3 rfl ex3924 ?_; clear H; intro w H
             refine lz ?_; refine ct ?_
             refine m_nil ?_
             refine bn (ct (rl (bk [0, 0, 0] F H rfl trivial ?_))); clear F; intro a F
             replace H := H.nf 6 rfl
             refine lz (ct ?_); cases hm
             exact ⟨_, rfl, ⟨F.sl rfl, ((List.length_set ..).trans hl3916), H⟩⟩
           · replace hm := ifF hg3917 hm
             refine ex (cx (cx ?_)); cases hm; refine ⟨_, rfl, ?_⟩; rintro rfl
             refine ch (ct ?_)
             exact ⟨F.sl rfl, hl3916, H⟩
         · skip
           clear F H hm
           rintro a w ⟨F, hl3894, H⟩; have hm := hm3893; clear hm3893
           refine bn (ct (rl (bk [0, 0, 0] F H rfl trivial ?_))); clear F; intro a F
           refine lz (ct ?_); cases hm
           exact ⟨_, rfl, ⟨F.sl rfl, hl3894, (H.pm 6 [2, 3, 4, 5] rfl:)⟩⟩
   · replace hm := ifF hg3275 hm
     refine ex (cx (cx ?_)); cases hm; refine ⟨_, rfl, ?_⟩; rintro rfl
     refine ch (ct ?_)
     exact ⟨F.sl rfl, hl3274, H⟩
 · skip
   clear F H hm
   rintro a w ⟨F, hl1968, H⟩; have hm := hm1967; clear hm1967
   refine ct (sr (s_val wkP F rfl rfl rfl rfl (y_build F rfl rfl (cs := bcells ((List.replicate 32 0) : List UInt8)) (by kernel_rfl)) ?_)); clear F; intro a F
   refine s_allocA wkP F rfl rfl rfl agz35 rfl H ?_; clear F H; intro b3926 w a H F
   refine s_storeA wkP F rfl rfl agg35 rfl rfl rfl H 0 rfl ((bcells_length _).trans rfl) ((bcells_length _).trans (List.length_replicate (n := 32))) (bcells_flat _) ?_; clear H; intro w H
   replace H := H.nf 5 rfl
   refine nl (sq (sr (bk [0] F H rfl trivial ?_))); clear F; intro a F
   refine nl ?_
   obtain ⟨r3955, er3955, hm3955⟩ := ob hm; clear hm; revert er3955; intro hm
   refine x_mid (fun aa ww => Fr ⟨234, []⟩ aa [(2, .pointer (some ⟨b3, 0, none⟩)), (28, .pointer (some ⟨b3926, 0, none⟩))] ∧ ((r3955).length = 32) ∧ St w0 ww (HP.blk b3926 (bcells r3955) 35 :: HP.ow rByte 5 p9 c9 x8 :: HP.blk b7 (icells .u32 r1967) 83 :: HP.blk b6 (icells .u32 x4) 81 :: HP.blk b3 (bcells (List.replicate 32 0)) 35 :: l)) ?_ ?_
   · skip
     refine bl ?_
     refine x_loopO _ (fun (s3975 : (List UInt8) × Int) aa ww => Fr ⟨234, []⟩ aa [(2, .pointer (some ⟨b3, 0, none⟩)), (4, .pointer (some ⟨b7, 0, none⟩)), (28, .pointer (some ⟨b3926, 0, none⟩)), (29, .int .i64 (s3975.2))] ∧ ((s3975.1).length = 32) ∧ St w0 ww (HP.blk b3926 (bcells s3975.1) 35 :: HP.ow rByte 5 p9 c9 x8 :: HP.blk b7 (icells .u32 r1967) 83 :: HP.blk b6 (icells .u32 x4) 81 :: HP.blk b3 (bcells (List.replicate 32 0)) 35 :: l)) hm ⟨F.sl rfl, rfl, H⟩ ?_
     clear F H hm
     rintro s3975 a w o ⟨F, hl3976, H⟩ hm
     refine sq (sr (bk [0, 0] F H rfl trivial ?_)); clear F; intro a F
     refine nl (cP F rfl (fun hg3977 => ?_) (fun hg3977 => ?_))
     · replace hm := ifT hg3977 hm
       refine sk (ct (sq (bl (rl (bk [0, 0] F H rfl trivial ?_))))); clear F; intro a F
       obtain ⟨x3978, ex3978, hm⟩ := ob hm
       refine s_val wkP F rfl rfl rfl rfl (i_quo F rfl rfl rfl ex3978) ?_; clear F; intro a F
       obtain ⟨x3979, ex3979, hm⟩ := ob hm
       refine s_val wkP F rfl rfl rfl rfl (y_idxA F arr83 rfl rfl rfl ex3979 hl1968) ?_; clear F; intro a F
       refine s_val wkP F rfl rfl rfl rfl (y_load1 F plain80 rfl rfl (row_ix ((H.blk 2 rfl).row) (icells_idx ex3979))) ?_; clear F; intro a F
       refine bk [0] F H rfl trivial ?_; clear F; intro a F
       obtain ⟨x3980, ex3980, hm⟩ := ob hm
       refine s_val wkP F rfl rfl rfl rfl (i_rem F rfl rfl rfl ex3980) ?_; clear F; intro a F
       refine bk [0, 0, 2] F H rfl ⟨Tryd.underlying3, Tryd.underlying85, trivial⟩ ?_; clear F; intro a F
       obtain ⟨x3981, ex3981, hm⟩ := ob hm
       refine s_val wkP F rfl rfl rfl rfl (i_shrO F rfl rfl rfl ex3981) ?_; clear F; intro a F
       refine bk [1] F H rfl ⟨Tryd.underlying80, Tryd.underlying5, trivial⟩ ?_; clear F; intro a F
       obtain ⟨x3982, ex3982, hm⟩ := ob hm
       refine s_val wkP F rfl rfl rfl rfl (y_idxA F arr35 rfl rfl rfl ex3982 hl3976) ?_; clear F; intro a F
       obtain ⟨x3984, ex3984, hm⟩ := ob hm
       refine s_stB wkP F rfl rfl zero5 rfl rfl rfl ex3984 H 0 rfl ex3982 ?_; clear H; intro w H
       replace H := H.nf 5 rfl
       refine lz (bn (ct (rl (bk [0, 0, 0] F H rfl trivial ?_)))); clear F; intro a F
       refine lz (ct ?_); cases hm
       exact ⟨_, rfl, ⟨F.sl rfl, ((List.length_set ..).trans hl3976), H⟩⟩
     · replace hm := ifF hg3977 hm
       refine ex (cx (cx ?_)); cases hm; refine ⟨_, rfl, ?_⟩; rintro rfl
       refine ch (ct ?_)
       exact ⟨F.sl rfl, hl3976, H⟩
   · skip
     clear F H hm
     rintro a w ⟨F, hl3956, H⟩; have hm := hm3955; clear hm3955
     refine ct (sr (bk [999] F H rfl ⟨rfl, (aggn agg35 ((bcells_length _).trans hl3956)), trivial⟩ ?_)); clear F; intro a F
     refine s_storeA wkP F rfl rfl agg35 rfl rfl rfl H 4 rfl ((bcells_length _).trans hl3956) ((bcells_length _).trans (List.length_replicate (n := 32))) (bcells_flat _) ?_; clear H; intro w H
     replace H := H.nf 5 rfl
     refine nl (wr ?_)
     cases hm
     refine x_resC1 F rfl (⟨_, rfl, agg35.run_load (H.blk 4 rfl).row ((bcells_length _).trans hl3956)⟩) ?_
     exact ⟨_, rfl, rfl, hl3956, (H.pm 5 [] rfl:)⟩
end Go.Proofs.YtfepdfjhejkemaaDoor
