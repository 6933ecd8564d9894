/- sha -/
import Derived.Test.YtnjemlkcamdbfaaGreatDoorShaA
set_option linter.unusedSimpArgs false
set_option linter.unusedVariables false
namespace Go.Proofs.YtnjemlkcamdbfaaGreatDoor
open Go.RowKit Go.Tri
set_option maxRecDepth 100000
set_option maxHeartbeats 4000000
theorem arr165 : ArrT Tryz.prog 165 5 64 1 := ⟨Tryz.underlying165, by kernel_rfl⟩
theorem ent102 : En Tryz.prog 102 := enters Tryz.func102 (by kernel_rfl) rfl
theorem elem175 : ElemT Tryz.prog 175 93 1 4 (.int .u32 0) := ⟨Tryz.underlying175, by kernel_rfl, by kernel_rfl, by decide⟩
theorem w_mix {state : List Int} {p : List UInt8}  {w0 w : World} {l : List HP} (hl1 : (state).length = 8) (hl2 : (p).length = 64) {r : (List Int)} (hm : mix state p = some r) (H : St w0 w (HP.row 2 (0) (icells .u32 shaRounds) :: l)) :
  Calls Tryz.prog 96 [.agg (icells .u32 state).toArray, .agg (bcells p).toArray].toArray w (fun e w' => ∃ v, e = .returned v ∧ v = .agg (icells .u32 r).toArray ∧ ((r).length = 8) ∧ St w0 w' (l)) := by
 unfold mix at hm
 refine x_enter Tryz.func96 rfl rfl rfl ?_
 intro a F
 refine sr (s_boxA wkP F rfl rfl rfl rfl rfl H fun b4 w a H F => ?_)
 refine s_boxA wkP F rfl rfl rfl rfl rfl H fun b5 w a H F => ?_
 replace H := H.frzB 0 rfl hl2
 refine s_allocA wkP F rfl rfl rfl agz96 rfl H fun b6 w a H F => ?_
 replace H := H.nf 4 rfl
 refine nl (sr (s_allocA wkP F rfl rfl rfl agz94 rfl H fun b7 w a H F => ?_))
 replace H := H.nf 5 rfl
 refine nl (sq (sb [0] F H rfl fun a F => ?_))
 refine nl ?_
 obtain ⟨r393, er393, hm393⟩ := ob hm; clear hm; revert er393; intro hm
 refine x_mid (fun aa ww => Fr ⟨146, []⟩ aa [(2, .pointer (some ⟨b4, 0, none⟩)), (4, .pointer (some ⟨b6, 0, none⟩)), (5, .pointer (some ⟨b7, 0, none⟩))] ∧ ((r393).length = 64) ∧ St w0 ww (HP.blk b7 (icells .u32 r393) 94 :: HP.blk b6 (icells .u32 (List.replicate 8 0)) 96 :: HP.blk b4 (icells .u32 state) 96 :: HP.row 2 (0) (icells .u32 shaRounds) :: l)) ?_ ?_
 refine bl ?_
 refine x_loopO _ (fun (s651 : (List Int) × Int) aa ww => Fr ⟨146, []⟩ aa [(2, .pointer (some ⟨b4, 0, none⟩)), (3, .pointer (some ⟨b5, 0, none⟩)), (4, .pointer (some ⟨b6, 0, none⟩)), (5, .pointer (some ⟨b7, 0, none⟩)), (19, .int .i64 (s651.2))] ∧ ((s651.1).length = 64) ∧ St w0 ww (HP.blk b7 (icells .u32 s651.1) 94 :: HP.blk b6 (icells .u32 (List.replicate 8 0)) 96 :: HP.sl rByte (some ⟨b5, 0, none⟩) 64 p :: HP.blk b4 (icells .u32 state) 96 :: HP.row 2 (0) (icells .u32 shaRounds) :: l)) hm ⟨F.sl rfl, (List.length_replicate (n := 64)), H⟩ ?_
 clear F H hm
 rintro s651 a w o ⟨F, hl652, H⟩ hm
 refine sb [0] F H rfl fun a F => ?_
 refine nl (sq (cPm F rfl hm (fun hg653 hm => ?_) (fun hg653 hm => ?_)))
 refine sk (ct (sq ?_))
 obtain ⟨r716, er716, hm716⟩ := ob hm; clear hm; revert er716; intro hm
 refine x_mid (fun aa ww => Fr ⟨146, []⟩ aa [(2, .pointer (some ⟨b4, 0, none⟩)), (3, .pointer (some ⟨b5, 0, none⟩)), (4, .pointer (some ⟨b6, 0, none⟩)), (5, .pointer (some ⟨b7, 0, none⟩)), (19, .int .i64 (s651.2))] ∧ ((r716).length = 64) ∧ St w0 ww (HP.blk b7 (icells .u32 r716) 94 :: HP.blk b6 (icells .u32 (List.replicate 8 0)) 96 :: HP.sl rByte (some ⟨b5, 0, none⟩) 64 p :: HP.blk b4 (icells .u32 state) 96 :: HP.row 2 (0) (icells .u32 shaRounds) :: l)) ?_ ?_
 refine bl (sb [0,0] F H rfl fun a F => ?_)
 refine nl (sq (sb [0,0] F H rfl fun a F => ?_))
 refine nl (cPm F rfl hm (fun hg718 hm => ?_) (fun hg718 hm => ?_))
 refine sq (sb (List.replicate 5 0) F H rfl fun a F => ?_)
 obtain ⟨x719, ex719, hm⟩ := ob hm
 replace H := H.slSubN 1 rfl 2 rfl ex719
 refine sv F rfl (y_slALH F arr165 rfl rfl rfl rfl ex719 hl2) fun a F => ?_
 refine bk [0,0] F H rfl ⟨⟨_, Tryz.underlying26⟩, trivial⟩ fun a F => ?_
 replace H := H.nf 6 rfl
 refine nl ?_
 obtain ⟨r745, er745, hm745⟩ := ob hm; clear hm; revert er745; intro hm
 refine x_mid (fun aa ww => Fr ⟨146, []⟩ aa [(2, .pointer (some ⟨b4, 0, none⟩)), (3, .pointer (some ⟨b5, 0, none⟩)), (4, .pointer (some ⟨b6, 0, none⟩)), (5, .pointer (some ⟨b7, 0, none⟩)), (19, .int .i64 (s651.2))] ∧ ((r745).length = 64) ∧ St w0 ww (HP.blk b7 (icells .u32 r745) 94 :: HP.blk b6 (icells .u32 (List.replicate 8 0)) 96 :: HP.sl rByte (some ⟨b5, 0, none⟩) 64 p :: HP.blk b4 (icells .u32 state) 96 :: HP.row 2 (0) (icells .u32 shaRounds) :: l)) ?_ ?_
 refine bl ?_
 refine x_loopO _ (fun (s763 : (List Int) × Int) aa ww => Fr ⟨146, []⟩ aa [(2, .pointer (some ⟨b4, 0, none⟩)), (3, .pointer (some ⟨b5, 0, none⟩)), (4, .pointer (some ⟨b6, 0, none⟩)), (5, .pointer (some ⟨b7, 0, none⟩)), (6, .int .i64 (s651.2)), (19, .int .i64 (s651.2)), (29, .slice (shp (some ⟨b5, 0, none⟩) 64 ((IntKind.i64.wrap (4 * s651.2)) : Int).toNat 1) (x719).length (64 - ((IntKind.i64.wrap (4 * s651.2)) : Int).toNat)), (30, .int .i64 (((x719).length : Int))), (31, .int .i64 (s763.2))] ∧ ((s763.1).length = 64) ∧ St w0 ww (HP.sl rByte (shp (some ⟨b5, 0, none⟩) 64 ((IntKind.i64.wrap (4 * s651.2)) : Int).toNat 1) (64 - ((IntKind.i64.wrap (4 * s651.2)) : Int).toNat) x719 :: HP.blk b7 (icells .u32 s763.1) 94 :: HP.blk b6 (icells .u32 (List.replicate 8 0)) 96 :: HP.sl rByte (some ⟨b5, 0, none⟩) 64 p :: HP.blk b4 (icells .u32 state) 96 :: HP.row 2 (0) (icells .u32 shaRounds) :: l)) hm ⟨F.sl rfl, hl652, H⟩ ?_
 clear F H hm
 rintro s763 a w o ⟨F, hl764, H⟩ hm
 refine sb [0] F H rfl fun a F => ?_
 refine nl (sq (cPm F rfl hm (fun hg765 hm => ?_) (fun hg765 hm => ?_)))
 refine sk (ct (sq (bl (sr ?_))))
 obtain ⟨x766, ex766, hm⟩ := ob hm
 obtain ⟨b767, o767, hp767, cs768, H⟩ := H.slE 0 rfl ex766
 obtain rfl := H.rcB 1 rfl
 replace H := H.dp 1 rfl
 refine sv F rfl (y_idxS F elem26 rfl rfl rfl hp767 ex766) fun a F => ?_
 refine bk [0,0] F H rfl ⟨rfl, plain5, trivial⟩ fun a F => ?_
 refine nl (rl (bb [0,0] F H rfl fun a F => ?_))
 obtain ⟨x769, ex769, hm⟩ := ob hm
 refine sv F rfl (y_idxA F arr94 rfl rfl rfl ex769 hl764) fun a F => ?_
 refine sv F rfl (y_load1 F plain93 rfl rfl (row_ix ((H.blk 2 rfl).row) (icells_idx ex769))) fun a F => ?_
 refine sv F rfl (i_shl F rfl rfl rfl (by decide)) fun a F => ?_
 refine bk [0,3,0] F H rfl ⟨Tryz.underlying5, Tryz.underlying93, trivial⟩ fun a F => ?_
 obtain ⟨x770, ex770, hm⟩ := ob hm
 refine sv F rfl (y_idxA F arr94 rfl rfl rfl ex770 hl764) fun a F => ?_
 refine s_stI wkP F rfl rfl zero93 rfl rfl rfl H 2 rfl ex770 fun w H => ?_
 replace H := H.nf 7 rfl
 refine lz (bn (ct (rl (bb [0,0] F H rfl fun a F => ?_))))
 refine lz (ct ?_); cases hm
 exact ⟨_, rfl, ⟨F.sl rfl, ((List.length_set ..).trans hl764), (H.pm 7 [1,2,3,4,5,6] rfl:)⟩⟩
 refine ex (cx (cx ?_)); cases hm; refine ⟨_, rfl, ?_⟩; rintro rfl
 refine ch (ct ?_)
 exact ⟨F.sl rfl, hl764, (H.pm 6 [1,2,3,4,5] rfl:)⟩
 clear F H hm
 rintro a w ⟨F, hl746, H⟩; have hm := hm745; clear hm745
 refine ct (ex (cx (ch ?_)))
 cases hm
 refine ct ?_
 exact ⟨F.sl rfl, hl746, H⟩
 refine sk (ct ?_)
 obtain ⟨x772, ex772, hm⟩ := ob hm
 obtain ⟨x773, ex773, hm⟩ := ob hm
 obtain ⟨x774, ex774, hm⟩ := ob hm
 obtain ⟨x775, ex775, hm⟩ := ob hm
 refine mix_regionK [5,15,23] [23] (scL [0,1,2,3,1004,6,7,8,9,11,12,13,14,17,18,19,20,2005,10,2015,16,21,22,3023]) [0] H rfl rfl (by kernel_rfl) (by kernel_rfl) fun w H => ?_
 refine mb [0,0,0] F H rfl fun a F => ?_
 refine m_pure F rfl rfl rfl rfl (fun u hu => y_idxA F arr94 rfl rfl rfl ex772 hl652) fun a F => ?_
 refine m_read F rfl rfl rfl rfl (y_load1 F plain93 rfl rfl (row_ix ((H.blk 0 rfl).row) (icells_idx ex772))) fun a F => ?_
 refine mb [0,0] F H rfl fun a F => ?_
 refine m_pure F rfl rfl rfl rfl (fun u hu => y_idxA F arr94 rfl rfl rfl ex773 hl652) fun a F => ?_
 refine m_pure F rfl rfl rfl rfl (fun u hu => y_load1 F plain93 rfl rfl (row_ix ((hu.choose_spec.blk 0 rfl).row) (icells_idx ex773))) fun a F => ?_
 refine mb [0,0] F H rfl fun a F => ?_
 refine m_pure F rfl rfl rfl rfl (fun u hu => y_idxA F arr94 rfl rfl rfl ex774 hl652) fun a F => ?_
 refine m_pure F rfl rfl rfl rfl (fun u hu => y_load1 F plain93 rfl rfl (row_ix ((hu.choose_spec.blk 0 rfl).row) (icells_idx ex774))) fun a F => ?_
 refine mb [0,0] F H rfl fun a F => ?_
 refine m_pure F rfl rfl rfl rfl (fun u hu => y_idxA F arr94 rfl rfl rfl ex775 hl652) fun a F => ?_
 refine m_pure F rfl rfl rfl rfl (fun u hu => y_load1 F plain93 rfl rfl (row_ix ((hu.choose_spec.blk 0 rfl).row) (icells_idx ex775))) fun a F => ?_
 refine m_heavy rfl rfl ?_
 obtain ⟨x776, ex776, hm⟩ := ob hm
 refine sd F rfl ent102 (w_turn ex776 H:) ?_; rintro _ w a ⟨rfl, H⟩ F
 refine lz ?_; refine ct ⟨⟨_, H⟩, ?_⟩
 refine mb [0] F H rfl fun a F => ?_
 refine m_heavy rfl rfl ?_
 obtain ⟨x777, ex777, hm⟩ := ob hm
 refine sd F rfl ent102 (w_turn ex777 H:) ?_; rintro _ w a ⟨rfl, H⟩ F
 refine lz ?_; refine ct ⟨⟨_, H⟩, ?_⟩
 refine mb [0,0] F H rfl fun a F => ?_
 obtain ⟨x778, ex778, hm⟩ := ob hm
 refine m_pure F rfl rfl rfl rfl (fun u hu => y_idxA F arr94 rfl rfl rfl ex778 hl652) fun a F => ?_
 refine m_last rfl rfl ?_
 refine s_stI wkP F rfl rfl zero93 rfl rfl rfl H 0 rfl ex778 fun w H => ?_
 refine lz ?_; refine ct ?_
 refine m_nil ?_
 refine bn ?_
 cases hm
 refine ct ?_
 exact ⟨F.sl rfl, ((List.length_set ..).trans hl652), H⟩
 clear F H hm
 rintro a w ⟨F, hl717, H⟩; have hm := hm716; clear hm716
 refine ct (rl (bb [0,0] F H rfl fun a F => ?_))
 refine lz (ct ?_); cases hm
 exact ⟨_, rfl, ⟨F.sl rfl, hl717, H⟩⟩
 refine ex (cx (cx ?_)); cases hm; refine ⟨_, rfl, ?_⟩; rintro rfl
 refine ch (ct ?_)
 exact ⟨F.sl rfl, hl652, (H.pm 5 [0,1,3,4] rfl:)⟩
 clear F H hm
 rintro a w ⟨F, hl394, H⟩; have hm := hm393; clear hm393
 refine ct (sr (bk [2999] F H rfl ⟨rfl, (aggn agg96 ((icells_length _ _).trans hl1)), trivial⟩ fun a F => ?_))
 refine s_allocA wkP F rfl rfl rfl agz96 rfl H fun b780 w a H F => ?_
 refine s_storeA wkP F rfl rfl agg96 rfl rfl rfl H 0 rfl ((icells_length _ _).trans hl1) ((icells_length _ _).trans (List.length_replicate (n := 8))) (icells_flat _ _) fun w H => ?_
 replace H := H.nf 5 rfl
 refine nl (sq (sr (bk [4999,0] F H rfl ⟨rfl, (aggn agg94 ((icells_length _ _).trans shaRounds_len)), trivial⟩ fun a F => ?_)))
 refine nl ?_
 obtain ⟨r851, er851, hm851⟩ := ob hm; clear hm; revert er851; intro hm
 refine x_mid (fun aa ww => Fr ⟨146, []⟩ aa [(2, .pointer (some ⟨b4, 0, none⟩)), (4, .pointer (some ⟨b6, 0, none⟩)), (9, .pointer (some ⟨b780, 0, none⟩))] ∧ ((r851).length = 8) ∧ St w0 ww (HP.blk b780 (icells .u32 r851) 96 :: HP.blk b7 (icells .u32 r393) 94 :: HP.blk b6 (icells .u32 (List.replicate 8 0)) 96 :: HP.blk b4 (icells .u32 state) 96 :: HP.row 2 (0) (icells .u32 shaRounds) :: l)) ?_ ?_
 refine bl ?_
 refine x_loopO _ (fun (s899 : (List Int) × Int) aa ww => Fr ⟨146, []⟩ aa [(2, .pointer (some ⟨b4, 0, none⟩)), (4, .pointer (some ⟨b6, 0, none⟩)), (5, .pointer (some ⟨b7, 0, none⟩)), (9, .pointer (some ⟨b780, 0, none⟩)), (70, .agg (icells .u32 shaRounds).toArray), (71, .int .i64 (s899.2))] ∧ ((s899.1).length = 8) ∧ St w0 ww (HP.blk b780 (icells .u32 s899.1) 96 :: HP.blk b7 (icells .u32 r393) 94 :: HP.blk b6 (icells .u32 (List.replicate 8 0)) 96 :: HP.blk b4 (icells .u32 state) 96 :: HP.row 2 (0) (icells .u32 shaRounds) :: l)) hm ⟨F.sl rfl, hl1, H⟩ ?_
 clear F H hm
 rintro s899 a w o ⟨F, hl900, H⟩ hm
 refine sb [0] F H rfl fun a F => ?_
 refine nl (sq (cPm F rfl hm (fun hg901 hm => ?_) (fun hg901 hm => ?_)))
 refine sk (ct (sq (bl (sb [0] F H rfl fun a F => ?_))))
 obtain ⟨x902, ex902, hm⟩ := ob hm
 refine sv F rfl (y_idxV F arr94 plain93 rfl rfl rfl (icells_idx ex902) ((icells_length _ _).trans shaRounds_len)) fun a F => ?_
 refine bb [0,0] F H rfl fun a F => ?_
 refine nl (sq ?_)
 obtain ⟨x903, ex903, hm⟩ := ob hm
 obtain ⟨x904, ex904, hm⟩ := ob hm
 refine qr H (by kernel_rfl) (by kernel_rfl) ?_
 refine qv F rfl (fun u hu => y_idxA F arr96 rfl rfl rfl ex903 hl900) fun a F => ?_
 refine qv F rfl (fun u hu => y_load1 F plain93 rfl rfl (row_ix ((hu.blk 0 rfl).row) (icells_idx ex903))) fun a F => ?_
 refine qv F rfl (fun u hu => y_idxA F arr96 rfl rfl rfl ex904 hl900) fun a F => ?_
 refine qv F rfl (fun u hu => y_load1 F plain93 rfl rfl (row_ix ((hu.blk 0 rfl).row) (icells_idx ex904))) fun a F => ?_
 refine qb [0,0] F rfl fun a F => ?_
 refine q_nil fun w H => ?_
 refine ct (sb [0] F H rfl fun a F => ?_)
 obtain ⟨x905, ex905, hm⟩ := ob hm
 refine sv F rfl (y_idxA F arr96 rfl rfl rfl ex905 hl900) fun a F => ?_
 refine sv F rfl (y_load1 F plain93 rfl rfl (row_ix ((H.blk 0 rfl).row) (icells_idx ex905))) fun a F => ?_
 refine bb [0,0,0] F H rfl fun a F => ?_
 obtain ⟨x906, ex906, hm⟩ := ob hm
 refine sv F rfl (y_idxA F arr96 rfl rfl rfl ex906 hl900) fun a F => ?_
 refine sv F rfl (y_load1 F plain93 rfl rfl (row_ix ((H.blk 0 rfl).row) (icells_idx ex906))) fun a F => ?_
 refine bb [0,0,0] F H rfl fun a F => ?_
 refine nb [0] F H rfl fun a F => ?_
 obtain ⟨x907, ex907, hm⟩ := ob hm
 refine sv F rfl (y_idxA F arr96 rfl rfl rfl ex907 hl900) fun a F => ?_
 refine sv F rfl (y_load1 F plain93 rfl rfl (row_ix ((H.blk 0 rfl).row) (icells_idx ex907))) fun a F => ?_
 refine bb [0,0] F H rfl fun a F => ?_
 obtain ⟨x908, ex908, hm⟩ := ob hm
 refine sv F rfl (y_idxA F arr96 rfl rfl rfl ex908 hl900) fun a F => ?_
 refine sv F rfl (y_load1 F plain93 rfl rfl (row_ix ((H.blk 0 rfl).row) (icells_idx ex908))) fun a F => ?_
 refine bb [0,0] F H rfl fun a F => ?_
 obtain ⟨x909, ex909, hm⟩ := ob hm
 refine sv F rfl (y_idxA F arr96 rfl rfl rfl ex909 hl900) fun a F => ?_
 refine sv F rfl (y_load1 F plain93 rfl rfl (row_ix ((H.blk 0 rfl).row) (icells_idx ex909))) fun a F => ?_
 obtain ⟨x910, ex910, hm⟩ := ob hm
 refine sv F rfl (y_idxA F arr96 rfl rfl rfl ex910 hl900) fun a F => ?_
 refine sv F rfl (y_load1 F plain93 rfl rfl (row_ix ((H.blk 0 rfl).row) (icells_idx ex910))) fun a F => ?_
 refine bb [0,0,0] F H rfl fun a F => ?_
 refine nl (sq ?_)
 obtain ⟨x911, ex911, hm⟩ := ob hm
 obtain ⟨x912, ex912, hm⟩ := ob hm
 obtain ⟨x913, ex913, hm⟩ := ob hm
 refine qr H (by kernel_rfl) (by kernel_rfl) ?_
 refine qv F rfl (fun u hu => y_idxA F arr96 rfl rfl rfl ex911 hl900) fun a F => ?_
 refine qv F rfl (fun u hu => y_load1 F plain93 rfl rfl (row_ix ((hu.blk 0 rfl).row) (icells_idx ex911))) fun a F => ?_
 refine qb [0] F rfl fun a F => ?_
 refine q_call F rfl rfl rfl (fun u hu => y_call F rfl rfl ent102) (fun u hu => (w_turn ex912 hu).mono fun e u2 he => by obtain ⟨v, rfl, rfl, H⟩ := he; exact ⟨rfl, H⟩) fun a F => ?_
 refine qb (List.replicate 6 0) F rfl fun a F => ?_
 refine qv F rfl (fun u hu => y_idxA F arr94 rfl rfl rfl ex913 hl394) fun a F => ?_
 refine qv F rfl (fun u hu => y_load1 F plain93 rfl rfl (row_ix ((hu.blk 1 rfl).row) (icells_idx ex913))) fun a F => ?_
 refine qb [0,0] F rfl fun a F => ?_
 refine q_nil fun w H => ?_
 refine ct (sq ?_)
 obtain ⟨x914, ex914, hm⟩ := ob hm
 obtain ⟨x915, ex915, hm⟩ := ob hm
 refine mix_regionK [2] [2] (scL [0,1,3002]) [] H rfl rfl (by kernel_rfl) (by kernel_rfl) fun w H => ?_
 refine m_pure F rfl rfl rfl rfl (fun u hu => y_slAL F arr96 rfl rfl rfl ex914 hl900) fun a F => ?_
 refine m_pure F rfl rfl rfl rfl (fun u hu => y_slAH F arr96 rfl rfl rfl ex915 hl900) fun a F => ?_
 refine m_last rfl rfl ?_
 refine s_cpy (f := (Value.int .u32)) wkP F rfl rfl rfl elem175 rfl (fun _ => rfl) rfl (shp_ne (by decide)) rfl H 0 rfl (slB (f := (Value.int .u32)) (H.blk 0 rfl) (shp_ne (by decide)) ex915 (by decide) (by have := (slcO_some ex915).2.2; simp at this ⊢; omega)) (by have := (slcO_some ex914).2.2; have := (slcO_some ex914).1; simp at *; omega) fun w a H F => ?_
 have hl916 : (putAt s899.1 (1 : Int).toNat ((x915).take (x914).length)).length = 8 := by have h1 := (slcO_some ex914).2.2; have h2 := (slcO_some ex914).1; have h3 := hl900; rw [putAt_len _ _ _ (by simp at *; omega)]; exact h3
 refine lz ?_; refine ct ?_
 refine m_nil ?_
 refine ct (sr ?_)
 obtain ⟨x917, ex917, hm⟩ := ob hm
 refine sv F rfl (y_idxA F arr96 rfl rfl rfl ex917 hl916) fun a F => ?_
 refine sv F rfl (y_load1 F plain93 rfl rfl (row_ix ((H.blk 0 rfl).row) (icells_idx ex917))) fun a F => ?_
 refine bb [0,0] F H rfl fun a F => ?_
 obtain ⟨x918, ex918, hm⟩ := ob hm
 refine sv F rfl (y_idxA F arr96 rfl rfl rfl ex918 hl916) fun a F => ?_
 refine s_stI wkP F rfl rfl zero93 rfl rfl rfl H 0 rfl ex918 fun w H => ?_
 replace H := H.nf 5 rfl
 refine nl (rl (bb [0,0] F H rfl fun a F => ?_))
 obtain ⟨x920, ex920, hm⟩ := ob hm
 refine sd F rfl ent102 (w_turn ex920 H:) ?_; rintro _ w a ⟨rfl, H⟩ F
 refine bb [0,0,0] F H rfl fun a F => ?_
 obtain ⟨x921, ex921, hm⟩ := ob hm
 refine sv F rfl (y_idxA F arr96 rfl rfl rfl ex921 ((List.length_set ..).trans hl916)) fun a F => ?_
 refine s_stI wkP F rfl rfl zero93 rfl rfl rfl H 0 rfl ex921 fun w H => ?_
 replace H := H.nf 5 rfl
 refine lz (bn (ct (rl (bb [0,0] F H rfl fun a F => ?_))))
 refine lz (ct ?_); cases hm
 exact ⟨_, rfl, ⟨F.sl rfl, ((List.length_set ..).trans ((List.length_set ..).trans hl916)), H⟩⟩
 refine ex (cx (cx ?_)); cases hm; refine ⟨_, rfl, ?_⟩; rintro rfl
 refine ch (ct ?_)
 exact ⟨F.sl rfl, hl900, H⟩
 clear F H hm
 rintro a w ⟨F, hl852, H⟩; have hm := hm851; clear hm851
 refine ct (sq (sr (bk [3999,0] F H rfl ⟨rfl, (aggn agg96 ((icells_length _ _).trans hl1)), trivial⟩ fun a F => ?_)))
 refine nl ?_
 obtain ⟨r942, er942, hm942⟩ := ob hm; clear hm; revert er942; intro hm
 refine x_mid (fun aa ww => Fr ⟨146, []⟩ aa [(4, .pointer (some ⟨b6, 0, none⟩)), (9, .pointer (some ⟨b780, 0, none⟩))] ∧ ((r942).length = 8) ∧ St w0 ww (HP.blk b780 (icells .u32 r942) 96 :: HP.blk b7 (icells .u32 r393) 94 :: HP.blk b6 (icells .u32 (List.replicate 8 0)) 96 :: HP.blk b4 (icells .u32 state) 96 :: HP.row 2 (0) (icells .u32 shaRounds) :: l)) ?_ ?_
 refine bl ?_
 refine x_loopO _ (fun (s956 : (List Int) × Int) aa ww => Fr ⟨146, []⟩ aa [(4, .pointer (some ⟨b6, 0, none⟩)), (9, .pointer (some ⟨b780, 0, none⟩)), (133, .agg (icells .u32 state).toArray), (134, .int .i64 (s956.2))] ∧ ((s956.1).length = 8) ∧ St w0 ww (HP.blk b780 (icells .u32 s956.1) 96 :: HP.blk b7 (icells .u32 r393) 94 :: HP.blk b6 (icells .u32 (List.replicate 8 0)) 96 :: HP.blk b4 (icells .u32 state) 96 :: HP.row 2 (0) (icells .u32 shaRounds) :: l)) hm ⟨F.sl rfl, hl852, H⟩ ?_
 clear F H hm
 rintro s956 a w o ⟨F, hl957, H⟩ hm
 refine sb [0] F H rfl fun a F => ?_
 refine nl (sq (cPm F rfl hm (fun hg958 hm => ?_) (fun hg958 hm => ?_)))
 refine sk (ct (sq (bl (sb [0] F H rfl fun a F => ?_))))
 obtain ⟨x959, ex959, hm⟩ := ob hm
 refine sv F rfl (y_idxV F arr96 plain93 rfl rfl rfl (icells_idx ex959) ((icells_length _ _).trans hl1)) fun a F => ?_
 refine bb [0,0] F H rfl fun a F => ?_
 refine nl (rl (bb [0] F H rfl fun a F => ?_))
 obtain ⟨x960, ex960, hm⟩ := ob hm
 refine sv F rfl (y_idxA F arr96 rfl rfl rfl ex960 hl957) fun a F => ?_
 refine sv F rfl (y_load1 F plain93 rfl rfl (row_ix ((H.blk 0 rfl).row) (icells_idx ex960))) fun a F => ?_
 refine bb [0,0] F H rfl fun a F => ?_
 obtain ⟨x961, ex961, hm⟩ := ob hm
 refine sv F rfl (y_idxA F arr96 rfl rfl rfl ex961 hl957) fun a F => ?_
 refine s_stI wkP F rfl rfl zero93 rfl rfl rfl H 0 rfl ex961 fun w H => ?_
 replace H := H.nf 5 rfl
 refine lz (bn (ct (rl (bb [0,0] F H rfl fun a F => ?_))))
 refine lz (ct ?_); cases hm
 exact ⟨_, rfl, ⟨F.sl rfl, ((List.length_set ..).trans hl957), H⟩⟩
 refine ex (cx (cx ?_)); cases hm; refine ⟨_, rfl, ?_⟩; rintro rfl
 refine ch (ct ?_)
 exact ⟨F.sl rfl, hl957, H⟩
 clear F H hm
 rintro a w ⟨F, hl943, H⟩; have hm := hm942; clear hm942
 refine ct (sr (bk [999] F H rfl ⟨rfl, (aggn agg96 ((icells_length _ _).trans hl943)), trivial⟩ fun a F => ?_))
 refine s_storeA wkP F rfl rfl agg96 rfl rfl rfl H 2 rfl ((icells_length _ _).trans hl943) ((icells_length _ _).trans (List.length_replicate (n := 8))) (icells_flat _ _) fun w H => ?_
 replace H := H.nf 5 rfl
 refine nl (wr ?_)
 cases hm
 refine x_resC1 F rfl (⟨_, rfl, agg96.run_load (H.blk 2 rfl).row ((icells_length _ _).trans hl943)⟩) ?_
 exact ⟨_, rfl, rfl, hl943, (H.pm 5 [] rfl:)⟩
theorem fld163_2 : FieldT Tryz.prog 163 2 9 := by unfold FieldT; rw [Tryz.underlying163]; kernel_rfl
theorem plain116 : Plain Tryz.prog 116 := by unfold Plain; rw [Tryz.underlying116]; rfl
theorem zero116 : Zero1 Tryz.prog 116 (.int .u64 0) := ⟨by kernel_rfl, rfl⟩
theorem fld163_1 : FieldT Tryz.prog 163 1 8 := by unfold FieldT; rw [Tryz.underlying163]; kernel_rfl
theorem plain26 : Plain Tryz.prog 26 := by unfold Plain; rw [Tryz.underlying26]; rfl
theorem zero26 : Zero1 Tryz.prog 26 (.slice none 0 0) := ⟨by kernel_rfl, rfl⟩
theorem fld163_0 : FieldT Tryz.prog 163 0 0 := by unfold FieldT; rw [Tryz.underlying163]; kernel_rfl
theorem agg165 : AggT Tryz.prog 165 64 (List.replicate 64 (.int .u8 0)) := ⟨by rw [Tryz.underlying165]; rfl, by kernel_rfl, by kernel_rfl⟩
theorem ent96 : En Tryz.prog 96 := enters Tryz.func96 (by kernel_rfl) rfl
theorem w_shaAdd {h : T_sha_Hasher_o} {b : List UInt8} {bo0 : Nat} {p1 : Option Addr} {c1 : Nat} {w0 w : World} {l : List HP}  {r : T_sha_Hasher_o} (hm : shaAdd h b = some r) (H : St w0 w (HP.row 2 (0) (icells .u32 shaRounds) :: O_sha_Hasher bo0 h :: HP.sl rByte p1 c1 b :: l)) :
  Calls Tryz.prog 71 [.pointer (some ⟨bo0, 0, none⟩), .slice p1 (b).length c1].toArray w (fun e w' => ∃ v, e = .returned v ∧ v = .tuple [].toArray ∧ St w0 w' (O_sha_Hasher_1 bo0 r :: l)) := by
 unfold shaAdd at hm
 refine x_enter Tryz.func71 rfl rfl rfl ?_
 intro a F
 refine sr (bk [0,0,9] F H rfl ⟨fld163_2, trivial⟩ fun a F => ?_)
 obtain ⟨p2, c3, hl4, H⟩ := O_sha_Hasher_o (H.pk 1 rfl)
 refine sv F rfl (y_load1 F plain116 rfl rfl (row_at (v := .int .u64 (h.2.2)) ((H.blk 0 rfl).row) (by simp [List.getElem?_append, icells_length, bcells_length, hl4]))) fun a F => ?_
 refine bk [0,0,2,0,0,9] F H rfl ⟨⟨_, Tryz.underlying26⟩, Tryz.underlying3, Tryz.underlying116, fld163_2, trivial⟩ fun a F => ?_
 refine s_store1 wkP F rfl rfl zero116 rfl rfl rfl rfl rfl H 0 rfl (by simp [icells_length, bcells_length, hl4]) fun w H => ?_
 replace H : St w0 w (HP.blk bo0 (icells .u32 h.1 ++ ([Value.slice p2 (h.2.1).length c3, Value.int .u64 (IntKind.u64.wrap (h.2.2 + (IntKind.u64.wrap (((b).length : Int)))))])) 163 :: HP.ow rByte 5 p2 c3 h.2.1 :: HP.row 2 (0) (icells .u32 shaRounds) :: HP.sl rByte p1 c1 b :: l) := (by have h := H; simp only [List.set_append, icells_length, bcells_length, hl4] at h; simpa using h)
 refine nl (sr (bk [0,0,0,8] F H rfl ⟨fld163_1, trivial⟩ fun a F => ?_))
 refine sv F rfl (y_load1 F plain26 rfl rfl (row_at (v := .slice p2 (h.2.1).length c3) ((H.blk 0 rfl).row) (by simp [List.getElem?_append, icells_length, bcells_length, hl4]))) fun a F => ?_
 refine bb [0] F H rfl fun a F => ?_
 obtain ⟨x6, ex6, hm⟩ := ob hm
 refine s_app wkP F rfl rfl rfl rfl rfl rfl elem26 rfl ex6 H 1 3 rfl rfl fun p5 c5 w a H F => ?_
 refine bk [0,8] F H rfl ⟨fld163_1, trivial⟩ fun a F => ?_
 refine s_store1 wkP F rfl rfl zero26 rfl rfl rfl rfl rfl H 0 rfl (by simp [icells_length, bcells_length, hl4]) fun w H => ?_
 replace H : St w0 w (HP.blk bo0 (icells .u32 h.1 ++ ([Value.slice p5 (x6).length c5, Value.int .u64 (IntKind.u64.wrap (h.2.2 + (IntKind.u64.wrap (((b).length : Int)))))])) 163 :: HP.ow rByte 5 p5 c5 x6 :: HP.row 2 (0) (icells .u32 shaRounds) :: HP.sl rByte p1 c1 b :: l) := (by have h := H; simp only [List.set_append, icells_length, bcells_length, hl4] at h; simpa using h)
 refine nl ?_
 replace H := O_sha_Hasher_s hl4 H
 obtain ⟨p56, c57, hl58, H⟩ := O_sha_Hasher_o (H.pk 0 rfl)
 obtain ⟨r93, er93, hm93⟩ := ob hm; clear hm; revert er93; intro hm
 refine x_mid (fun aa ww => ∃ (p95 : Option Addr) (c95 : Nat), Fr ⟨52, []⟩ aa [] ∧ ((r93.1).length = 8) ∧ St w0 ww (HP.blk bo0 (icells .u32 r93.1 ++ ([Value.slice p95 (r93.2).length c95, Value.int .u64 (((h.1, x6, IntKind.u64.wrap (h.2.2 + (IntKind.u64.wrap (((b).length : Int))))).2).2)])) 163 :: HP.row 2 (0) (icells .u32 shaRounds) :: HP.sl rByte p95 c95 r93.2 :: l)) ?_ ?_
 refine bl ?_
 replace H := H.frz 1 rfl
 refine x_loopO _ (fun (s118 : ((List Int) × (List UInt8))) aa ww => ∃ (p120 : Option Addr) (c120 : Nat), Fr ⟨52, []⟩ aa [(0, .pointer (some ⟨bo0,0, none⟩))] ∧ ((s118.1).length = 8) ∧ St w0 ww (HP.blk bo0 (icells .u32 s118.1 ++ ([Value.slice p120 (s118.2).length c120, Value.int .u64 (((h.1, x6, IntKind.u64.wrap (h.2.2 + (IntKind.u64.wrap (((b).length : Int))))).2).2)])) 163 :: HP.row 2 (0) (icells .u32 shaRounds) :: HP.sl rByte p120 c120 s118.2 :: l)) hm ⟨p56, c57, F.sl rfl, hl58, (H.pm 4 [1,2,0] rfl:)⟩ ?_
 clear F H hm
 rintro s118 a w o ⟨p120, c120, F, hl119, H⟩ hm
 refine sq (sr (bk [0,0,8] F H rfl ⟨fld163_1, trivial⟩ fun a F => ?_))
 refine sv F rfl (y_load1 F plain26 rfl rfl (row_at (v := .slice p120 (s118.2).length c120) ((H.blk 0 rfl).row) (by simp [List.getElem?_append, icells_length, bcells_length, hl119]))) fun a F => ?_
 refine bk [0,0] F H rfl ⟨⟨_, Tryz.underlying26⟩, trivial⟩ fun a F => ?_
 replace H := H.nf 3 rfl
 refine nl (cPm F rfl hm (fun hg121 hm => ?_) (fun hg121 hm => ?_))
 refine sk (ct (bl (sq ?_)))
 obtain ⟨x123, ex123, hm⟩ := ob hm
 have hc122 := H.slCap 2 rfl
 replace H := H.slSubN 1 rfl 2 rfl ex123
 obtain ⟨x125, ex125, hm⟩ := ob hm
 obtain ⟨b124, o124, hp124, H⟩ := H.slRowB 0 rfl (arrO_some ex125).2.1
 refine mix_regionK [12,15] [15] (scL [0,1,2,3,1004,5,6,7,1008,9,10,1011,2012,13,14,3015]) [] H rfl rfl (by kernel_rfl) (by kernel_rfl) fun w H => ?_
 refine mbk [0,0,0,0] F H rfl ⟨fld163_0, trivial⟩ fun a F => ?_
 refine m_read F rfl rfl rfl rfl (y_loadA F agg96 rfl rfl (row_mid (A := ([] : List Value)) (X := icells .u32 s118.1) (C := [.slice p120 (s118.2).length c120, .int .u64 (((h.1, x6, IntKind.u64.wrap (h.2.2 + (IntKind.u64.wrap (((b).length : Int))))).2).2)]) (w := _) ((H.blk 2 rfl).row) rfl) ((icells_length _ _).trans hl119)) fun a F => ?_
 refine mbk [0,0,8] F H rfl ⟨fld163_1, trivial⟩ fun a F => ?_
 refine m_read F rfl rfl rfl rfl (y_load1 F plain26 rfl rfl (row_at (v := .slice p120 (s118.2).length c120) ((H.blk 2 rfl).row) (by simp [List.getElem?_append, icells_length, bcells_length, hl119]))) fun a F => ?_
 refine m_pure F rfl rfl rfl rfl (fun u hu => y_slH F elem26 rfl rfl rfl ex123 hc122) fun a F => ?_
 refine m_pure F rfl rfl rfl rfl (fun u hu => y_s2a F Tryz.underlying165 rfl rfl ex125 hp124) fun a F => ?_
 refine mbk [999] F H rfl ⟨rfl, (aggn agg165 ((bcells_length _).trans (arrO_some ex125).1)), trivial⟩ fun a F => ?_
 refine m_heavy rfl rfl ?_
 obtain ⟨x126, ex126, hm⟩ := ob hm
 refine sd F rfl ent96 (w_mix hl119 ((arrO_some ex125).1) ex126 (H.pm 5 [3,0,1,2,3,4] rfl:):) ?_; rintro _ w a ⟨rfl, hl127, H⟩ F
 refine lz ?_; refine ct ⟨⟨_, H⟩, ?_⟩
 refine mbk [0,0] F H rfl ⟨fld163_0, trivial⟩ fun a F => ?_
 refine m_last rfl rfl ?_
 refine s_storeF wkP F rfl rfl agg96 rfl rfl rfl H 2 rfl (A := ([] : List Value)) (X := icells .u32 s118.1) (C := [.slice p120 (s118.2).length c120, .int .u64 (((h.1, x6, IntKind.u64.wrap (h.2.2 + (IntKind.u64.wrap (((b).length : Int))))).2).2)]) rfl rfl ((icells_length _ _).trans hl119) ((icells_length _ _).trans hl127) (icells_flat _ _) fun w H => ?_
 refine lz ?_; refine ct ?_
 refine m_nil ?_
 refine ct (rl (bk [0,0,0,8] F H rfl ⟨fld163_1, trivial⟩ fun a F => ?_))
 refine sv F rfl (y_load1 F plain26 rfl rfl (row_at (v := .slice p120 (s118.2).length c120) ((H.blk 2 rfl).row) (by simp [List.getElem?_append, icells_length, bcells_length, hl127]))) fun a F => ?_
 obtain ⟨x129, ex129, hm⟩ := ob hm
 have hc128 := H.slCap 4 rfl
 replace H := H.slSubN 1 rfl 4 rfl ex129
 refine sv F rfl (y_slL F elem26 rfl rfl rfl ex129 hc128) fun a F => ?_
 refine bk [0,8] F H rfl ⟨fld163_1, trivial⟩ fun a F => ?_
 refine s_store1 wkP F rfl rfl zero26 rfl rfl rfl rfl rfl H 3 rfl (by simp [icells_length, bcells_length, hl127]) fun w H => ?_
 replace H : St w0 w (HP.sl rByte (shp p120 c120 (64 : Int).toNat 1) (c120 - (64 : Int).toNat) x129 :: HP.row b124 (o124) (bcells x123) :: HP.sl rByte (shp p120 c120 0 1) (c120 - 0) x123 :: HP.blk bo0 (icells .u32 x126 ++ ([Value.slice (shp p120 c120 (64 : Int).toNat 1) (x129).length (c120 - (64 : Int).toNat), Value.int .u64 (((h.1, x6, IntKind.u64.wrap (h.2.2 + (IntKind.u64.wrap (((b).length : Int))))).2).2)])) 163 :: HP.row 2 (0) (icells .u32 shaRounds) :: HP.sl rByte p120 c120 s118.2 :: l) := (by have h := H; simp only [List.set_append, icells_length, bcells_length, hl127] at h; simpa using h)
 refine lz (bn (ct ?_)); cases hm
 exact ⟨_, rfl, ⟨(shp p120 c120 (64 : Int).toNat 1), (c120 - (64 : Int).toNat), F.sl rfl, hl127, (H.pm 6 [3,4,0] rfl:)⟩⟩
 refine ex (cx (cx ?_)); cases hm; refine ⟨_, rfl, ?_⟩; rintro rfl
 refine ch (ct ?_)
 exact ⟨p120, c120, F.cut _ trivial, hl119, H⟩
 clear F H hm
 rintro a w ⟨p95, c95, F, hl94, H⟩; have hm := hm93; clear hm93
 replace H := O_sha_Hasher_1_s hl94 (H.pm 3 [0,2,1,2] rfl:)
 cases hm
 refine x_end0 F rfl ?_
 exact ⟨_, rfl, rfl, (H.pm 3 [0] rfl:)⟩
theorem build_163_0_1 : ∀ (s0 : List Int) (h0 : s0.length = 8) (p1 : Option Addr) (x1 : List UInt8) (c1 : Nat), Tryz.prog.built 163 [(0, .agg (icells .u32 s0).toArray), (1, .slice p1 (x1).length c1)] = some ((icells .u32 s0 ++ ([Value.slice p1 (x1).length c1, Value.int .u64 (0)]) : List Value)).toArray := fun s0 h0 p1 x1 c1 => match s0, h0 with | [a0_0, a0_1, a0_2, a0_3, a0_4, a0_5, a0_6, a0_7], _ => by kernel_rfl
theorem agz163 : AggT Tryz.prog 163 10 (icells .u32 (List.replicate 8 0) ++ ([Value.slice none (([] : List UInt8)).length 0, Value.int .u64 (0)])) := ⟨by rw [Tryz.underlying163]; rfl, by kernel_rfl, by kernel_rfl⟩
theorem agg163 : AggT Tryz.prog 163 10 [.int .u32 0, .int .u32 0, .int .u32 0, .int .u32 0, .int .u32 0, .int .u32 0, .int .u32 0, .int .u32 0, .slice none 0 0, .int .u64 0] := ⟨by rw [Tryz.underlying163]; rfl, by kernel_rfl, by kernel_rfl⟩
theorem ent71 : En Tryz.prog 71 := enters Tryz.func71 (by kernel_rfl) rfl
theorem w_shaHSum {h : T_sha_Hasher_o} {bo0 : Nat} {w0 w : World} {l : List HP}  {r : (List UInt8) × T_sha_Hasher_o} (hm : shaHSum h = some r) (H : St w0 w (HP.row 2 (0) (icells .u32 shaRounds) :: O_sha_Hasher_1 bo0 h :: l)) :
  Calls Tryz.prog 72 [.pointer (some ⟨bo0, 0, none⟩)].toArray w (fun e w' => ∃ v, e = .returned v ∧ v = .agg (bcells r.1).toArray ∧ ((r.1).length = 32) ∧ St w0 w' (O_sha_Hasher_1 bo0 r.2 :: l)) := by
 unfold shaHSum at hm
 refine x_enter Tryz.func72 rfl rfl rfl ?_
 intro a F
 refine sr (s_allocA wkP F rfl rfl rfl agz25 rfl H fun b2 w a H F => ?_)
 replace H := H.nf 3 rfl
 refine nl (sq ?_)
 obtain ⟨r17, er17, hm17⟩ := ob hm; clear hm; revert er17; intro hm
 refine x_mid (fun aa ww => ∃ (b18 : Nat) (p20 : Option Addr) (c20 : Nat), Fr ⟨78, []⟩ aa [(0, .pointer (some ⟨bo0, 0, none⟩)), (2, .pointer (some ⟨b2, 0, none⟩)), (3, .pointer (some ⟨b18, 0, none⟩))] ∧ ((h.1).length = 8) ∧ St w0 ww (HP.blk b2 (bcells (List.replicate 32 0)) 25 :: HP.row 2 (0) (icells .u32 shaRounds) :: O_sha_Hasher_1 bo0 h :: HP.blk b18 (icells .u32 h.1 ++ ([Value.slice p20 (r17).length c20, Value.int .u64 (0)])) 163 :: HP.ow rByte 5 p20 c20 r17 :: l)) ?_ ?_
 obtain ⟨p21, c22, hl23, H⟩ := O_sha_Hasher_1_o (H.pk 2 rfl)
 refine mix_region [4,9,11,12] [12] (.step 0 0 (.step 0 1 (.step 0 2 (.step 0 3 (.step 0 5 (.step 0 6 (.step 0 7 (.step 0 8 (.fork 4 (.fork 9 (.step 0 10 (.step 2 11 (.step 3 12 .done))) 11 (.step 2 9 (.step 0 10 (.step 3 12 .done)))) 11 (.step 2 4 (.step 2 9 (.step 0 10 (.step 3 12 .done))))))))))))) (fun u => ∃ ls, St w0 u (HP.blk bo0 (icells .u32 h.1 ++ ([Value.slice p21 (h.2.1).length c22, Value.int .u64 (h.2.2)])) 163 :: ls)) (by kernel_rfl) (by kernel_rfl) ⟨_, H.drew⟩ ?_
 replace H := H.drew
 generalize w.drew = w at H ⊢
 refine mbk [0,0,0] F H rfl ⟨fld163_0, trivial⟩ fun a F => ?_
 refine m_pure F rfl rfl rfl rfl (fun u hu => y_loadA F agg96 rfl rfl (row_mid (A := ([] : List Value)) (X := icells .u32 h.1) (C := [.slice p21 (h.2.1).length c22, .int .u64 (h.2.2)]) (w := _) ((hu.choose_spec.blk 0 rfl).row) rfl) ((icells_length _ _).trans hl23)) fun a F => ?_
 refine mbk [0,0,8] F H rfl ⟨fld163_1, trivial⟩ fun a F => ?_
 refine m_pure F rfl rfl rfl rfl (fun u hu => y_load1 F plain26 rfl rfl (row_at (v := .slice p21 (h.2.1).length c22) ((hu.choose_spec.blk 0 rfl).row) (by simp [List.getElem?_append, icells_length, bcells_length, hl23]))) fun a F => ?_
 refine m_fork rfl rfl rfl rfl ?_ ?_
 refine m_heavy rfl rfl ?_
 refine s_build0O (R := rByte) wkP F rfl rfl rfl elem26 rfl H fun b24 w a H F => ?_
 refine lz ?_; refine ct ⟨⟨_, (H.pm 5 [1,0,2,3,4] rfl:)⟩, ?_⟩
 refine m_fork rfl rfl rfl rfl ?_ ?_
 refine m_heavy rfl rfl ?_
 obtain ⟨x26, ex26, hm⟩ := ob hm
 refine s_app wkP F rfl rfl rfl rfl rfl rfl elem26 rfl ex26 H 0 2 rfl rfl fun p25 c25 w a H F => ?_
 refine lz ?_; refine ct ⟨⟨_, (H.pm 5 [1,0,2,3,4] rfl:)⟩, ?_⟩
 refine m_pure F rfl rfl rfl rfl (fun u hu => y_build F rfl rfl (cs := icells .u32 h.1 ++ ([Value.slice p25 (x26).length c25, Value.int .u64 (0)])) (build_163_0_1 h.1 hl23 p25 x26 c25)) fun a F => ?_
 refine m_heavy rfl rfl ?_
 replace H := H.owNil rByte 5
 refine s_allocA wkP F rfl rfl rfl agz163 rfl H fun b27 w a H F => ?_
 refine lz ?_; refine ct ⟨⟨_, (H.pm 7 [3,0,1,2,4,5,6] rfl:)⟩, ?_⟩
 refine m_last rfl rfl ?_
 refine s_storeA wkP F rfl rfl agg163 rfl rfl rfl H 0 rfl (by simp only [List.length_append, List.length_cons, List.length_nil, icells_length, bcells_length, hl23]) (by simp only [List.length_append, List.length_cons, List.length_nil, icells_length, bcells_length, (List.length_replicate (n := 8))]) (by intro v hv; simp only [List.mem_append, List.mem_cons, List.not_mem_nil, or_false] at hv; first | (rcases hv with h | h <;> first | (subst h; rfl) | exact bcells_flat _ _ h | exact icells_flat _ _ _ h | (rcases h with h | h <;> first | (subst h; rfl) | exact bcells_flat _ _ h | exact icells_flat _ _ _ h | (rcases h with h | h <;> first | (subst h; rfl) | exact bcells_flat _ _ h | (rcases h with h | h <;> first | (subst h; rfl) | (rcases h with h | h <;> (subst h; rfl)))))) | (subst hv; rfl)) fun w H => ?_
 refine lz ?_; refine ct ?_
 refine m_nil ?_
 replace H := O_sha_Hasher_1_s hl23 (H.pm 7 [3,4,0,1,2,4,5,6] rfl:)
 cases hm
 refine ct ?_
 exact ⟨b27, p25, c25, F.sl rfl, hl23, (H.pm 7 [5,6,0,1,3] rfl:)⟩
 refine m_heavy rfl rfl ?_
 replace H := H.owNil rByte 5
 refine s_allocA wkP F rfl rfl rfl agz163 rfl H fun b28 w a H F => ?_
 refine lz ?_; refine ct ⟨⟨_, (H.pm 7 [3,0,1,2,4,5,6] rfl:)⟩, ?_⟩
 refine m_heavy rfl rfl ?_
 obtain ⟨x30, ex30, hm⟩ := ob hm
 refine s_app wkP F rfl rfl rfl rfl rfl rfl elem26 rfl ex30 H 2 4 rfl rfl fun p29 c29 w a H F => ?_
 refine lz ?_; refine ct ⟨⟨_, (H.pm 7 [3,0,1,2,4,5,6] rfl:)⟩, ?_⟩
 refine m_pure F rfl rfl rfl rfl (fun u hu => y_build F rfl rfl (cs := icells .u32 h.1 ++ ([Value.slice p29 (x30).length c29, Value.int .u64 (0)])) (build_163_0_1 h.1 hl23 p29 x30 c29)) fun a F => ?_
 refine m_last rfl rfl ?_
 refine s_storeA wkP F rfl rfl agg163 rfl rfl rfl H 0 rfl (by simp only [List.length_append, List.length_cons, List.length_nil, icells_length, bcells_length, hl23]) (by simp only [List.length_append, List.length_cons, List.length_nil, icells_length, bcells_length, (List.length_replicate (n := 8))]) (by intro v hv; simp only [List.mem_append, List.mem_cons, List.not_mem_nil, or_false] at hv; first | (rcases hv with h | h <;> first | (subst h; rfl) | exact bcells_flat _ _ h | exact icells_flat _ _ _ h | (rcases h with h | h <;> first | (subst h; rfl) | exact bcells_flat _ _ h | exact icells_flat _ _ _ h | (rcases h with h | h <;> first | (subst h; rfl) | exact bcells_flat _ _ h | (rcases h with h | h <;> first | (subst h; rfl) | (rcases h with h | h <;> (subst h; rfl)))))) | (subst hv; rfl)) fun w H => ?_
 refine lz ?_; refine ct ?_
 refine m_nil ?_
 replace H := O_sha_Hasher_1_s hl23 (H.pm 7 [3,4,0,1,2,4,5,6] rfl:)
 cases hm
 refine ct ?_
 exact ⟨b28, p29, c29, F.sl rfl, hl23, (H.pm 7 [5,6,0,1,3] rfl:)⟩
 refine m_heavy rfl rfl ?_
 replace H := H.owNil rByte 5
 refine s_allocA wkP F rfl rfl rfl agz163 rfl H fun b31 w a H F => ?_
 refine lz ?_; refine ct ⟨⟨_, (H.pm 6 [2,0,1,3,4,5] rfl:)⟩, ?_⟩
 refine m_heavy rfl rfl ?_
 refine s_build0O (R := rByte) wkP F rfl rfl rfl elem26 rfl H fun b32 w a H F => ?_
 refine lz ?_; refine ct ⟨⟨_, (H.pm 7 [3,0,1,2,4,5,6] rfl:)⟩, ?_⟩
 refine m_heavy rfl rfl ?_
 obtain ⟨x34, ex34, hm⟩ := ob hm
 refine s_app wkP F rfl rfl rfl rfl rfl rfl elem26 rfl ex34 H 0 4 rfl rfl fun p33 c33 w a H F => ?_
 refine lz ?_; refine ct ⟨⟨_, (H.pm 7 [3,0,1,2,4,5,6] rfl:)⟩, ?_⟩
 refine m_pure F rfl rfl rfl rfl (fun u hu => y_build F rfl rfl (cs := icells .u32 h.1 ++ ([Value.slice p33 (x34).length c33, Value.int .u64 (0)])) (build_163_0_1 h.1 hl23 p33 x34 c33)) fun a F => ?_
 refine m_last rfl rfl ?_
 refine s_storeA wkP F rfl rfl agg163 rfl rfl rfl H 1 rfl (by simp only [List.length_append, List.length_cons, List.length_nil, icells_length, bcells_length, hl23]) (by simp only [List.length_append, List.length_cons, List.length_nil, icells_length, bcells_length, (List.length_replicate (n := 8))]) (by intro v hv; simp only [List.mem_append, List.mem_cons, List.not_mem_nil, or_false] at hv; first | (rcases hv with h | h <;> first | (subst h; rfl) | exact bcells_flat _ _ h | exact icells_flat _ _ _ h | (rcases h with h | h <;> first | (subst h; rfl) | exact bcells_flat _ _ h | exact icells_flat _ _ _ h | (rcases h with h | h <;> first | (subst h; rfl) | exact bcells_flat _ _ h | (rcases h with h | h <;> first | (subst h; rfl) | (rcases h with h | h <;> (subst h; rfl)))))) | (subst hv; rfl)) fun w H => ?_
 refine lz ?_; refine ct ?_
 refine m_nil ?_
 replace H := O_sha_Hasher_1_s hl23 (H.pm 7 [3,4,0,1,2,4,5,6] rfl:)
 cases hm
 refine ct ?_
 exact ⟨b31, p33, c33, F.sl rfl, hl23, (H.pm 7 [5,6,0,2,1] rfl:)⟩
 clear F H hm
 rintro a w ⟨b18, p20, c20, F, hl19, H⟩; have hm := hm17; clear hm17
 refine ct (sr ?_)
 obtain ⟨x36, ex36, hm⟩ := ob hm
 refine s_buildC wkP F rfl rfl rfl elem26 zero5 rfl rfl rfl rfl (by simp [Value.cells]) (by decide) H fun b35 w a H F => ?_
 replace H := H.blkOw1 (R := rByte) (x := x36) (fun gg => (congrArg (fun z => [Value.int .u8 z]) (u8O_some ex36).symm))
 refine bb [0] F H rfl fun a F => ?_
 replace H := H.nf 6 rfl
 refine nl (sq (xm2 6 [0,2,3] [1,2,3,4,5] F H hm rfl rfl (fun r68 (p69 : Option Addr) (c69 : Nat) z => (4, .slice p69 (r68).length c69) :: z) (fun r68 p69 c69 z => HP.ow rByte 5 p69 c69 r68 :: z) (fun r68 hm => ?_) (fun r68 a w hm p69 c69 F H => ?_)))
 refine bl (xl2 6 [0,2,3] [1,2,3,4,5] F H hm rfl rfl (fun (s90 : (List UInt8)) (p91 : Option Addr) (c91 : Nat) z => (4, .slice p91 (s90).length c91) :: z) (fun s90 p91 c91 z => HP.ow rByte 5 p91 c91 s90 :: z) ⟨(some ⟨b35, 0, none⟩), ([x36]).length, F.sl rfl, H⟩ (fun s90 a w o p91 c91 F H hm => ?_))
 refine sq (sr (bk [0,0,8] F H rfl ⟨fld163_1, trivial⟩ fun a F => ?_))
 obtain ⟨p92, c93, hl94, H⟩ := O_sha_Hasher_1_o (H.pk 3 rfl)
 refine sv F rfl (y_load1 F plain26 rfl rfl (row_at (v := .slice p92 (h.2.1).length c93) ((H.blk 0 rfl).row) (by simp [List.getElem?_append, icells_length, bcells_length, hl94]))) fun a F => ?_
 refine bk (List.replicate 5 0) F H rfl ⟨⟨_, Tryz.underlying26⟩, ⟨_, Tryz.underlying26⟩, trivial⟩ fun a F => ?_
 obtain ⟨x95, ex95, hm⟩ := ob hm
 refine sv F rfl (i_rem F rfl rfl rfl ex95) fun a F => ?_
 refine bb [0] F H rfl fun a F => ?_
 refine nl (cNm F rfl hm (fun hg96 hm => ?_) (fun hg96 hm => ?_))
 refine sk (ct (bl (rl (bb [0] F H rfl fun a F => ?_))))
 obtain ⟨x98, ex98, hm⟩ := ob hm
 refine s_buildC wkP F rfl rfl rfl elem26 zero5 rfl rfl rfl rfl (by simp [Value.cells]) (by decide) H fun b97 w a H F => ?_
 replace H := H.blkOw1 (R := rByte) (x := x98) (fun gg => (congrArg (fun z => [Value.int .u8 z]) (u8O_some ex98).symm))
 replace H := H.frz 0 rfl
 obtain ⟨x100, ex100, hm⟩ := ob hm
 refine s_app wkP F rfl rfl rfl rfl rfl rfl elem26 rfl ex100 H 3 0 rfl rfl fun p99 c99 w a H F => ?_
 refine bb [0] F H rfl fun a F => ?_
 replace H := H.nf 8 rfl
 refine lz (bn ?_)
 replace H := O_sha_Hasher_1_s hl94 (H.pm 8 [1,2,0,2,3,4,5,6,7] rfl:)
 refine ct ?_; cases hm
 exact ⟨_, rfl, ⟨p99, c99, F.sl rfl, (H.pm 8 [3,4,5,0,6,7] rfl:)⟩⟩
 refine ex (cx (cx ?_)); cases hm; refine ⟨_, rfl, ?_⟩; rintro rfl
 refine ch ?_
 replace H := O_sha_Hasher_1_s hl94 (H.pm 7 [0,1,1,2,3,4,5,6] rfl:)
 refine ct ?_
 exact ⟨p91, c91, F.sl rfl, (H.pm 7 [2,3,4,0,5,6] rfl:)⟩
 refine ct (sr (bk [0,0,9] F H rfl ⟨fld163_2, trivial⟩ fun a F => ?_))
 obtain ⟨p101, c102, hl103, H⟩ := O_sha_Hasher_1_o (H.pk 3 rfl)
 refine sv F rfl (y_load1 F plain116 rfl rfl (row_at (v := .int .u64 (h.2.2)) ((H.blk 0 rfl).row) (by simp [List.getElem?_append, icells_length, bcells_length, hl103]))) fun a F => ?_
 refine bb [0,0] F H rfl fun a F => ?_
 refine nl (sq (sb [0] F H rfl fun a F => ?_))
 refine nl ?_
 replace H := O_sha_Hasher_1_s hl103 (H.pm 7 [0,1,1,2,3,4,5,6] rfl:)
 refine xm2 7 [2,3] [0,3,4,5,6] F H hm rfl rfl (fun r126 (p127 : Option Addr) (c127 : Nat) z => (4, .slice p127 (r126).length c127) :: z) (fun r126 p127 c127 z => HP.ow rByte 5 p127 c127 r126 :: z) (fun r126 hm => ?_) (fun r126 a w hm p127 c127 F H => ?_)
 refine bl (xl2 7 [2,3,5] [0,3,4,5,6] F H hm rfl rfl (fun (s142 : (List UInt8) × Int) (p143 : Option Addr) (c143 : Nat) z => (4, .slice p143 (s142.1).length c143) :: (6, .int .i64 (s142.2)) :: z) (fun s142 p143 c143 z => HP.ow rByte 5 p143 c143 s142.1 :: z) ⟨p69, c69, F.sl rfl, (H.pm 7 [2,0,3,4,5,6] rfl:)⟩ (fun s142 a w o p143 c143 F H hm => ?_))
 refine sq (sb [0,0] F H rfl fun a F => ?_)
 refine nl (cPm F rfl hm (fun hg144 hm => ?_) (fun hg144 hm => ?_))
 refine sk (ct (sq (bl (rl (bb [0,0,0,0] F H rfl fun a F => ?_)))))
 obtain ⟨x145, ex145, hm⟩ := ob hm
 refine sv F rfl (i_shrO F rfl rfl rfl ex145) fun a F => ?_
 refine bk [1] F H rfl ⟨Tryz.underlying116, Tryz.underlying5, trivial⟩ fun a F => ?_
 obtain ⟨x147, ex147, hm⟩ := ob hm
 refine s_buildC wkP F rfl rfl rfl elem26 zero5 rfl rfl rfl rfl (by simp [Value.cells]) (by decide) H fun b146 w a H F => ?_
 replace H := H.blkOw1 (R := rByte) (x := x147) (fun gg => (congrArg (fun z => [Value.int .u8 z]) (u8O_some ex147).symm))
 replace H := H.frz 0 rfl
 obtain ⟨x149, ex149, hm⟩ := ob hm
 refine s_app wkP F rfl rfl rfl rfl rfl rfl elem26 rfl ex149 H 1 0 rfl rfl fun p148 c148 w a H F => ?_
 refine bb [0] F H rfl fun a F => ?_
 replace H := H.nf 7 rfl
 refine lz (bn (ct (rl (bb [0,0,0] F H rfl fun a F => ?_))))
 refine lz (ct ?_); cases hm
 exact ⟨_, rfl, ⟨p148, c148, F.sl rfl, (H.pm 7 [1,2,3,4,5,6] rfl:)⟩⟩
 refine ex (cx (cx ?_)); cases hm; refine ⟨_, rfl, ?_⟩; rintro rfl
 refine ch (ct ?_)
 exact ⟨p143, c143, F.sl rfl, H⟩
 refine ct (sb [0] F H rfl fun a F => ?_)
 replace H := O_sha_Hasher_s hl19 (H.pm 6 [4,5,0,1,2,3] rfl:)
 replace H := H.frz 1 rfl
 obtain ⟨x150, ex150, hm⟩ := ob hm
 refine sd F rfl ent71 (w_shaAdd ex150 (H.pm 5 [4,1,0,0,2,3,4] rfl:):) ?_; rintro _ w a ⟨rfl, H⟩ F
 replace H := H.nf 5 rfl
 refine nl (sq (sr (bk [0] F H rfl ⟨fld163_0, trivial⟩ fun a F => ?_)))
 obtain ⟨p151, c152, hl153, H⟩ := O_sha_Hasher_1_o (H.pk 0 rfl)
 refine sv F rfl (y_loadA F agg96 rfl rfl (row_mid (A := ([] : List Value)) (X := icells .u32 x150.1) (C := [.slice p151 (x150.2.1).length c152, .int .u64 (x150.2.2)]) (w := _) ((H.blk 0 rfl).row) rfl) ((icells_length _ _).trans hl153)) fun a F => ?_
 refine bb [0] F H rfl fun a F => ?_
 refine nl ?_
 replace H := O_sha_Hasher_1_s hl153 (H.pm 6 [0,1,1,2,3,4,5] rfl:)
 obtain ⟨r284, er284, hm284⟩ := ob hm; clear hm; revert er284; intro hm
 refine x_mid (fun aa ww => Fr ⟨78, []⟩ aa [(2, .pointer (some ⟨b2, 0, none⟩))] ∧ ((r284).length = 32) ∧ St w0 ww (O_sha_Hasher_1 b18 x150 :: O_sha_Hasher_1 bo0 h :: HP.blk b2 (bcells r284) 25 :: HP.row 2 (0) (icells .u32 shaRounds) :: l)) ?_ ?_
 refine bl ?_
 refine x_loopO _ (fun (s372 : (List UInt8) × Int) aa ww => Fr ⟨78, []⟩ aa [(2, .pointer (some ⟨b2,0, none⟩)), (56, .agg (icells .u32 x150.1).toArray), (57, .int .i64 (s372.2))] ∧ ((s372.1).length = 32) ∧ St w0 ww (O_sha_Hasher_1 b18 x150 :: O_sha_Hasher_1 bo0 h :: HP.blk b2 (bcells s372.1) 25 :: HP.row 2 (0) (icells .u32 shaRounds) :: l)) hm ⟨F.sl rfl, (List.length_replicate (n := 32)), (H.pm 6 [0,3,4,5] rfl:)⟩ ?_
 clear F H hm
 rintro s372 a w o ⟨F, hl373, H⟩ hm
 refine sb [0] F H rfl fun a F => ?_
 refine nl (sq (cPm F rfl hm (fun hg374 hm => ?_) (fun hg374 hm => ?_)))
 refine sk (ct (sq (bl (sb [0] F H rfl fun a F => ?_))))
 obtain ⟨x375, ex375, hm⟩ := ob hm
 refine sv F rfl (y_idxV F arr96 plain93 rfl rfl rfl (icells_idx ex375) ((icells_length _ _).trans hl153)) fun a F => ?_
 refine bb [0,0] F H rfl fun a F => ?_
 refine nb [0] F H rfl fun a F => ?_
 refine nl ?_
 obtain ⟨r395, er395, hm395⟩ := ob hm; clear hm; revert er395; intro hm
 refine x_mid (fun aa ww => Fr ⟨78, []⟩ aa [(2, .pointer (some ⟨b2, 0, none⟩)), (56, .agg (icells .u32 x150.1).toArray), (57, .int .i64 (s372.2))] ∧ ((r395).length = 32) ∧ St w0 ww (O_sha_Hasher_1 b18 x150 :: O_sha_Hasher_1 bo0 h :: HP.blk b2 (bcells r395) 25 :: HP.row 2 (0) (icells .u32 shaRounds) :: l)) ?_ ?_
 refine bl ?_
 refine x_loopO _ (fun (s409 : (List UInt8) × Int) aa ww => Fr ⟨78, []⟩ aa [(2, .pointer (some ⟨b2, 0, none⟩)), (7, .int .i64 (s372.2)), (8, .int .u32 (x375)), (56, .agg (icells .u32 x150.1).toArray), (57, .int .i64 (s372.2)), (61, .int .i64 (s409.2))] ∧ ((s409.1).length = 32) ∧ St w0 ww (O_sha_Hasher_1 b18 x150 :: O_sha_Hasher_1 bo0 h :: HP.blk b2 (bcells s409.1) 25 :: HP.row 2 (0) (icells .u32 shaRounds) :: l)) hm ⟨F.sl rfl, hl373, H⟩ ?_
 clear F H hm
 rintro s409 a w o ⟨F, hl410, H⟩ hm
 refine sb [0] F H rfl fun a F => ?_
 refine nl (sq (cPm F rfl hm (fun hg411 hm => ?_) (fun hg411 hm => ?_)))
 refine sk (ct (sq (bl (sb [0,0] F H rfl fun a F => ?_))))
 refine nl (rl (bb (List.replicate 8 0) F H rfl fun a F => ?_))
 obtain ⟨x412, ex412, hm⟩ := ob hm
 refine sv F rfl (i_shrO F rfl rfl rfl ex412) fun a F => ?_
 refine bk [1] F H rfl ⟨Tryz.underlying93, Tryz.underlying5, trivial⟩ fun a F => ?_
 obtain ⟨x413, ex413, hm⟩ := ob hm
 refine sv F rfl (y_idxA F arr25 rfl rfl rfl ex413 hl410) fun a F => ?_
 obtain ⟨x415, ex415, hm⟩ := ob hm
 refine s_stB wkP F rfl rfl zero5 rfl rfl rfl ex415 H 2 rfl ex413 fun w H => ?_
 replace H := H.nf 4 rfl
 refine lz (bn (ct (rl (bb [0,0] F H rfl fun a F => ?_))))
 refine lz (ct ?_); cases hm
 exact ⟨_, rfl, ⟨F.sl rfl, ((List.length_set ..).trans hl410), H⟩⟩
 refine ex (cx (cx ?_)); cases hm; refine ⟨_, rfl, ?_⟩; rintro rfl
 refine ch (ct ?_)
 exact ⟨F.sl rfl, hl410, H⟩
 clear F H hm
 rintro a w ⟨F, hl396, H⟩; have hm := hm395; clear hm395
 refine bn (ct (rl (bb [0,0] F H rfl fun a F => ?_)))
 refine lz (ct ?_); cases hm
 exact ⟨_, rfl, ⟨F.sl rfl, hl396, H⟩⟩
 refine ex (cx (cx ?_)); cases hm; refine ⟨_, rfl, ?_⟩; rintro rfl
 refine ch (ct ?_)
 exact ⟨F.sl rfl, hl373, H⟩
 clear F H hm
 rintro a w ⟨F, hl285, H⟩; have hm := hm284; clear hm284
 refine ct (sr (bk [2999] F H rfl ⟨rfl, (aggn agg25 ((bcells_length _).trans hl285)), trivial⟩ fun a F => ?_))
 refine s_storeA wkP F rfl rfl agg25 rfl rfl rfl H 2 rfl ((bcells_length _).trans hl285) ((bcells_length _).trans hl285) (bcells_flat _) fun w H => ?_
 replace H := H.nf 4 rfl
 refine nl (wr ?_)
 cases hm
 refine x_resC1 F rfl (⟨_, rfl, agg25.run_load (H.blk 2 rfl).row ((bcells_length _).trans hl285)⟩) ?_
 exact ⟨_, rfl, rfl, hl285, (H.pm 4 [1] rfl:)⟩
theorem ent70 : En Tryz.prog 70 := enters Tryz.func70 (by kernel_rfl) rfl
theorem ent72 : En Tryz.prog 72 := enters Tryz.func72 (by kernel_rfl) rfl
theorem w_shaSum {b : List UInt8} {p1 : Option Addr} {c1 : Nat} {w0 w : World} {l : List HP}  {r : (List UInt8)} (hm : shaSum b = some r) (H : St w0 w (HP.row 1 (0) (icells .u32 shaStart) :: HP.row 2 (0) (icells .u32 shaRounds) :: HP.sl rByte p1 c1 b :: l)) :
  Calls Tryz.prog 56 [.slice p1 (b).length c1].toArray w (fun e w' => ∃ v, e = .returned v ∧ v = .agg (bcells r).toArray ∧ ((r).length = 32) ∧ St w0 w' (l)) := by
 unfold shaSum at hm
 refine x_enter Tryz.func56 rfl rfl rfl ?_
 intro a F
 refine sr (s_allocA wkP F rfl rfl rfl agz25 rfl H fun b3 w a H F => ?_)
 replace H := H.nf 4 rfl
 refine nl (sr ?_)
 obtain ⟨x4, ex4, hm⟩ := ob hm
 refine sd F rfl ent70 (w_shaNew ex4 (H.pm 4 [1,0,1,2,3] rfl:):) ?_; rintro _ w a ⟨b5, rfl, H⟩ F
 refine bb [0] F H rfl fun a F => ?_
 replace H := H.nf 5 rfl
 refine nb [0,0] F H rfl fun a F => ?_
 obtain ⟨x6, ex6, hm⟩ := ob hm
 refine sd F rfl ent71 (w_shaAdd ex6 (H.pm 5 [3,0,4,1,2,3,4] rfl:):) ?_; rintro _ w a ⟨rfl, H⟩ F
 replace H := H.nf 5 rfl
 refine nb [0] F H rfl fun a F => ?_
 obtain ⟨x7, ex7, hm⟩ := ob hm
 refine sd F rfl ent72 (w_shaHSum ex7 (H.pm 5 [3,0,1,2,3,4] rfl:):) ?_; rintro _ w a ⟨rfl, hl8, H⟩ F
 refine s_storeA wkP F rfl rfl agg25 rfl rfl rfl H 1 rfl ((bcells_length _).trans hl8) ((bcells_length _).trans (List.length_replicate (n := 32))) (bcells_flat _) fun w H => ?_
 replace H := H.nf 5 rfl
 refine nl (wr ?_)
 cases hm
 refine x_resC1 F rfl (⟨_, rfl, agg25.run_load (H.blk 1 rfl).row ((bcells_length _).trans hl8)⟩) ?_
 exact ⟨_, rfl, rfl, hl8, (H.pm 5 [] rfl:)⟩
end Go.Proofs.YtnjemlkcamdbfaaGreatDoor
