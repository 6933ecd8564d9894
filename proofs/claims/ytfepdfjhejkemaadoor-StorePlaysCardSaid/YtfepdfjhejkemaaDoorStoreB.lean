/- store -/
import Derived.Test.YtfepdfjhejkemaaDoorKeyA
set_option linter.unusedSimpArgs false
set_option linter.unusedVariables false
namespace Go.Proofs.YtfepdfjhejkemaaDoor
open Go.RowKit Go.Tri
theorem ent44 : ∀ args w, (callFunc 44 args).run Tryd.prog w = .ok (.enter 44 args) w := enters Tryd.func44 (by kernel_rfl) rfl
theorem ent43 : ∀ args w, (callFunc 43 args).run Tryd.prog w = .ok (.enter 43 args) w := enters Tryd.func43 (by kernel_rfl) rfl
theorem ent69 : ∀ args w, (callFunc 69 args).run Tryd.prog w = .ok (.enter 69 args) w := enters Tryd.func69 (by kernel_rfl) rfl
set_option maxRecDepth 100000 in
set_option maxHeartbeats 4000000 in
theorem w_stHashes {s : T_disk_Disk_o × ((List UInt8) → Option Int) × (Int → Option (List UInt8)) × ((List UInt8) → Option Int)} {bo0 : Nat} {bo0_0 : Nat} {w0 w : World} {l : List HP}  {r : (List (List UInt8))} (hm : stHashes s = some r) (H : St w0 w (O_store_Store bo0 bo0_0 s.2 :: O_disk_Disk bo0_0 s.1 :: l)) :
  Calls Tryd.prog 18 [.pointer (some ⟨bo0, 0, none⟩)].toArray w (fun e w' => ∃ v, e = .returned v ∧ ∃ (p1 : Option Addr) (c1 : Nat), v = .slice p1 (r).length c1 ∧ St w0 w' (HP.ow (rBytesN 32) 35 p1 c1 r :: O_store_Store bo0 bo0_0 s.2 :: O_disk_Disk bo0_0 s.1 :: l)) := by
 unfold stHashes at hm
 refine x_enter Tryd.func18 rfl rfl rfl ?_
 intro a F
 refine sr (bk [0] F H rfl trivial ?_); clear F; intro a F
 refine nl (sr (bk [0, 0, 1] F H rfl ⟨fld75_1, trivial⟩ ?_)); clear F; intro a F
 obtain ⟨m2, m3, m4, H⟩ := O_store_Store_o (H.pk 0 rfl)
 refine bk [1] F H rfl ⟨rfl, plain72, trivial⟩ ?_; clear F; intro a F
 refine s_call wkP F rfl rfl rfl rfl (y_call F rfl rfl ent44) (w_mk44 (some m2) w0 _ _ H) ?_; clear F H; rintro _ w a ⟨b5, rfl, H⟩ F
 obtain ⟨x7, ex7, hm⟩ := ob hm
 refine s_call wkP F rfl rfl rfl rfl (y_call F rfl rfl ent43) (w_sortedFunc43 ex7 (seq69 b5 (some m2) _) ent69 w_cmpc45 ent45 (H.pm 6 [0, 2, 1, 3, 4, 5] rfl:)) ?_; clear F H; rintro _ w a ⟨p6, c6, rfl, H⟩ F
 refine bk [0] F H rfl trivial ?_; clear F; intro a F
 replace H := H.nf 7 rfl
 refine nl (wr ?_)
 replace H := O_store_Store_s (H.pm 7 [3, 2, 4, 5, 0, 1, 6] rfl:)
 cases hm
 refine x_ret1 F rfl rfl ?_
 exact ⟨_, rfl, p6, c6, rfl, (H.pm 4 [1, 0, 3] rfl:)⟩
end Go.Proofs.YtfepdfjhejkemaaDoor
