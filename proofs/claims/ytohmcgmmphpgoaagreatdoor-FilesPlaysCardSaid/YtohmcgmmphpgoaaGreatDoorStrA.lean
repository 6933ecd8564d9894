/- texts -/
import Derived.Test.YtohmcgmmphpgoaaGreatDoorMod
import Derived.Test.YtohmcgmmphpgoaaGreatDoorProg
import Derived.Test.YtohmcgmmphpgoaaGreatDoorStr
import Derived.Test.YtohmcgmmphpgoaaGreatDoorShelf
set_option linter.unusedSimpArgs false
set_option linter.unusedVariables false
namespace Go.Proofs.YtohmcgmmphpgoaaGreatDoor
open Go.RowKit Go.Tri
theorem w_cutPre {s : List UInt8} {p : List UInt8}  {w0 w : World} {l : List HP}  {r : (List UInt8) × Bool} (hm : cutPre s p = some r) (H : St w0 w (l)) :
  Calls Tryz.prog 88 [.string (txb (s)), .string (txb (p))].toArray w (fun e w' => ∃ v, e = .returned v ∧ v = .tuple [.string (txb (r.1)), .bool (r.2)].toArray ∧ St w0 w' (l)) := by
 unfold cutPre at hm
 cases hm
 exact (Tryz.strings_CutPrefix (txb s) (txb p) w).mono fun e w' ⟨he, hw⟩ => ⟨_, by rw [he, txb_list, txb_list]; rfl, rfl, hw ▸ H⟩
theorem w_genSplit {s : List UInt8} {sep : List UInt8} {sv : Int} {n : Int}  {w0 w : World} {l : List HP}  {r : (List (List UInt8))} (hm : genSplit s sep sv n = some r) (H : St w0 w (l)) :
  Calls Tryz.prog 114 [.string (txb (s)), .string (txb (sep)), .int .i64 (sv), .int .i64 (n)].toArray w (fun e w' => ∃ v, e = .returned v ∧ ∃ (p1 : Option Addr) (c1 : Nat), v = .slice p1 (r).length c1 ∧ St w0 w' (HP.ow rStr 9 p1 c1 r :: l)) := by
 unfold genSplit at hm
 obtain ⟨rfl, rfl, rfl, hl, rfl⟩ := splitO_some hm
 have hsz : (txb s).size < 4294967281 := by rw [txb_size]; omega
 have hC : Calls Tryz.prog 128 #[.string (txb s), .string ⟨#[47]⟩] w fun e w' => e = .returned (.int .i64 (Lib.countB (txb s) ⟨#[47]⟩)) ∧ w' = w := by
   refine (Tryz.strings_Count_one (txb s) 47 w).mono fun e w' ⟨he, hw⟩ => ⟨?_, hw⟩
   rw [he]
   show _ = Ending.returned (Value.int .i64 ((Lib.count (txb s).data.toList [47] : Nat) : Int))
   rw [Lib.count_one]
   rfl
 have hle := Lib.countB_le (⟨#[47]⟩ : ByteArray) (by decide) (txb s).size (txb s) (Nat.le_refl _)
 have c := Any.strings_genSplit_core Tryz.lays221 (by kernel_rfl) (txb s) ⟨#[47]⟩ 0 (-1) (Lib.countB (txb s) ⟨#[47]⟩ + 1) w hsz (by decide) (by decide)
   (fun x c hx => (Tryz.strings_Index_one x 47 _).mono fun e w' ⟨he, hw⟩ => ⟨by
     rw [he]
     show _ = Ending.returned (Value.int .i64 (Lib.index x.data.toList [47]))
     rw [Lib.index_one], hw⟩) hC (by decide) (by decide) (by rw [if_pos (by decide)]; omega)
 have hlen := Lib.splitB_all (⟨#[47]⟩ : ByteArray) (by decide) 0 _ (txb s) rfl
 rw [Nat.add_sub_cancel, hlen] at c
 have hd := Lib.splitB_data (⟨#[47]⟩ : ByteArray) 0 (Lib.countB (txb s) ⟨#[47]⟩) (txb s)
 have e0 : (⟨#[47]⟩ : ByteArray).data.toList = [47] := rfl
 rw [e0, txb_list] at hd
 have hcb : Lib.countB (txb s) ⟨#[47]⟩ = Lib.count s [47] := by
   show Lib.count (txb s).data.toList [47] = _
   rw [txb_list]
 rw [hcb] at hd hlen c
 rw [split_sp] at hd
 have hB : Lib.splitB ⟨#[47]⟩ 0 (Lib.count s [47]) (txb s) = (sp s).map txb := by
   have : ((sp s).map txb).map (·.data.toList) = sp s := by
     rw [List.map_map]
     conv => rhs; rw [← List.map_id (sp s)]
     exact List.map_congr_left fun x _ => txb_list x
   rw [← hd, List.map_map]
   conv => lhs; rw [← List.map_id (Lib.splitB ⟨#[47]⟩ 0 (Lib.count s [47]) (txb s))]
   exact List.map_congr_left fun x _ => (txb_data x).symm
 have hn : (sp s).length = Lib.count s [47] + 1 := by rw [← hlen, hB, List.length_map]
 have hx : Lib.cellsOf (Lib.splitB ⟨#[47]⟩ 0 (Lib.count s [47]) (txb s)) (Lib.count s [47] + 1) = ((sp s).map fun x => Value.string (txb x)).toArray := by
   rw [← hlen, Lib.cellsOf_full, hB, List.map_map]; rfl
 rw [hx] at c
 rw [← hn] at c
 refine c.mono fun e w' ⟨he, hw⟩ => ⟨_, he, _, _, rfl, ?_⟩
 subst hw
 have hm2 : (sp s).length ≤ maxLen := by
   have h1 : Lib.countB (txb s) ⟨#[47]⟩ ≤ (txb s).size := hle
   rw [hcb, txb_size] at h1
   unfold maxLen; omega
 exact H.newTexts 9 (sp s) hm2
theorem w_strJoin {xs : List (List UInt8)} {sep : List UInt8} {p1 : Option Addr} {c1 : Nat} {w0 w : World} {l : List HP}  {r : (List UInt8)} (hm : strJoin xs sep = some r) (H : St w0 w (HP.sl rStr p1 c1 xs :: l)) :
  Calls Tryz.prog 93 [.slice p1 (xs).length c1, .string (txb (sep))].toArray w (fun e w' => ∃ v, e = .returned v ∧ v = .string (txb (r)) ∧ St w0 w' (l)) := by
 unfold strJoin at hm
 obtain ⟨rfl, hx, hj, rfl⟩ := joinO_some hm
 have hsl : Sl w (.slice p1 (xs).length c1) (xs).length (xs.map fun l => Value.string (txb l)) := by
   obtain ⟨B, S, hs, ⟨css, h1, h2⟩, _⟩ := H.get 0 rfl
   have h3 := h2 w hs
   have h4 : ∀ (css : List (List Value)) (xs : List (List UInt8)), RdL rStr B css xs → css.flatten = xs.map fun l => Value.string (txb l) := by
     intro css
     induction css with
     | nil => intro xs h; cases xs with
       | nil => rfl
       | cons x xs => exact h.elim
     | cons c css ih => intro xs h; cases xs with
       | nil => exact h.elim
       | cons x xs =>
         obtain ⟨e1, e2⟩ := h
         have e1 : c = [.string (txb x)] := e1
         simp [e1, ih xs e2]
   rwa [h4 css xs h1] at h3
 have hcap := H.slCap 0 rfl
 cases xs with
 | nil => exact (Tryz.strings_Join_none p1 c1 ⟨#[47]⟩ w).mono fun e w' ⟨he, hw⟩ => ⟨_, he, rfl, hw ▸ H.tail⟩
 | cons x r =>
   obtain ⟨b, off, rfl, hrow⟩ := hsl.rowAt (c := c1) rfl (by simp)
   have hd : ((x :: r).map txb).map (·.data.toList) = x :: r := by
     rw [List.map_map]
     conv => rhs; rw [← List.map_id (x :: r)]
     exact List.map_congr_left fun y _ => txb_list y
   have hcells : ∀ (j : Nat) y, ((x :: r).map txb)[j]? = some y → w.cell? ⟨b, off + j, none⟩ = some (.string y) := by
     intro j y hy
     refine hrow j _ ?_
     rw [List.getElem?_map] at hy ⊢
     cases hz : (x :: r)[j]? with
     | none => rw [hz] at hy; cases hy
     | some z => rw [hz] at hy; cases hy; rfl
   have h0 := hcells 0 (txb x) rfl
   have e0 : (⟨#[47]⟩ : ByteArray).data.toList = [47] := rfl
   have c := Tryz.strings_Join b off c1 ((x :: r).map txb) ⟨#[47]⟩ w hcells (World.block_lt_of_cell? _ _ h0) (by simp at hx ⊢; omega) (by simpa using hcap) (by rw [hd, e0]; unfold jn at hj; omega)
   rw [hd, e0, List.length_map] at c
   exact c.mono fun e w' ⟨he, hw⟩ => ⟨_, he, rfl, (H.below hw).tail⟩
theorem w_slIndex {s : List UInt8} {p : List UInt8}  {w0 w : World} {l : List HP}  {r : Int} (hm : slIndex s p = some r) (H : St w0 w (l)) :
  Calls Tryz.prog 87 [.string (txb (s)), .string (txb (p))].toArray w (fun e w' => ∃ v, e = .returned v ∧ v = .int .i64 (r) ∧ St w0 w' (l)) := by
 unfold slIndex at hm
 obtain ⟨c, rfl, rfl⟩ := indexO_some hm
 exact (Tryz.stringslite_Index_one (txb s) c w).mono fun e w' ⟨he, hw⟩ => ⟨_, by rw [he, txb_list], rfl, hw ▸ H⟩
theorem ent87 : ∀ args w, (callFunc 87 args).run Tryz.prog w = .ok (.enter 87 args) w := enters Tryz.func87 (by kernel_rfl) rfl
set_option maxRecDepth 100000 in
set_option maxHeartbeats 4000000 in
theorem w_m_internal_stringslite_Cut {x0_ : List UInt8} {x1_ : List UInt8}  {w0 w : World} {l : List HP}  {r : (List UInt8) × (List UInt8) × Bool} (hm : m_internal_stringslite_Cut x0_ x1_ = some r) (H : St w0 w (l)) :
  Calls Tryz.prog 72 [.string (txb (x0_)), .string (txb (x1_))].toArray w (fun e w' => ∃ v, e = .returned v ∧ v = .tuple [.string (txb (r.1)), .string (txb (r.2.1)), .bool (r.2.2)].toArray ∧ St w0 w' (l)) := by
 unfold m_internal_stringslite_Cut at hm
 refine x_enter Tryz.func72 rfl rfl rfl ?_
 intro a F
 refine sr (bk [0, 0, 0] F H rfl trivial ?_); clear F; intro a F
 refine nl (sq (sr (bk [0, 0] F H rfl trivial ?_))); clear F; intro a F
 obtain ⟨x1, ex1, hm⟩ := ob hm
 refine sc wkP F rfl ent87 (w_slIndex ex1 H:) ?_; clear F H; rintro _ w a ⟨rfl, H⟩ F
 refine bk [0] F H rfl trivial ?_; clear F; intro a F
 refine nl (sr (bk [0, 0] F H rfl trivial ?_)); clear F; intro a F
 refine nl (cP F rfl (fun hg2 => ?_) (fun hg2 => ?_))
 replace hm := ifT hg2 hm
 refine sq ?_
 obtain ⟨x3, ex3, hm⟩ := ob hm
 obtain ⟨x4, ex4, hm⟩ := ob hm
 refine qr H (by kernel_rfl) (by kernel_rfl) ?_
 refine qbk [0, 0] F rfl trivial ?_; clear F; intro a F
 refine q_val F rfl rfl rfl (fun u hu => y_slTH F rfl Tryz.underlying9 rfl rfl ex3) ?_; clear F; intro a F
 refine qbk [0, 0, 0] F rfl trivial ?_; clear F; intro a F
 refine q_val F rfl rfl rfl (fun u hu => y_lenT (l := x1_) F rfl Tryz.underlying9 rfl) ?_; clear F; intro a F
 refine qbk [0] F rfl trivial ?_; clear F; intro a F
 refine q_val F rfl rfl rfl (fun u hu => y_slTL F rfl Tryz.underlying9 rfl rfl ex4) ?_; clear F; intro a F
 refine qbk [0, 0, 0] F rfl trivial ?_; clear F; intro a F
 refine q_nil ?_; clear H; intro w H
 refine ct (wr (tr ?_))
 cases hm
 refine x_ret3 F rfl rfl rfl rfl ?_
 exact ⟨_, rfl, rfl, H⟩
 replace hm := ifF hg2 hm
 refine sk (ct (sr (bk [0, 0, 0, 0] F H rfl trivial ?_))); clear F; intro a F
 refine nl (wr ?_)
 cases hm
 refine x_ret3 F rfl rfl rfl rfl ?_
 exact ⟨_, rfl, rfl, H⟩
theorem ent72 : ∀ args w, (callFunc 72 args).run Tryz.prog w = .ok (.enter 72 args) w := enters Tryz.func72 (by kernel_rfl) rfl
set_option maxRecDepth 100000 in
set_option maxHeartbeats 4000000 in
theorem w_m_strings_Cut {x0_ : List UInt8} {x1_ : List UInt8}  {w0 w : World} {l : List HP}  {r : (List UInt8) × (List UInt8) × Bool} (hm : m_strings_Cut x0_ x1_ = some r) (H : St w0 w (l)) :
  Calls Tryz.prog 48 [.string (txb (x0_)), .string (txb (x1_))].toArray w (fun e w' => ∃ v, e = .returned v ∧ v = .tuple [.string (txb (r.1)), .string (txb (r.2.1)), .bool (r.2.2)].toArray ∧ St w0 w' (l)) := by
 unfold m_strings_Cut at hm
 refine x_enter Tryz.func48 rfl rfl rfl ?_
 intro a F
 refine sr (bk [0, 0, 0] F H rfl trivial ?_); clear F; intro a F
 refine nl (sr (bk [0, 0] F H rfl trivial ?_)); clear F; intro a F
 obtain ⟨x1, ex1, hm⟩ := ob hm
 refine sc wkP F rfl ent72 (w_m_internal_stringslite_Cut ex1 H:) ?_; clear F H; rintro _ w a ⟨rfl, H⟩ F
 refine bk (List.replicate 6 0) F H rfl trivial ?_; clear F; intro a F
 refine nl (wr ?_)
 cases hm
 refine x_ret3 F rfl rfl rfl rfl ?_
 exact ⟨_, rfl, rfl, H⟩
theorem ent114 : ∀ args w, (callFunc 114 args).run Tryz.prog w = .ok (.enter 114 args) w := enters Tryz.func114 (by kernel_rfl) rfl
set_option maxRecDepth 100000 in
set_option maxHeartbeats 4000000 in
theorem w_strSplit {s : List UInt8} {sep : List UInt8}  {w0 w : World} {l : List HP}  {r : (List (List UInt8))} (hm : strSplit s sep = some r) (H : St w0 w (l)) :
  Calls Tryz.prog 89 [.string (txb (s)), .string (txb (sep))].toArray w (fun e w' => ∃ v, e = .returned v ∧ ∃ (p1 : Option Addr) (c1 : Nat), v = .slice p1 (r).length c1 ∧ St w0 w' (HP.ow rStr 9 p1 c1 r :: l)) := by
 unfold strSplit at hm
 refine x_enter Tryz.func89 rfl rfl rfl ?_
 intro a F
 refine sr (bk [0] F H rfl trivial ?_); clear F; intro a F
 refine nl (sr (bk [0, 0] F H rfl trivial ?_)); clear F; intro a F
 obtain ⟨x2, ex2, hm⟩ := ob hm
 refine sc wkP F rfl ent114 (w_genSplit ex2 H:) ?_; clear F H; rintro _ w a ⟨p3, c3, rfl, H⟩ F
 refine bk [0] F H rfl trivial ?_; clear F; intro a F
 replace H := H.nf 1 rfl
 refine nl (wr ?_)
 cases hm
 refine x_ret1 F rfl rfl ?_
 exact ⟨_, rfl, p3, c3, rfl, H⟩
end Go.Proofs.YtohmcgmmphpgoaaGreatDoor
