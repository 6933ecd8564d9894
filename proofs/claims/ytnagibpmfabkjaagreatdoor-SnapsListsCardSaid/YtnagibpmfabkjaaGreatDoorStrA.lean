/- texts -/
import Derived.Test.YtnagibpmfabkjaaGreatDoorMod
import Derived.Test.YtnagibpmfabkjaaGreatDoorProg
import Derived.Test.YtnagibpmfabkjaaGreatDoorStr
import Derived.Test.YtnagibpmfabkjaaGreatDoorShelf
set_option linter.unusedSimpArgs false
set_option linter.unusedVariables false
namespace Go.Proofs.YtnagibpmfabkjaaGreatDoor
open Go.RowKit Go.Tri
set_option maxRecDepth 100000
set_option maxHeartbeats 4000000
theorem w_cutPre {s : List UInt8} {p : List UInt8}  {w0 w : World} {l : List HP}  {r : (List UInt8) × Bool} (hm : cutPre s p = some r) (H : St w0 w (l)) :
  Calls Tryz.prog 167 [.string (txb (s)), .string (txb (p))].toArray w (fun e w' => ∃ v, e = .returned v ∧ v = .tuple [.string (txb (r.1)), .bool (r.2)].toArray ∧ St w0 w' (l)) := by
 unfold cutPre at hm
 cases hm
 exact (Tryz.strings_CutPrefix (txb s) (txb p) w).mono fun e w' ⟨he, hw⟩ => ⟨_, by rw [he, txb_list, txb_list]; rfl, rfl, hw ▸ H⟩
theorem w_genSplit {s : List UInt8} {sep : List UInt8} {sv : Int} {n : Int}  {w0 w : World} {l : List HP}  {r : (List (List UInt8))} (hm : genSplit s sep sv n = some r) (H : St w0 w (l)) :
  Calls Tryz.prog 183 [.string (txb (s)), .string (txb (sep)), .int .i64 (sv), .int .i64 (n)].toArray w (fun e w' => ∃ v, e = .returned v ∧ ∃ (p1 : Option Addr) (c1 : Nat), v = .slice p1 (r).length c1 ∧ St w0 w' (HP.ow rStr 9 p1 c1 r :: l)) := by
 unfold genSplit at hm
 obtain ⟨rfl, rfl, rfl, hl, rfl⟩ := splitO_some hm
 have hsz : (txb s).size < 4294967281 := by rw [txb_size]; omega
 have hC : Calls Tryz.prog 201 #[.string (txb s), .string ⟨#[47]⟩] w fun e w' => e = .returned (.int .i64 (Lib.countB (txb s) ⟨#[47]⟩)) ∧ w' = w := by
   refine (Tryz.strings_Count_one (txb s) 47 w).mono fun e w' ⟨he, hw⟩ => ⟨?_, hw⟩
   rw [he]
   show _ = Ending.returned (Value.int .i64 ((Lib.count (txb s).data.toList [47] : Nat) : Int))
   rw [Lib.count_one]
   rfl
 have hle := Lib.countB_le (⟨#[47]⟩ : ByteArray) (by decide) (txb s).size (txb s) (Nat.le_refl _)
 have c := Any.strings_genSplit_core Tryz.lays221 (by kernel_rfl) (txb s) ⟨#[47]⟩ 0 (-1) (Lib.countB (txb s) ⟨#[47]⟩ + 1) w hsz (by decide) (by decide)
   (fun x c hx => (Tryz.strings_Index_one x 47 _).mono fun e w' ⟨he, hw⟩ => ⟨by
     rw [he]
     show _ = Ending.returned (Value.int .i64 (Lib.index x.data.toList [47]))
     rw [Lib.index_one], hw⟩) hC (by decide) (by decide) (by rw [if_pos (by decide)]; omega)
 have hlen := Lib.splitB_all (⟨#[47]⟩ : ByteArray) (by decide) 0 _ (txb s) rfl
 rw [Nat.add_sub_cancel, hlen] at c
 have hd := Lib.splitB_data (⟨#[47]⟩ : ByteArray) 0 (Lib.countB (txb s) ⟨#[47]⟩) (txb s)
 have e0 : (⟨#[47]⟩ : ByteArray).data.toList = [47] := rfl
 rw [e0, txb_list] at hd
 have hcb : Lib.countB (txb s) ⟨#[47]⟩ = Lib.count s [47] := by
   show Lib.count (txb s).data.toList [47] = _
   rw [txb_list]
 rw [hcb] at hd hlen c
 rw [split_sp] at hd
 have hB : Lib.splitB ⟨#[47]⟩ 0 (Lib.count s [47]) (txb s) = (sp s).map txb := by
   have : ((sp s).map txb).map (·.data.toList) = sp s := by
     rw [List.map_map]
     conv => rhs; rw [← List.map_id (sp s)]
     exact List.map_congr_left fun x _ => txb_list x
   rw [← hd, List.map_map]
   conv => lhs; rw [← List.map_id (Lib.splitB ⟨#[47]⟩ 0 (Lib.count s [47]) (txb s))]
   exact List.map_congr_left fun x _ => (txb_data x).symm
 have hn : (sp s).length = Lib.count s [47] + 1 := by rw [← hlen, hB, List.length_map]
 have hx : Lib.cellsOf (Lib.splitB ⟨#[47]⟩ 0 (Lib.count s [47]) (txb s)) (Lib.count s [47] + 1) = ((sp s).map fun x => Value.string (txb x)).toArray := by
   rw [← hlen, Lib.cellsOf_full, hB, List.map_map]; rfl
 rw [hx] at c
 rw [← hn] at c
 refine c.mono fun e w' ⟨he, hw⟩ => ⟨_, he, _, _, rfl, ?_⟩
 subst hw
 have hm2 : (sp s).length ≤ maxLen := by
   have h1 : Lib.countB (txb s) ⟨#[47]⟩ ≤ (txb s).size := hle
   rw [hcb, txb_size] at h1
   unfold maxLen; omega
 exact H.newTexts 9 (sp s) hm2
theorem w_strJoin {xs : List (List UInt8)} {sep : List UInt8} {p1 : Option Addr} {c1 : Nat} {w0 w : World} {l : List HP}  {r : (List UInt8)} (hm : strJoin xs sep = some r) (H : St w0 w (HP.sl rStr p1 c1 xs :: l)) :
  Calls Tryz.prog 170 [.slice p1 (xs).length c1, .string (txb (sep))].toArray w (fun e w' => ∃ v, e = .returned v ∧ v = .string (txb (r)) ∧ St w0 w' (l)) := by
 unfold strJoin at hm
 obtain ⟨rfl, hx, hj, rfl⟩ := joinO_some hm
 have hsl : Sl w (.slice p1 (xs).length c1) (xs).length (xs.map fun l => Value.string (txb l)) := by
   obtain ⟨B, S, hs, ⟨css, h1, h2⟩, _⟩ := H.get 0 rfl
   have h3 := h2 w hs
   have h4 : ∀ (css : List (List Value)) (xs : List (List UInt8)), RdL rStr B css xs → css.flatten = xs.map fun l => Value.string (txb l) := by
     intro css
     induction css with
     | nil => intro xs h; cases xs with
       | nil => rfl
       | cons x xs => exact h.elim
     | cons c css ih => intro xs h; cases xs with
       | nil => exact h.elim
       | cons x xs =>
         obtain ⟨e1, e2⟩ := h
         have e1 : c = [.string (txb x)] := e1
         simp [e1, ih xs e2]
   rwa [h4 css xs h1] at h3
 have hcap := H.slCap 0 rfl
 cases xs with
 | nil => exact (Tryz.strings_Join_none p1 c1 ⟨#[47]⟩ w).mono fun e w' ⟨he, hw⟩ => ⟨_, he, rfl, hw ▸ H.tail⟩
 | cons x r =>
   obtain ⟨b, off, rfl, hrow⟩ := hsl.rowAt (c := c1) rfl (by simp)
   have hd : ((x :: r).map txb).map (·.data.toList) = x :: r := by
     rw [List.map_map]
     conv => rhs; rw [← List.map_id (x :: r)]
     exact List.map_congr_left fun y _ => txb_list y
   have hcells : ∀ (j : Nat) y, ((x :: r).map txb)[j]? = some y → w.cell? ⟨b, off + j, none⟩ = some (.string y) := by
     intro j y hy
     refine hrow j _ ?_
     rw [List.getElem?_map] at hy ⊢
     cases hz : (x :: r)[j]? with
     | none => rw [hz] at hy; cases hy
     | some z => rw [hz] at hy; cases hy; rfl
   have h0 := hcells 0 (txb x) rfl
   have e0 : (⟨#[47]⟩ : ByteArray).data.toList = [47] := rfl
   have c := Tryz.strings_Join b off c1 ((x :: r).map txb) ⟨#[47]⟩ w hcells (World.block_lt_of_cell? _ _ h0) (by simp at hx ⊢; omega) (by simpa using hcap) (by rw [hd, e0]; unfold jn at hj; omega)
   rw [hd, e0, List.length_map] at c
   exact c.mono fun e w' ⟨he, hw⟩ => ⟨_, he, rfl, (H.below hw).tail⟩
theorem w_slIndex {s : List UInt8} {p : List UInt8}  {w0 w : World} {l : List HP}  {r : Int} (hm : slIndex s p = some r) (H : St w0 w (l)) :
  Calls Tryz.prog 162 [.string (txb (s)), .string (txb (p))].toArray w (fun e w' => ∃ v, e = .returned v ∧ v = .int .i64 (r) ∧ St w0 w' (l)) := by
 unfold slIndex at hm
 obtain ⟨c, rfl, rfl⟩ := indexO_some hm
 exact (Tryz.stringslite_Index_one (txb s) c w).mono fun e w' ⟨he, hw⟩ => ⟨_, by rw [he, txb_list], rfl, hw ▸ H⟩
theorem ent162 : En Tryz.prog 162 := enters Tryz.func162 (by kernel_rfl) rfl
theorem w_m_internal_stringslite_Cut {x0_ : List UInt8} {x1_ : List UInt8}  {w0 w : World} {l : List HP}  {r : (List UInt8) × (List UInt8) × Bool} (hm : m_internal_stringslite_Cut x0_ x1_ = some r) (H : St w0 w (l)) :
  Calls Tryz.prog 139 [.string (txb (x0_)), .string (txb (x1_))].toArray w (fun e w' => ∃ v, e = .returned v ∧ v = .tuple [.string (txb (r.1)), .string (txb (r.2.1)), .bool (r.2.2)].toArray ∧ St w0 w' (l)) := by
 unfold m_internal_stringslite_Cut at hm
 refine x_enter Tryz.func139 rfl rfl rfl ?_
 intro a F
 refine sb [0,0,0] F H rfl fun a F => ?_
 refine nl (sq (sb [0,0] F H rfl fun a F => ?_))
 obtain ⟨x1, ex1, hm⟩ := ob hm
 refine sd F rfl ent162 (w_slIndex ex1 H:) ?_; rintro _ w a ⟨rfl, H⟩ F
 refine bb [0] F H rfl fun a F => ?_
 refine nb [0,0] F H rfl fun a F => ?_
 refine nl (cPm F rfl hm (fun hg2 hm => ?_) (fun hg2 hm => ?_))
 refine sq ?_
 obtain ⟨x3, ex3, hm⟩ := ob hm
 obtain ⟨x4, ex4, hm⟩ := ob hm
 refine qr H (by kernel_rfl) (by kernel_rfl) ?_
 refine qb [0,0] F rfl fun a F => ?_
 refine qv F rfl (fun u hu => y_slTH F rfl Tryz.underlying9 rfl rfl ex3) fun a F => ?_
 refine qb [0,0,0] F rfl fun a F => ?_
 refine qv F rfl (fun u hu => y_lenT (l := x1_) F rfl Tryz.underlying9 rfl) fun a F => ?_
 refine qb [0] F rfl fun a F => ?_
 refine qv F rfl (fun u hu => y_slTL F rfl Tryz.underlying9 rfl rfl ex4) fun a F => ?_
 refine qb [0,0,0] F rfl fun a F => ?_
 refine q_nil fun w H => ?_
 refine ct (wr (tr ?_))
 cases hm
 refine x_ret3 F rfl rfl rfl rfl ?_
 exact ⟨_, rfl, rfl, H⟩
 refine sk (ct (sb [0,0,0,0] F H rfl fun a F => ?_))
 refine nl (wr ?_)
 cases hm
 refine x_ret3 F rfl rfl rfl rfl ?_
 exact ⟨_, rfl, rfl, H⟩
theorem ent139 : En Tryz.prog 139 := enters Tryz.func139 (by kernel_rfl) rfl
theorem w_m_strings_Cut {x0_ : List UInt8} {x1_ : List UInt8}  {w0 w : World} {l : List HP}  {r : (List UInt8) × (List UInt8) × Bool} (hm : m_strings_Cut x0_ x1_ = some r) (H : St w0 w (l)) :
  Calls Tryz.prog 112 [.string (txb (x0_)), .string (txb (x1_))].toArray w (fun e w' => ∃ v, e = .returned v ∧ v = .tuple [.string (txb (r.1)), .string (txb (r.2.1)), .bool (r.2.2)].toArray ∧ St w0 w' (l)) := by
 unfold m_strings_Cut at hm
 refine x_enter Tryz.func112 rfl rfl rfl ?_
 intro a F
 refine sb [0,0,0] F H rfl fun a F => ?_
 refine nb [0,0] F H rfl fun a F => ?_
 obtain ⟨x1, ex1, hm⟩ := ob hm
 refine sd F rfl ent139 (w_m_internal_stringslite_Cut ex1 H:) ?_; rintro _ w a ⟨rfl, H⟩ F
 refine bb (List.replicate 6 0) F H rfl fun a F => ?_
 refine nl (wr ?_)
 cases hm
 refine x_ret3 F rfl rfl rfl rfl ?_
 exact ⟨_, rfl, rfl, H⟩
theorem ent183 : En Tryz.prog 183 := enters Tryz.func183 (by kernel_rfl) rfl
theorem w_strSplit {s : List UInt8} {sep : List UInt8}  {w0 w : World} {l : List HP}  {r : (List (List UInt8))} (hm : strSplit s sep = some r) (H : St w0 w (l)) :
  Calls Tryz.prog 168 [.string (txb (s)), .string (txb (sep))].toArray w (fun e w' => ∃ v, e = .returned v ∧ ∃ (p1 : Option Addr) (c1 : Nat), v = .slice p1 (r).length c1 ∧ St w0 w' (HP.ow rStr 9 p1 c1 r :: l)) := by
 unfold strSplit at hm
 refine x_enter Tryz.func168 rfl rfl rfl ?_
 intro a F
 refine sb [0] F H rfl fun a F => ?_
 refine nb [0,0] F H rfl fun a F => ?_
 obtain ⟨x2, ex2, hm⟩ := ob hm
 refine sd F rfl ent183 (w_genSplit ex2 H:) ?_; rintro _ w a ⟨p3, c3, rfl, H⟩ F
 refine bb [0] F H rfl fun a F => ?_
 replace H := H.nf 1 rfl
 refine nl (wr ?_)
 cases hm
 refine x_ret1 F rfl rfl ?_
 exact ⟨_, rfl, p3, c3, rfl, H⟩
end Go.Proofs.YtnagibpmfabkjaaGreatDoor
