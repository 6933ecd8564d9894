/- strings.Split, CutPrefix and Join by the shelf's contracts. -/
import Derived.Test.YtodggokkklfopaaDoorPathP
import Derived.Test.YtodggokkklfopaaDoorShelf
set_option linter.unusedSimpArgs false
set_option linter.unusedVariables false
namespace Go.Proofs.YtodggokkklfopaaDoor
open Go.ChangeShapes Go.WideShapes Go.ChangeAt Go.RowKit Go.Tri
theorem genSplitT (l : List UInt8) (hl : l.length ≤ 100000) (w : World) :
    Calls Tryd.prog 32 #[.string (txb l), .string ⟨#[47]⟩, .int .i64 0, .int .i64 (-1)] w fun e w' => ∃ v, e = .returned v ∧ St w w' [HP.own 9 1 v (sp l).length (rows txC (sp l))] := by
  have hsz : (txb l).size < 4294967281 := by rw [txb_size]; omega
  have hC : Calls Tryd.prog 39 #[.string (txb l), .string ⟨#[47]⟩] w fun e w' => e = .returned (.int .i64 (Lib.countB (txb l) ⟨#[47]⟩)) ∧ w' = w := by
    refine (Tryd.strings_Count_one (txb l) 47 w).mono fun e w' ⟨he, hw⟩ => ⟨?_, hw⟩
    rw [he]
    show _ = Ending.returned (Value.int .i64 ((Lib.count (txb l).data.toList [47] : Nat) : Int))
    rw [Lib.count_one]
    rfl
  have hle := Lib.countB_le (⟨#[47]⟩ : ByteArray) (by decide) (txb l).size (txb l) (Nat.le_refl _)
  have c := Any.strings_genSplit_core Tryd.lays221 (by kernel_rfl) (txb l) ⟨#[47]⟩ 0 (-1) (Lib.countB (txb l) ⟨#[47]⟩ + 1) w hsz (by decide) (by decide)
    (fun x c hx => (Tryd.strings_Index_one x 47 _).mono fun e w' ⟨he, hw⟩ => ⟨by
      rw [he]
      show _ = Ending.returned (Value.int .i64 (Lib.index x.data.toList [47]))
      rw [Lib.index_one], hw⟩) hC (by decide) (by decide) (by rw [if_pos (by decide)]; omega)
  have hlen := Lib.splitB_all (⟨#[47]⟩ : ByteArray) (by decide) 0 _ (txb l) rfl
  rw [Nat.add_sub_cancel, hlen] at c
  have hd := Lib.splitB_data (⟨#[47]⟩ : ByteArray) 0 (Lib.countB (txb l) ⟨#[47]⟩) (txb l)
  have e0 : (⟨#[47]⟩ : ByteArray).data.toList = [47] := rfl
  rw [e0, txb_list] at hd
  have hcb : Lib.countB (txb l) ⟨#[47]⟩ = Lib.count l [47] := by
    show Lib.count (txb l).data.toList [47] = _
    rw [txb_list]
  rw [hcb] at hd hlen c
  rw [split_sp] at hd
  have hB : Lib.splitB ⟨#[47]⟩ 0 (Lib.count l [47]) (txb l) = (sp l).map txb := by
    have : ((sp l).map txb).map (·.data.toList) = sp l := by
      rw [List.map_map]
      conv => rhs; rw [← List.map_id (sp l)]
      exact List.map_congr_left fun x _ => txb_list x
    rw [← hd, List.map_map]
    conv => lhs; rw [← List.map_id (Lib.splitB ⟨#[47]⟩ 0 (Lib.count l [47]) (txb l))]
    exact List.map_congr_left fun x _ => (txb_data x).symm
  have hn : (sp l).length = Lib.count l [47] + 1 := by rw [← hlen, hB, List.length_map]
  have hx : Lib.cellsOf (Lib.splitB ⟨#[47]⟩ 0 (Lib.count l [47]) (txb l)) (Lib.count l [47] + 1) = (rows txC (sp l)).toArray := by
    rw [← hlen, Lib.cellsOf_full, hB, rows_txC, List.map_map]; rfl
  rw [hx] at c
  refine c.mono fun e w' ⟨he, hw⟩ => ⟨_, he, ?_⟩
  subst hw
  rw [hn]
  refine (St.nil w).ownAlloc _ 1 _ _ ?_ ?_
  · rw [rows_txC, List.length_map, hn, Nat.mul_one]
  · have h1 : Lib.countB (txb l) ⟨#[47]⟩ ≤ (txb l).size := hle
    rw [hcb, txb_size] at h1
    unfold maxLen; omega
theorem cutT (l : List UInt8) (w : World) :
    Calls Tryd.prog 26 #[.string (txb l), .string ⟨#[47]⟩] w fun e w' => e = .returned (.tuple [.string (txb (Lib.trimPrefix l [47])), .bool (Lib.hasPrefix l [47])].toArray) ∧ St w w' [] := by
  refine (Tryd.strings_CutPrefix (txb l) ⟨#[47]⟩ w).mono fun e w' ⟨he, hw⟩ => ⟨?_, hw ▸ St.nil w⟩
  rw [he, txb_list]
  rfl
/-- Names with a stroke between any two. -/
def jn (xs : List (List UInt8)) : List UInt8 := Lib.join xs [47]
theorem joinT (xs : List (List UInt8)) (p : Option Addr) (n cap : Nat) (hn : xs.length = n) (hx : xs.length ≤ 100000) (hj : (jn xs).length ≤ 100000) (w : World) (hcap : n ≤ cap) (hp : 0 < xs.length → ∃ b off, p = some ⟨b, off, none⟩ ∧ Row w b off (rows txC xs)) :
    Calls Tryd.prog 30 #[.slice p n cap, .string ⟨#[47]⟩] w fun e w' => e = .returned (.string (txb (jn xs))) ∧ St w w' [] := by
  subst hn
  cases xs with
  | nil => exact (Tryd.strings_Join_none p cap ⟨#[47]⟩ w).mono fun e w' ⟨he, hw⟩ => ⟨he, hw ▸ St.nil w⟩
  | cons x r =>
    obtain ⟨b, off, rfl, hrow⟩ := hp (by simp)
    have hd : ((x :: r).map txb).map (·.data.toList) = x :: r := by
      rw [List.map_map]
      conv => rhs; rw [← List.map_id (x :: r)]
      exact List.map_congr_left fun y _ => txb_list y
    have hcells : ∀ (j : Nat) y, ((x :: r).map txb)[j]? = some y → w.cell? ⟨b, off + j, none⟩ = some (.string y) := by
      intro j y hy
      refine hrow j _ ?_
      rw [rows_txC, List.getElem?_map]
      rw [List.getElem?_map] at hy
      cases hz : (x :: r)[j]? with
      | none => rw [hz] at hy; cases hy
      | some z => rw [hz] at hy; cases hy; rfl
    have h0 := hcells 0 (txb x) rfl
    have e0 : (⟨#[47]⟩ : ByteArray).data.toList = [47] := rfl
    have c := Tryd.strings_Join b off cap ((x :: r).map txb) ⟨#[47]⟩ w hcells (World.block_lt_of_cell? _ _ h0) (by simp at hx ⊢; omega) (by simpa using hcap) (by rw [hd, e0]; unfold jn at hj; omega)
    rw [hd, e0, List.length_map] at c
    exact c.mono fun e w' ⟨he, hw⟩ => ⟨he, St.ofBelow hw⟩
/-- Is it a path? -/
def okP (l : List UInt8) : Bool := decide (l = [47]) || (Lib.hasPrefix l [47] && decide (l.length ≤ 24) && (sp (Lib.trimPrefix l [47])).all nameB)
/-- Its names. -/
def pns (l : List UInt8) : List (List UInt8) := if okP l = true then (if l = [47] then [] else sp (Lib.trimPrefix l [47])) else []
end Go.Proofs.YtodggokkklfopaaDoor
