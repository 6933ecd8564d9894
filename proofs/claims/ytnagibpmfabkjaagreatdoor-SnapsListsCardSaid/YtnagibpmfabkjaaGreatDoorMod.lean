/- Models. -/
import Derived.Test.YtnagibpmfabkjaaGreatDoorS
import Derived.Test.YtnagibpmfabkjaaGreatDoorSrt
import Derived.Test.YtnagibpmfabkjaaGreatDoorIns
set_option linter.unusedSimpArgs false
set_option linter.unusedVariables false
namespace Go.Proofs.YtnagibpmfabkjaaGreatDoor
open Go.RowKit Go.Tri
abbrev T_api_Pair : Type := (List UInt8) × (List UInt8)
abbrev R_api_Pair : Rp T_api_Pair := (rPair (rSl rByte) (rSl rByte))
abbrev T_pack_Pen_o : Type := (List UInt8)
def O_pack_Pen (b : Nat) (x : T_pack_Pen_o) : HP := HP.ex fun (i : (Option Addr) × Nat) => [HP.blk b ([.slice i.1 (x).length i.2]) 157, HP.ow rByte 5 i.1 i.2 x]
theorem O_pack_Pen_o {w0 w : World} {l : List HP} {b : Nat} {x : T_pack_Pen_o} (H : St w0 w (O_pack_Pen b x :: l)) : ∃ (i1 : Option Addr) (c1 : Nat), St w0 w (HP.blk b ([.slice i1 (x).length c1]) 157 :: HP.ow rByte 5 i1 c1 x :: l) := by
  obtain ⟨⟨i1, c1⟩, H⟩ := H.exOpen
  exact ⟨i1, c1, H⟩
theorem O_pack_Pen_s {w0 w : World} {l : List HP} {b : Nat} {i1 : Option Addr} {c1 : Nat} {x0 : List UInt8}  (H : St w0 w (HP.blk b ([.slice i1 (x0).length c1]) 157 :: HP.ow rByte 5 i1 c1 x0 :: l)) : St w0 w (O_pack_Pen b x0 :: l) := by
  unfold O_pack_Pen
  exact St.exShut (i1, c1) H
def O_pack_Pen_1 (b : Nat) (x : T_pack_Pen_o) : HP := HP.ex fun (i : (Option Addr) × Nat) => [HP.blk b ([.slice i.1 (x).length i.2]) 157, HP.sl rByte i.1 i.2 x]
theorem O_pack_Pen_1_s {w0 w : World} {l : List HP} {b : Nat} {i1 : Option Addr} {c1 : Nat} {x0 : List UInt8}  (H : St w0 w (HP.blk b ([.slice i1 (x0).length c1]) 157 :: HP.sl rByte i1 c1 x0 :: l)) : St w0 w (O_pack_Pen_1 b x0 :: l) := by
  unfold O_pack_Pen_1
  exact St.exShut (i1, c1) H
abbrev T_files_file : Type := Bool × (List UInt8)
abbrev R_files_file : Rp T_files_file := (rPair rBool (rSl rByte))
theorem rc_files_file {w0 w : World} {l : List HP} {cs : List Value} {x : T_files_file} (H : St w0 w (HP.rc R_files_file cs x :: l)) : ∃ (p2 : Option Addr) (c2 : Nat), cs = [.bool (x.1), .slice p2 (x.2).length c2] ∧ St w0 w (HP.sl rByte p2 c2 x.2 :: l) := by
 obtain ⟨u1, v1, rfl, H⟩ := H.rcPair 0 rfl
 replace H := H.dp 2 rfl
 obtain rfl := H.rcBool 0 rfl
 replace H := H.dp 0 rfl
 obtain ⟨p2, c2, rfl, H⟩ := H.rcSl 0 rfl
 replace H := H.dp 1 rfl
 exact ⟨p2, c2, rfl, H⟩
abbrev T_api_Op : Type := Int × (List UInt8) × (List UInt8) × Int × Int × (List UInt8)
abbrev R_api_Op : Rp T_api_Op := (rPair (rInt .i64) (rPair rStr (rPair rStr (rPair (rInt .i64) (rPair (rInt .i64) (rSl rByte))))))
abbrev T_api_Answer : Type := Int × Int × (List UInt8) × (List (List UInt8))
abbrev R_api_Answer : Rp T_api_Answer := (rPair (rInt .i64) (rPair (rInt .i64) (rPair (rSl rByte) (rSl rStr))))
theorem rc_api_Op {w0 w : World} {l : List HP} {cs : List Value} {x : T_api_Op} (H : St w0 w (HP.rc R_api_Op cs x :: l)) : ∃ (p6 : Option Addr) (c6 : Nat), cs = [.int .i64 (x.1), .string (txb (x.2.1)), .string (txb (x.2.2.1)), .int .i64 (x.2.2.2.1), .int .i64 (x.2.2.2.2.1), .slice p6 (x.2.2.2.2.2).length c6] ∧ St w0 w (HP.sl rByte p6 c6 x.2.2.2.2.2 :: l) := by
 obtain ⟨u1, v1, rfl, H⟩ := H.rcPair 0 rfl
 replace H := H.dp 2 rfl
 obtain rfl := H.rcI 0 rfl
 replace H := H.dp 0 rfl
 obtain ⟨u2, v2, rfl, H⟩ := H.rcPair 0 rfl
 replace H := H.dp 2 rfl
 obtain rfl := H.rcStr 0 rfl
 replace H := H.dp 0 rfl
 obtain ⟨u3, v3, rfl, H⟩ := H.rcPair 0 rfl
 replace H := H.dp 2 rfl
 obtain rfl := H.rcStr 0 rfl
 replace H := H.dp 0 rfl
 obtain ⟨u4, v4, rfl, H⟩ := H.rcPair 0 rfl
 replace H := H.dp 2 rfl
 obtain rfl := H.rcI 0 rfl
 replace H := H.dp 0 rfl
 obtain ⟨u5, v5, rfl, H⟩ := H.rcPair 0 rfl
 replace H := H.dp 2 rfl
 obtain rfl := H.rcI 0 rfl
 replace H := H.dp 0 rfl
 obtain ⟨p6, c6, rfl, H⟩ := H.rcSl 0 rfl
 replace H := H.dp 1 rfl
 exact ⟨p6, c6, rfl, H⟩
theorem rc_api_Pair {w0 w : World} {l : List HP} {cs : List Value} {x : T_api_Pair} (H : St w0 w (HP.rc R_api_Pair cs x :: l)) : ∃ (p2 : Option Addr) (c2 : Nat) (p3 : Option Addr) (c3 : Nat), cs = [.slice p2 (x.1).length c2, .slice p3 (x.2).length c3] ∧ St w0 w (HP.sl rByte p2 c2 x.1 :: HP.sl rByte p3 c3 x.2 :: l) := by
 obtain ⟨u1, v1, rfl, H⟩ := H.rcPair 0 rfl
 replace H := H.dp 2 rfl
 obtain ⟨p2, c2, rfl, H⟩ := H.rcSl 0 rfl
 replace H := H.dp 1 rfl
 obtain ⟨p3, c3, rfl, H⟩ := H.rcSl 1 rfl
 replace H := H.dp 2 rfl
 exact ⟨p2, c2, p3, c3, rfl, (H.pm 2 [1, 0] rfl:)⟩
theorem rc_api_Answer {w0 w : World} {l : List HP} {cs : List Value} {x : T_api_Answer} (H : St w0 w (HP.rc R_api_Answer cs x :: l)) : ∃ (p4 : Option Addr) (c4 : Nat) (p5 : Option Addr) (c5 : Nat), cs = [.int .i64 (x.1), .int .i64 (x.2.1), .slice p4 (x.2.2.1).length c4, .slice p5 (x.2.2.2).length c5] ∧ St w0 w (HP.sl rByte p4 c4 x.2.2.1 :: HP.sl rStr p5 c5 x.2.2.2 :: l) := by
 obtain ⟨u1, v1, rfl, H⟩ := H.rcPair 0 rfl
 replace H := H.dp 2 rfl
 obtain rfl := H.rcI 0 rfl
 replace H := H.dp 0 rfl
 obtain ⟨u2, v2, rfl, H⟩ := H.rcPair 0 rfl
 replace H := H.dp 2 rfl
 obtain rfl := H.rcI 0 rfl
 replace H := H.dp 0 rfl
 obtain ⟨u3, v3, rfl, H⟩ := H.rcPair 0 rfl
 replace H := H.dp 2 rfl
 obtain ⟨p4, c4, rfl, H⟩ := H.rcSl 0 rfl
 replace H := H.dp 1 rfl
 obtain ⟨p5, c5, rfl, H⟩ := H.rcSl 1 rfl
 replace H := H.dp 2 rfl
 exact ⟨p4, c4, p5, c5, rfl, (H.pm 2 [1, 0] rfl:)⟩
abbrev T_api_Snap : Type := (List UInt8) × Int × (List T_api_Pair)
abbrev R_api_Snap : Rp T_api_Snap := (rPair rStr (rPair (rInt .u64) (rSl R_api_Pair)))
theorem rc_api_Snap {w0 w : World} {l : List HP} {cs : List Value} {x : T_api_Snap} (H : St w0 w (HP.rc R_api_Snap cs x :: l)) : ∃ (p3 : Option Addr) (c3 : Nat), cs = [.string (txb (x.1)), .int .u64 (x.2.1), .slice p3 (x.2.2).length c3] ∧ St w0 w (HP.sl R_api_Pair p3 c3 x.2.2 :: l) := by
 obtain ⟨u1, v1, rfl, H⟩ := H.rcPair 0 rfl
 replace H := H.dp 2 rfl
 obtain rfl := H.rcStr 0 rfl
 replace H := H.dp 0 rfl
 obtain ⟨u2, v2, rfl, H⟩ := H.rcPair 0 rfl
 replace H := H.dp 2 rfl
 obtain rfl := H.rcI 0 rfl
 replace H := H.dp 0 rfl
 obtain ⟨p3, c3, rfl, H⟩ := H.rcSl 0 rfl
 replace H := H.dp 1 rfl
 exact ⟨p3, c3, rfl, H⟩
abbrev T_api_State : Type := (List T_api_Pair) × (List T_api_Snap)
abbrev R_api_State : Rp T_api_State := (rPair (rSl R_api_Pair) (rSl R_api_Snap))
theorem rc_api_State {w0 w : World} {l : List HP} {cs : List Value} {x : T_api_State} (H : St w0 w (HP.rc R_api_State cs x :: l)) : ∃ (p2 : Option Addr) (c2 : Nat) (p3 : Option Addr) (c3 : Nat), cs = [.slice p2 (x.1).length c2, .slice p3 (x.2).length c3] ∧ St w0 w (HP.sl R_api_Pair p2 c2 x.1 :: HP.sl R_api_Snap p3 c3 x.2 :: l) := by
 obtain ⟨u1, v1, rfl, H⟩ := H.rcPair 0 rfl
 replace H := H.dp 2 rfl
 obtain ⟨p2, c2, rfl, H⟩ := H.rcSl 0 rfl
 replace H := H.dp 1 rfl
 obtain ⟨p3, c3, rfl, H⟩ := H.rcSl 1 rfl
 replace H := H.dp 2 rfl
 exact ⟨p2, c2, p3, c3, rfl, (H.pm 2 [1, 0] rfl:)⟩
abbrev T_api_State_o : Type := (List T_api_Pair) × (List T_api_Snap)
def O_api_State (b : Nat) (x : T_api_State_o) : HP := HP.ex fun (i : (Option Addr) × Nat × (Option Addr) × Nat) => [HP.blk b ([.slice i.1 (x.1).length i.2.1, .slice i.2.2.1 (x.2).length i.2.2.2]) 27, HP.sl R_api_Pair i.1 i.2.1 x.1, HP.ow R_api_Snap 41 i.2.2.1 i.2.2.2 x.2]
theorem O_api_State_o {w0 w : World} {l : List HP} {b : Nat} {x : T_api_State_o} (H : St w0 w (O_api_State b x :: l)) : ∃ (i1 : Option Addr) (c1 : Nat) (i2 : Option Addr) (c2 : Nat), St w0 w (HP.blk b ([.slice i1 (x.1).length c1, .slice i2 (x.2).length c2]) 27 :: HP.sl R_api_Pair i1 c1 x.1 :: HP.ow R_api_Snap 41 i2 c2 x.2 :: l) := by
  obtain ⟨⟨i1, c1, i2, c2⟩, H⟩ := H.exOpen
  exact ⟨i1, c1, i2, c2, H⟩
theorem O_api_State_s {w0 w : World} {l : List HP} {b : Nat} {i1 : Option Addr} {c1 : Nat} {i2 : Option Addr} {c2 : Nat} {x0 : List T_api_Pair} {x1 : List T_api_Snap}  (H : St w0 w (HP.blk b ([.slice i1 (x0).length c1, .slice i2 (x1).length c2]) 27 :: HP.sl R_api_Pair i1 c1 (x0) :: HP.ow R_api_Snap 41 i2 c2 (x1) :: l)) : St w0 w (O_api_State b (x0, x1) :: l) := by
  unfold O_api_State
  exact St.exShut (i1, c1, i2, c2) H
noncomputable def cutPre (s : List UInt8) (p : List UInt8) : Option ((List UInt8) × Bool) := some (Lib.trimPrefix s p, Lib.hasPrefix s p)
noncomputable def genSplit (s : List UInt8) (sep : List UInt8) (sv : Int) (n : Int) : Option (List (List UInt8)) := splitO s sep sv n
noncomputable def strJoin (xs : List (List UInt8)) (sep : List UInt8) : Option (List UInt8) := joinO xs sep
noncomputable def slIndex (s : List UInt8) (p : List UInt8) : Option Int := indexO s p
noncomputable def m_internal_stringslite_Cut (x0_ : List UInt8) (x1_ : List UInt8) : Option ((List UInt8) × (List UInt8) × Bool) :=
(slIndex x0_ x1_).bind fun x1 =>
if 0 ≤ x1 then ((slcO x0_ 0 x1).bind fun x3 =>
(slcO x0_ (IntKind.i64.wrap (x1 + ((x1_).length : Int))) ((x0_).length : Int)).bind fun x4 =>
some (x3, x4, true))
 else (some (x0_, [], false))
noncomputable def m_strings_Cut (x0_ : List UInt8) (x1_ : List UInt8) : Option ((List UInt8) × (List UInt8) × Bool) :=
(m_internal_stringslite_Cut x0_ x1_).bind fun x1 =>
some (x1.1, x1.2.1, x1.2.2)
noncomputable def strSplit (s : List UInt8) (sep : List UInt8) : Option (List (List UInt8)) :=
(genSplit s sep 0 (-1)).bind fun x2 =>
some x2
noncomputable def m_path_Name (x0_ : List UInt8) : Option Bool :=
Option.bind (α := (Unit) ⊕ Bool) (loopO (fun (s38 : Int) => if s38 < ((x0_).length : Int) then ((idxO x0_ s38).bind fun x40 =>
if ((x40).toNat : Int) < 33 then (some (.inr (.inr false)))
 else ((idxO x0_ s38).bind fun x42 =>
if 126 < ((x42).toNat : Int) then (some (.inr (.inr false)))
 else ((idxO x0_ s38).bind fun x44 =>
if ((x44).toNat : Int) = 47 then (some (.inr (.inr false)))
 else (some (.inl (IntKind.i64.wrap (s38 + 1)))))))
 else (some (.inr (.inl ())))) 0) fun o23 => Sum.elim (fun r23 => if x0_ = ([]) then (some false)
 else (some (decide (((x0_).length : Int) ≤ 8)))) (fun rv => some rv) o23
noncomputable def m_path_names_1 (x0_ : List UInt8) : Option Bool :=
(m_path_Name x0_).bind fun x1 =>
some (!x1)
noncomputable def ixName (s : List (List UInt8)) : Option Int :=
Option.bind (α := (Unit) ⊕ Int) (loopO (fun (s34 : Int) => if s34 < ((s).length : Int) then ((idxO s s34).bind fun x36 =>
(m_path_names_1 x36).bind fun x39 =>
if x39 = true then (some (.inr (.inr s34)))
 else (some (.inl (IntKind.i64.wrap (s34 + 1)))))
 else (some (.inr (.inl ())))) 0) fun o21 => Sum.elim (fun r21 => some (-1)) (fun rv => some rv) o21
noncomputable def anyBad (s : List (List UInt8)) : Option Bool :=
(ixName s).bind fun x2 =>
some (decide (0 ≤ x2))
noncomputable def pNames (p : List UInt8) : Option ((List (List UInt8)) × Bool) :=
if p = ([47]) then (some (([] : List (List UInt8)), true))
 else ((cutPre p ([47])).bind fun x3 =>
(strSplit x3.1 ([47])).bind fun x4 =>
if (!x3.2) = true then (some (([] : List (List UInt8)), false))
 else (if 24 < ((p).length : Int) then (some (([] : List (List UInt8)), false))
 else ((anyBad x4).bind fun x8 =>
if x8 = true then (some (([] : List (List UInt8)), false))
 else (some (x4, true)))))
noncomputable def m_path_join (x0_ : List (List UInt8)) : Option (List UInt8) :=
(strJoin x0_ ([47])).bind fun x2 =>
(appO ([47]) x2).bind fun x3 =>
some x3
noncomputable def m_path_Check (x0_ : List UInt8) : Option Int :=
(pNames x0_).bind fun x1 =>
if (!x1.2) = true then (some 90)
 else (some 0)
noncomputable def m_path_Parent (x0_ : List UInt8) : Option (List UInt8) :=
(pNames x0_).bind fun x1 =>
if ((x1.1).length : Int) = 0 then (some ([]))
 else ((slcO x1.1 0 (IntKind.i64.wrap (((x1.1).length : Int) - 1))).bind fun x5 =>
(m_path_join x5).bind fun x6 =>
some x6)
noncomputable def m_path_Base (x0_ : List UInt8) : Option (List UInt8) :=
(pNames x0_).bind fun x1 =>
if ((x1.1).length : Int) = 0 then (some ([]))
 else ((idxO x1.1 (IntKind.i64.wrap (((x1.1).length : Int) - 1))).bind fun x4 =>
some x4)
noncomputable def m_slices_Equal___string_string_ (x0_ : List (List UInt8)) (x1_ : List (List UInt8)) : Option Bool :=
if ((x0_).length : Int) = ((x1_).length : Int) then (Option.bind (α := (Unit) ⊕ Bool) (loopO (fun (s46 : Int) => if s46 < ((x0_).length : Int) then ((idxO x0_ s46).bind fun x48 =>
(idxO x1_ s46).bind fun x51 =>
if x48 = x51 then (some (.inl (IntKind.i64.wrap (s46 + 1))))
 else (some (.inr (.inr false))))
 else (some (.inr (.inl ())))) 0) fun o29 => Sum.elim (fun r29 => some true) (fun rv => some rv) o29)
 else (some false)
noncomputable def m_path_Within (x0_ : List UInt8) (x1_ : List UInt8) : Option Bool :=
(pNames x0_).bind fun x1 =>
(pNames x1_).bind fun x3 =>
if x1.2 = true then (if x3.2 = true then (if ((x1.1).length : Int) ≤ ((x3.1).length : Int) then ((slcO x3.1 0 ((x1.1).length : Int)).bind fun x9 =>
(m_slices_Equal___string_string_ x1.1 x9).bind fun x10 =>
some x10)
 else (some false))
 else (some false))
 else (some false)
noncomputable def m_path_Ancestors (x0_ : List UInt8) : Option (List (List UInt8)) :=
(pNames x0_).bind fun x2 =>
Option.bind (α := ((List (List UInt8)))) (loopO (fun (s47 : (List (List UInt8)) × Int) => if s47.2 < ((x2.1).length : Int) then ((slcO x2.1 0 s47.2).bind fun x51 =>
(m_path_join x51).bind fun x52 =>
(appO s47.1 ([x52])).bind fun x55 =>
some (.inl (x55, IntKind.i64.wrap (s47.2 + 1))))
 else (some (.inr s47.1))) ([], 0)) fun r29 => some r29
noncomputable def sortT (xs : List (List UInt8)) : Option (List (List UInt8)) := sortTO xs
noncomputable def sortPs (xs : List T_api_Pair) : Option (List T_api_Pair) := sortPO xs
noncomputable def cloneB (s : List UInt8) : Option (List UInt8) :=
(appO ([] : List UInt8) s).bind fun x5 =>
some x5
noncomputable def penRaw (p : T_pack_Pen_o) (b : List UInt8) : Option T_pack_Pen_o :=
(appO p b).bind fun x5 =>
some x5
noncomputable def penUint (p : T_pack_Pen_o) (n : Int) (size : Int) : Option (Int × T_pack_Pen_o) :=
if size < 1 then (some (1, p))
 else (if 8 < size then (some (1, p))
 else (if size < 8 then ((shrO .u64 n (IntKind.i64.wrap (8 * size))).bind fun x4 =>
if 0 < x4 then (some (1, p))
 else (Option.bind (α := (T_pack_Pen_o)) (loopO (fun (s48 : T_pack_Pen_o × Int) => if 0 ≤ s48.2 then ((shrO .u64 n (IntKind.i64.wrap (8 * s48.2))).bind fun x52 =>
(u8O (IntKind.u8.wrap (x52))).bind fun x54 =>
(appO s48.1 ([x54])).bind fun x56 =>
some (.inl (x56, IntKind.i64.wrap (s48.2 - 1))))
 else (some (.inr s48.1))) (p, IntKind.i64.wrap (size - 1))) fun r31 => some (0, r31)))
 else (Option.bind (α := (T_pack_Pen_o)) (loopO (fun (s99 : T_pack_Pen_o × Int) => if 0 ≤ s99.2 then ((shrO .u64 n (IntKind.i64.wrap (8 * s99.2))).bind fun x103 =>
(u8O (IntKind.u8.wrap (x103))).bind fun x105 =>
(appO s99.1 ([x105])).bind fun x107 =>
some (.inl (x107, IntKind.i64.wrap (s99.2 - 1))))
 else (some (.inr s99.1))) (p, IntKind.i64.wrap (size - 1))) fun r82 => some (0, r82))))
noncomputable def penData (p : T_pack_Pen_o) : Option ((List UInt8) × T_pack_Pen_o) :=
(cloneB p).bind fun x4 =>
some (x4, p)
noncomputable def sLook (s : (List UInt8) → Option T_files_file) (p : List UInt8) : Option (T_files_file × Int) :=
(m_path_Check p).bind fun x4 =>
if x4 = 0 then ((m_path_Ancestors p).bind fun x6 =>
Option.bind (α := (Unit) ⊕ (T_files_file × Int)) (loopO (fun (s65 : Int) => if s65 < ((x6).length : Int) then ((idxO x6 s65).bind fun x67 =>
if (!((s x67).isSome)) = true then (some (.inr (.inr ((false, ([] : List UInt8)), 91))))
 else (if (!(((s x67).getD (false, [])).1)) = true then (some (.inr (.inr ((false, ([] : List UInt8)), 93))))
 else (some (.inl (IntKind.i64.wrap (s65 + 1))))))
 else (some (.inr (.inl ())))) 0) fun o42 => Sum.elim (fun r42 => if (!((s p).isSome)) = true then (some ((false, ([] : List UInt8)), 91))
 else (some (((s p).getD (false, [])), 0))) (fun rv => some rv) o42)
 else (some ((false, ([] : List UInt8)), x4))
noncomputable def sRegular (s : (List UInt8) → Option T_files_file) (p : List UInt8) : Option (T_files_file × Int) :=
(sLook s p).bind fun x4 =>
if x4.2 = 0 then (if x4.1.1 = true then (some ((false, ([] : List UInt8)), 94))
 else (some ((x4.1.1, x4.1.2), x4.2)))
 else (some (x4.1, x4.2))
noncomputable def sRoom (s : (List UInt8) → Option T_files_file) (p : List UInt8) : Option Int :=
(m_path_Check p).bind fun x2 =>
if x2 = 0 then (if p = ([47]) then (some 92)
 else ((m_path_Parent p).bind fun x5 =>
(sLook s x5).bind fun x6 =>
if x6.2 = 0 then (if (!x6.1.1) = true then (some 93)
 else (if ((s p).isSome) = true then (some 92)
 else (some 0)))
 else (some x6.2)))
 else (some x2)
noncomputable def sSound (s : (List UInt8) → Option T_files_file) : Option Bool :=
detM s (fun l39 => (foldO (fun (s39 : Unit) (x39 : (List UInt8) × T_files_file) => (m_path_Check x39.1).bind fun x47 =>
if x47 = 0 then (if 192 < ((x39.2.2).length : Int) then (some (.inr false))
 else (if x39.1 = ([47]) then (some (.inl ()))
 else ((m_path_Parent x39.1).bind fun x53 =>
if (!(((s x53).getD (false, [])).1)) = true then (some (.inr false))
 else (some (.inl ())))))
 else (some (.inr false))) () l39).bind (Sum.elim (fun (s39 : Unit) => some (((s ([47])).getD (false, [])).1)) some))
noncomputable def sized (data : List UInt8) (n : Int) : Option (List UInt8) :=
(mkO n (0 : UInt8)).bind fun x4 =>
some (putAt x4 0 ((data).take (x4).length))
noncomputable def sWrite (s : (List UInt8) → Option T_files_file) (o : T_api_Op) : Option (T_api_Answer × ((List UInt8) → Option T_files_file)) :=
(sRegular s o.2.1).bind fun x8 =>
Option.bind (α := (Int)) (if o.1 = 3 then (some o.2.2.2.1)
 else (some o.2.2.2.2.1)) fun r12 => Option.bind (α := (T_files_file × ((List UInt8) → Option T_files_file) × (Int × Int))) (Option.bind (α := (T_files_file × ((List UInt8) → Option T_files_file) × (Int × Int))) (if x8.2 = 0 then (Option.bind (α := (T_files_file × ((List UInt8) → Option T_files_file) × (Int × Int))) (if r12 < 0 then (some (x8.1, s, (1, 0)))
 else (if 192 < r12 then (some (x8.1, s, (97, 0)))
 else (if o.1 = 3 then (Option.bind (α := (T_files_file × ((List UInt8) → Option T_files_file) × (Int × Int))) (if 192 < (IntKind.i64.wrap (r12 + ((o.2.2.2.2.2).length : Int))) then (some (x8.1, s, (97, 0)))
 else (Option.bind (α := (T_files_file × ((List UInt8) → Option T_files_file) × Int)) (if o.1 = 4 then ((sized x8.1.2 r12).bind fun x1172 =>
some ((x8.1.1, x8.1.2), fset o.2.1 (false, x1172) s, 0))
 else (Option.bind (α := (T_files_file × ((List UInt8) → Option T_files_file))) (if 0 < ((o.2.2.2.2.2).length : Int) then ((sized x8.1.2 (max ((x8.1.2).length : Int) (IntKind.i64.wrap (r12 + ((o.2.2.2.2.2).length : Int))))).bind fun x1187 =>
(slcO x1187 r12 ((x1187).length : Int)).bind fun x1190 =>
some ((x8.1.1, x8.1.2), fset o.2.1 (false, (putAt x1187 (r12 : Int).toNat ((o.2.2.2.2.2).take (x1190).length))) s))
 else (some (x8.1, s))) fun r1182 => some (r1182.1, r1182.2, ((o.2.2.2.2.2).length : Int)))) fun r1167 => some (r1167.1, r1167.2.1, (0, r1167.2.2)))) fun r1141 => some (r1141.1, r1141.2.1, (r1141.2.2.1, r1141.2.2.2)))
 else (Option.bind (α := (T_files_file × ((List UInt8) → Option T_files_file) × Int)) (if o.1 = 4 then ((sized x8.1.2 r12).bind fun x1220 =>
some ((x8.1.1, x8.1.2), fset o.2.1 (false, x1220) s, 0))
 else (Option.bind (α := (T_files_file × ((List UInt8) → Option T_files_file))) (if 0 < ((o.2.2.2.2.2).length : Int) then ((sized x8.1.2 (max ((x8.1.2).length : Int) (IntKind.i64.wrap (r12 + ((o.2.2.2.2.2).length : Int))))).bind fun x1235 =>
(slcO x1235 r12 ((x1235).length : Int)).bind fun x1238 =>
some ((x8.1.1, x8.1.2), fset o.2.1 (false, (putAt x1235 (r12 : Int).toNat ((o.2.2.2.2.2).take (x1238).length))) s))
 else (some (x8.1, s))) fun r1230 => some (r1230.1, r1230.2, ((o.2.2.2.2.2).length : Int)))) fun r1215 => some (r1215.1, r1215.2.1, (0, r1215.2.2)))))) fun r1087 => some (r1087.1, r1087.2.1, (r1087.2.2.1, r1087.2.2.2)))
 else (some (x8.1, s, (x8.2, 0)))) fun r933 => some (r933.1, r933.2.1, (r933.2.2.1, r933.2.2.2))) fun r626 => some ((r626.2.2.1, r626.2.2.2, ([] : List UInt8), ([] : List (List UInt8))), r626.2.1)
noncomputable def sRead (s : (List UInt8) → Option T_files_file) (o : T_api_Op) : Option T_api_Answer :=
(sRegular s o.2.1).bind fun x8 =>
Option.bind (α := (T_files_file × (Int × Int × (List UInt8)))) (Option.bind (α := (T_files_file × (Int × Int × (List UInt8)))) (if x8.2 = 0 then (if o.2.2.2.1 < 0 then (some (x8.1, (1, 0, ([] : List UInt8))))
 else (Option.bind (α := (T_files_file × (Int × Int × (List UInt8)))) (if o.2.2.2.2.1 < 0 then (some (x8.1, (1, 0, ([] : List UInt8))))
 else ((slcO x8.1.2 (min o.2.2.2.1 ((x8.1.2).length : Int)) ((x8.1.2).length : Int)).bind fun x107 =>
(slcO x107 0 (min (min o.2.2.2.2.1 64) (IntKind.i64.wrap (((x8.1.2).length : Int) - (min o.2.2.2.1 ((x8.1.2).length : Int)))))).bind fun x109 =>
(cloneB x109).bind fun x110 =>
some ((x8.1.1, x8.1.2), (0, ((x8.1.2).length : Int), x110)))) fun r100 => some (r100.1, (r100.2.1, r100.2.2.1, r100.2.2.2))))
 else (some (x8.1, (x8.2, 0, ([] : List UInt8))))) fun r86 => some (r86.1, (r86.2.1, r86.2.2.1, r86.2.2.2))) fun r60 => some (r60.2.1, r60.2.2.1, r60.2.2.2, ([] : List (List UInt8)))
noncomputable def sBelow (s : (List UInt8) → Option T_files_file) (p : List UInt8) : Option (List (List UInt8)) :=
detM s (fun l76 => (foldO (fun (s76 : (List (List UInt8))) (x76 : (List UInt8) × T_files_file) => Option.bind (α := ((List (List UInt8)))) (if x76.1 = ([47]) then (some s76)
 else ((m_path_Parent x76.1).bind fun x100 =>
Option.bind (α := ((List (List UInt8)))) (if x100 = p then ((m_path_Base x76.1).bind fun x109 =>
(appO s76 ([x109])).bind fun x112 =>
some x112)
 else (some s76)) fun r106 => some r106)) fun r96 => some (.inl r96)) ([]) l76).bind (Sum.elim (fun (s76 : (List (List UInt8))) => (sortT s76).bind fun x79 =>
some x79) some))
noncomputable def sRename (s : (List UInt8) → Option T_files_file) (o : T_api_Op) : Option (Int × ((List UInt8) → Option T_files_file)) :=
(m_path_Check o.2.1).bind fun x6 =>
if x6 = 0 then ((m_path_Check o.2.2.1).bind fun x8 =>
if x8 = 0 then ((sLook s o.2.1).bind fun x10 =>
if x10.2 = 0 then (if o.2.1 = ([47]) then (some (96, s))
 else ((m_path_Within o.2.1 o.2.2.1).bind fun x15 =>
if x15 = true then (some (96, s))
 else ((sRoom s o.2.2.1).bind fun x17 =>
if x17 = 0 then (detM s (fun l141 => (foldO (fun (s141 : ((List UInt8) → Option (List UInt8))) (x141 : (List UInt8) × T_files_file) => Option.bind (α := (((List UInt8) → Option (List UInt8))) ⊕ (Int × ((List UInt8) → Option T_files_file))) ((m_path_Within o.2.1 x141.1).bind fun x188 =>
Option.bind (α := (((List UInt8) → Option (List UInt8))) ⊕ (Int × ((List UInt8) → Option T_files_file))) (if x188 = true then ((slcO x141.1 ((o.2.1).length : Int) ((x141.1).length : Int)).bind fun x197 =>
(appO o.2.2.1 x197).bind fun x198 =>
if 24 < (((((fset x141.1 x198 s141) x141.1).getD [])).length : Int) then (some (.inr (90, s)))
 else (some (.inl (fset x141.1 x198 s141))))
 else (some (.inl s141))) fun o195 => Sum.elim (fun r195 => some (.inl r195)) (fun rv => some (.inr rv)) o195) fun o186 => Sum.elim (fun r186 => some (.inl r186)) (fun rv => some (.inr rv)) o186) (fnil : (List UInt8) → Option (List UInt8)) l141).bind (Sum.elim (fun (s141 : ((List UInt8) → Option (List UInt8))) => Option.bind (α := (((List UInt8) → Option T_files_file))) (detM s141 (fun l166 => (foldO (fun (s166 : ((List UInt8) → Option T_files_file)) (x166 : (List UInt8) × (List UInt8)) => some (.inl (fdel x166.1 (fset x166.2 ((s166 x166.1).getD (false, [])) s166)))) s l166).bind (Sum.elim (fun (s166 : ((List UInt8) → Option T_files_file)) => some s166) some))) fun r157 => some (0, r157)) some)))
 else (some (x17, s)))))
 else (some (x10.2, s)))
 else (some (90, s)))
 else (some (90, s))
noncomputable def sRemove (s : (List UInt8) → Option T_files_file) (p : List UInt8) : Option (Int × ((List UInt8) → Option T_files_file)) :=
(sLook s p).bind fun x2 =>
if x2.2 = 0 then (if p = ([47]) then (some (96, s))
 else ((sBelow s p).bind fun x7 =>
if 0 < ((x7).length : Int) then (some (95, s))
 else (some (0, fdel p s))))
 else (some (x2.2, s))
noncomputable def cloneT (s : List (List UInt8)) : Option (List (List UInt8)) :=
(appO ([] : List (List UInt8)) s).bind fun x5 =>
some x5
noncomputable def sList (s : (List UInt8) → Option T_files_file) (o : T_api_Op) : Option T_api_Answer :=
(sLook s o.2.1).bind fun x8 =>
Option.bind (α := (T_files_file × (Int × Int × (List (List UInt8))))) (Option.bind (α := (T_files_file × (Int × Int × (List (List UInt8))))) (if x8.2 = 0 then (Option.bind (α := ((Int × Int × (List (List UInt8))))) (if (!x8.1.1) = true then (some (93, 0, ([] : List (List UInt8))))
 else ((sBelow s o.2.1).bind fun x104 =>
(delO x104 o.2.2.1).bind fun x106 =>
(slcO x106 0 (min ((x106).length : Int) 6)).bind fun x109 =>
(cloneT x109).bind fun x110 =>
some (0, ((x104).length : Int), x110))) fun r101 => some ((x8.1.1, x8.1.2), (r101.1, r101.2.1, r101.2.2)))
 else (some (x8.1, (x8.2, 0, ([] : List (List UInt8)))))) fun r86 => some (r86.1, (r86.2.1, r86.2.2.1, r86.2.2.2))) fun r60 => some (r60.2.1, r60.2.2.1, ([] : List UInt8), r60.2.2.2)
noncomputable def sStat (s : (List UInt8) → Option T_files_file) (p : List UInt8) : Option T_api_Answer :=
(sLook s p).bind fun x4 =>
Option.bind (α := (T_files_file × (Int × Int × (List UInt8)))) (Option.bind (α := (T_files_file × (Int × Int × (List UInt8)))) (if x4.2 = 0 then (Option.bind (α := ((Int × (List UInt8)))) (if x4.1.1 = true then ((u8O 100).bind fun x87 =>
(sBelow s p).bind fun x88 =>
some (((x88).length : Int), [x87]))
 else ((u8O 102).bind fun x91 =>
some (((x4.1.2).length : Int), [x91]))) fun r83 => some ((x4.1.1, x4.1.2), (0, r83.1, r83.2)))
 else (some (x4.1, (x4.2, 0, ([] : List UInt8))))) fun r70 => some (r70.1, (r70.2.1, r70.2.2.1, r70.2.2.2))) fun r48 => some (r48.2.1, r48.2.2.1, r48.2.2.2, ([] : List (List UInt8)))
noncomputable def sDo (s : (List UInt8) → Option T_files_file) (o : T_api_Op) : Option (T_api_Answer × ((List UInt8) → Option T_files_file)) :=
Option.bind (α := (Int × ((List UInt8) → Option T_files_file)) ⊕ (T_api_Answer × ((List UInt8) → Option T_files_file))) (Option.bind (α := (Bool)) (if o.1 = 1 then (some (decide (o.1 = 1)))
 else (some (decide (o.1 = 2)))) fun r384 => Option.bind (α := (Int × ((List UInt8) → Option T_files_file)) ⊕ (T_api_Answer × ((List UInt8) → Option T_files_file))) (if r384 = true then ((sRoom s o.2.1).bind fun x573 =>
Option.bind (α := (((List UInt8) → Option T_files_file))) (if x573 = 0 then (some (fset o.2.1 (decide (o.1 = 2), ([] : List UInt8)) s))
 else (some s)) fun r575 => some (.inl (x573, r575)))
 else (Option.bind (α := (Bool)) (if o.1 = 3 then (some (decide (o.1 = 3)))
 else (some (decide (o.1 = 4)))) fun r578 => Option.bind (α := (Int × ((List UInt8) → Option T_files_file)) ⊕ (T_api_Answer × ((List UInt8) → Option T_files_file))) (if r578 = true then ((sWrite s (o.1, o.2.1, o.2.2.1, o.2.2.2.1, o.2.2.2.2.1, o.2.2.2.2.2)).bind fun x670 =>
some (.inr (x670.1, x670.2)))
 else (Option.bind (α := (Int × ((List UInt8) → Option T_files_file)) ⊕ (T_api_Answer × ((List UInt8) → Option T_files_file))) (if o.1 = 5 then ((sRead s (o.1, o.2.1, o.2.2.1, o.2.2.2.1, o.2.2.2.2.1, o.2.2.2.2.2)).bind fun x716 =>
some (.inr (x716, s)))
 else (Option.bind (α := (Int × ((List UInt8) → Option T_files_file)) ⊕ (T_api_Answer × ((List UInt8) → Option T_files_file))) (if o.1 = 6 then ((sRename s (o.1, o.2.1, o.2.2.1, o.2.2.2.1, o.2.2.2.2.1, o.2.2.2.2.2)).bind fun x739 =>
some (.inl (x739.1, x739.2)))
 else (Option.bind (α := (Int × ((List UInt8) → Option T_files_file)) ⊕ (T_api_Answer × ((List UInt8) → Option T_files_file))) (if o.1 = 7 then ((sRemove s o.2.1).bind fun x750 =>
some (.inl (x750.1, x750.2)))
 else (if o.1 = 8 then ((sList s (o.1, o.2.1, o.2.2.1, o.2.2.2.1, o.2.2.2.2.1, o.2.2.2.2.2)).bind fun x752 =>
some (.inr (x752, s)))
 else (if o.1 = 9 then ((sStat s o.2.1).bind fun x755 =>
some (.inr (x755, s)))
 else (some (.inl (1, s)))))) fun o748 => Sum.elim (fun r748 => some (.inl (r748.1, r748.2))) (fun rv => some (.inr rv)) o748)) fun o737 => Sum.elim (fun r737 => some (.inl (r737.1, r737.2))) (fun rv => some (.inr rv)) o737)) fun o714 => Sum.elim (fun r714 => some (.inl (r714.1, r714.2))) (fun rv => some (.inr rv)) o714)) fun o668 => Sum.elim (fun r668 => some (.inl (r668.1, r668.2))) (fun rv => some (.inr rv)) o668)) fun o571 => Sum.elim (fun r571 => some (.inl (r571.1, r571.2))) (fun rv => some (.inr rv)) o571) fun o382 => Sum.elim (fun r382 => some ((r382.1, 0, ([] : List UInt8), ([] : List (List UInt8))), r382.2)) (fun rv => some rv) o382
noncomputable def fRead (list : List T_api_Pair) : Option ((List UInt8) → Option T_files_file) :=
Option.bind (α := (((List UInt8) → Option (List UInt8)) × ((List UInt8) → Option T_files_file))) (loopO (fun (s877 : ((List UInt8) → Option (List UInt8)) × ((List UInt8) → Option T_files_file) × Int) => if s877.2.2 < ((list).length : Int) then (Option.bind (α := (((List UInt8) → Option (List UInt8)) × ((List UInt8) → Option T_files_file))) ((idxO list s877.2.2).bind fun x966 =>
Option.bind (α := ((List UInt8) × (List UInt8))) (if 0 < ((x966.1).length : Int) then ((slcO x966.1 0 1).bind fun x982 =>
(slcO x966.1 1 ((x966.1).length : Int)).bind fun x984 =>
some (x982, x984))
 else (some ([], []))) fun r979 => Option.bind (α := (((List UInt8) → Option (List UInt8)) × ((List UInt8) → Option T_files_file))) (Option.bind (α := (((List UInt8) → Option (List UInt8)) × ((List UInt8) → Option T_files_file))) (if r979.1 = ([99]) then ((m_strings_Cut r979.2 ([0])).bind fun x1037 =>
(appO ((s877.1 x1037.1).getD []) x966.2).bind fun x1040 =>
some (fset x1037.1 x1040 s877.1, s877.2.1))
 else (Option.bind (α := (((List UInt8) → Option T_files_file))) (if r979.1 = ([110]) then (if ((x966.2).length : Int) = 1 then ((idxO x966.2 0).bind fun x1049 =>
some (fset r979.2 (decide (((x1049).toNat : Int) = 100), ([] : List UInt8)) s877.2.1))
 else (some (fset r979.2 (false, ([] : List UInt8)) s877.2.1)))
 else (some s877.2.1)) fun r1046 => some (s877.1, r1046))) fun r1035 => some (r1035.1, r1035.2)) fun r1018 => some (r1018.1, r1018.2)) fun r965 => some (.inl (r965.1, r965.2, IntKind.i64.wrap (s877.2.2 + 1))))
 else (some (.inr (s877.1, s877.2.1)))) ((fnil : (List UInt8) → Option (List UInt8)), (fnil : (List UInt8) → Option T_files_file), 0)) fun r528 => detM r528.2 (fun l1109 => (foldO (fun (s1109 : ((List UInt8) → Option T_files_file)) (x1109 : (List UInt8) × T_files_file) => Option.bind (α := (((List UInt8) → Option T_files_file))) (Option.bind (α := (((List UInt8) → Option T_files_file))) (if (!x1109.2.1) = true then (some (fset x1109.1 (false, ((r528.1 x1109.1).getD [])) s1109))
 else (some s1109)) fun r1133 => some r1133) fun r1124 => some (.inl r1124)) r528.2 l1109).bind (Sum.elim (fun (s1109 : ((List UInt8) → Option T_files_file)) => some s1109) some))
noncomputable def sPairs (s : (List UInt8) → Option T_files_file) : Option (List T_api_Pair) :=
detM s (fun l733 => (foldO (fun (s733 : (List T_api_Pair)) (x733 : (List UInt8) × T_files_file) => Option.bind (α := ((List T_api_Pair))) ((appO ([110]) x733.1).bind fun x923 =>
if x733.2.1 = true then ((u8O 100).bind fun x929 =>
(appO s733 ([(x923, [x929])])).bind fun x932 =>
some x932)
 else ((u8O 102).bind fun x935 =>
(penRaw ([] : List UInt8) ([x935])).bind fun x936 =>
(penUint x936 (IntKind.u64.wrap (((x733.2.2).length : Int))) 2).bind fun x937 =>
(penData x937.2).bind fun x938 =>
(appO s733 ([(x923, x938.1)])).bind fun x942 =>
(chunkN 64 (x733.2.2).length).bind fun x945 =>
Option.bind (α := (Int × (List T_api_Pair)) ⊕ Empty) (foldO (fun (s1047 : Int × (List T_api_Pair)) (x1047 : List UInt8) => Option.bind (α := ((List T_api_Pair))) ((appO ([99]) x733.1).bind fun x1074 =>
(u8O 0).bind fun x1077 =>
(u8O (IntKind.u8.wrap (s1047.1))).bind fun x1078 =>
(appO x1074 ([x1077, x1078])).bind fun x1080 =>
(cloneB x1047).bind fun x1081 =>
(appO s1047.2 ([(x1080, x1081)])).bind fun x1085 =>
some x1085) fun r1072 => some (.inl (IntKind.i64.wrap (s1047.1 + 1), r1072))) (0, x942) (chunkL x945 x733.2.2)) fun o1047 => Sum.elim (fun s1047 => some s1047.2) (fun r1047 => none) o1047)) fun r917 => some (.inl r917)) ([] : List T_api_Pair) l733).bind (Sum.elim (fun (s733 : (List T_api_Pair)) => (sortPs s733).bind fun x737 =>
some x737) some))
noncomputable def mClone (s : (List UInt8) → Option T_files_file) : Option ((List UInt8) → Option T_files_file) := some s
noncomputable def fDo (files : List T_api_Pair) (o : T_api_Op) : Option ((List T_api_Pair) × T_api_Answer) :=
(fRead files).bind fun x7 =>
(mClone x7).bind fun x9 =>
(sDo x7 o).bind fun x11 =>
if x11.1.1 = 0 then ((sPairs x11.2).bind fun x21 =>
some (x21, (x11.1.1, x11.1.2.1, x11.1.2.2.1, x11.1.2.2.2)))
 else ((sPairs x9).bind fun x19 =>
some (x19, (x11.1.1, x11.1.2.1, x11.1.2.2.1, x11.1.2.2.2)))
noncomputable def bEqual (xs : List UInt8) (ys : List UInt8) : Option Bool :=
some (decide (xs = ys))
noncomputable def m_files_same (x0_ : T_api_Pair) (x1_ : T_api_Pair) : Option Bool :=
(bEqual x0_.1 x1_.1).bind fun x13 =>
if x13 = true then ((bEqual x0_.2 x1_.2).bind fun x15 =>
some x15)
 else (some false)
noncomputable def eqPairs (xs : List T_api_Pair) (ys : List T_api_Pair) : Option Bool :=
if ((xs).length : Int) = ((ys).length : Int) then (Option.bind (α := (Unit) ⊕ Bool) (loopO (fun (s61 : Int) => if s61 < ((xs).length : Int) then ((idxO xs s61).bind fun x63 =>
(idxO ys s61).bind fun x67 =>
(m_files_same x63 x67).bind fun x71 =>
if (!x71) = true then (some (.inr (.inr false)))
 else (some (.inl (IntKind.i64.wrap (s61 + 1)))))
 else (some (.inr (.inl ())))) 0) fun o38 => Sum.elim (fun r38 => some true) (fun rv => some rv) o38)
 else (some false)
noncomputable def fCheck (files : List T_api_Pair) : Option Int :=
(fRead files).bind fun x2 =>
(sSound x2).bind fun x4 =>
if (!x4) = true then (some 22)
 else ((sPairs x2).bind fun x6 =>
(eqPairs x6 files).bind fun x8 =>
if (!x8) = true then (some 22)
 else (some 0))
noncomputable def fNew  : Option (List T_api_Pair) :=
(sPairs (fset ([47]) (true, ([] : List UInt8)) (fnil : (List UInt8) → Option T_files_file))).bind fun x3 =>
some x3
noncomputable def cloneBy (s : List UInt8) : Option (List UInt8) :=
(appO ([] : List UInt8) s).bind fun x5 =>
some x5
noncomputable def strCmp0 (a : List UInt8) (b : List UInt8) : Option Int := some (Lib.compareBytes a b)
noncomputable def strCmp (a : List UInt8) (b : List UInt8) : Option Int :=
(strCmp0 a b).bind fun x1 =>
some x1
noncomputable def nCompare (a_ : T_api_Snap) (b_ : T_api_Snap) : Option Int :=
(strCmp a_.1 b_.1).bind fun x9 =>
some x9
noncomputable def nPairs (list : List T_api_Pair) : Option (List T_api_Pair) :=
Option.bind (α := ((List T_api_Pair))) (loopO (fun (s91 : (List T_api_Pair) × Int) => if s91.2 < ((list).length : Int) then ((idxO list s91.2).bind fun x94 =>
(cloneBy x94.1).bind fun x102 =>
(cloneBy x94.2).bind fun x104 =>
(appO s91.1 ([(x102, x104)])).bind fun x108 =>
some (.inl (x108, IntKind.i64.wrap (s91.2 + 1))))
 else (some (.inr s91.1))) ([], 0)) fun r55 => some r55
noncomputable def nCopied (s : T_api_State) : Option T_api_State :=
(nPairs s.1).bind fun x10 =>
Option.bind (α := (T_api_State_o)) (loopO (fun (s95 : T_api_State_o × Int) => if s95.2 < ((s.2).length : Int) then ((idxO s.2 s95.2).bind fun x97 =>
(nPairs x97.2.2).bind fun x103 =>
(appO s95.1.2 ([(x97.1, x97.2.1, x103)])).bind fun x111 =>
some (.inl ((s95.1.1, x111), IntKind.i64.wrap (s95.2 + 1))))
 else (some (.inr s95.1))) ((x10, ([] : List T_api_Snap)), 0)) fun r62 => some (r62.1, r62.2)
noncomputable def nNew  : Option T_api_State :=
(fNew).bind fun x3 =>
some (x3, ([] : List T_api_Snap))
noncomputable def nUnits (s : T_api_State) : Option Int :=
Option.bind (α := (Int)) (loopO (fun (s44 : Int × Int) => if s44.2 < ((s.2).length : Int) then ((idxO s.2 s44.2).bind fun x46 =>
some (.inl (IntKind.i64.wrap (s44.1 + (IntKind.i64.wrap (1 + ((x46.2.2).length : Int)))), IntKind.i64.wrap (s44.2 + 1))))
 else (some (.inr s44.1))) (((s.1).length : Int), 0)) fun r29 => some r29
noncomputable def nCheck (s : T_api_State) : Option Int :=
(fCheck s.1).bind fun x7 =>
if x7 = 0 then ((nUnits (s.1, s.2)).bind fun x9 =>
Option.bind (α := (Bool)) (loopO (fun (s92 : Bool × Int) => if s92.2 < ((s.2).length : Int) then ((idxO s.2 s92.2).bind fun x94 =>
if s92.1 = true then (some (.inl (true, IntKind.i64.wrap (s92.2 + 1))))
 else ((fCheck x94.2.2).bind fun x101 =>
if x101 = 0 then ((m_path_Name x94.1).bind fun x103 =>
if (!x103) = true then (some (.inl (true, IntKind.i64.wrap (s92.2 + 1))))
 else (if 0 < s92.2 then ((idxO s.2 (IntKind.i64.wrap (s92.2 - 1))).bind fun x106 =>
(nCompare x106 (x94.1, x94.2.1, x94.2.2)).bind fun x108 =>
some (.inl (decide (0 ≤ x108), IntKind.i64.wrap (s92.2 + 1))))
 else (some (.inl (false, IntKind.i64.wrap (s92.2 + 1))))))
 else (some (.inl (true, IntKind.i64.wrap (s92.2 + 1))))))
 else (some (.inr s92.1))) (decide (48 < x9), 0)) fun r59 => if r59 = true then (some 22)
 else (some 0))
 else (Option.bind (α := (Unit)) (loopO (fun (s137 : Int) => if s137 < ((s.2).length : Int) then ((idxO s.2 s137).bind fun x139 =>
some (.inl (IntKind.i64.wrap (s137 + 1))))
 else (some (.inr ()))) 0) fun r126 => some 22)
noncomputable def nList (s : T_api_State) (behind : List UInt8) : Option T_api_Answer :=
Option.bind (α := ((List (List UInt8)))) (loopO (fun (s203 : (List (List UInt8)) × Int) => if s203.2 < ((s.2).length : Int) then (Option.bind (α := ((List (List UInt8)))) ((idxO s.2 s203.2).bind fun x225 =>
if (gtrB x225.1 behind) = true then (Option.bind (α := ((List (List UInt8)))) (if ((s203.1).length : Int) < 6 then ((appO s203.1 ([x225.1])).bind fun x241 =>
some x241)
 else (some s203.1)) fun r236 => some r236)
 else (some s203.1)) fun r223 => some (.inl (r223, IntKind.i64.wrap (s203.2 + 1))))
 else (some (.inr s203.1))) (([] : List (List UInt8)), 0)) fun r125 => some (0, ((s.2).length : Int), ([] : List UInt8), r125)
noncomputable def bsSnap (xs : List T_api_Snap) (t_ : T_api_Snap) : Option (Int × Bool) :=
Option.bind (α := (Int)) (loopO (fun (s86 : Int × Int) => if s86.1 < s86.2 then (Option.bind (α := (Int × Int)) ((idxO xs (IntKind.i64.wrap (shrI .u64 (IntKind.u64.wrap (IntKind.i64.wrap (s86.1 + s86.2))) 1))).bind fun x96 =>
(nCompare x96 t_).bind fun x99 =>
Option.bind (α := (Int × Int)) (if x99 < 0 then (some (IntKind.i64.wrap ((IntKind.i64.wrap (shrI .u64 (IntKind.u64.wrap (IntKind.i64.wrap (s86.1 + s86.2))) 1)) + 1), s86.2))
 else (some (s86.1, IntKind.i64.wrap (shrI .u64 (IntKind.u64.wrap (IntKind.i64.wrap (s86.1 + s86.2))) 1)))) fun r101 => some (r101.1, r101.2)) fun r95 => some (.inl (r95.1, r95.2)))
 else (some (.inr s86.1))) (0, ((xs).length : Int))) fun r53 => if r53 < ((xs).length : Int) then ((idxO xs r53).bind fun x104 =>
(nCompare x104 t_).bind fun x107 =>
some (r53, decide (x107 = 0)))
 else (some (r53, false))
noncomputable def insSnap (s : List T_api_Snap) (i_ : Int) (v : List T_api_Snap) : Option (List T_api_Snap) := insO s i_ v
noncomputable def delSnap (s : List T_api_Snap) (i_ : Int) (j_ : Int) : Option (List T_api_Snap) := cutO s i_ j_
noncomputable def nSnap (s : T_api_State_o) (o : T_api_Op) (gen : Int) : Option (Int × T_api_State_o) :=
(m_path_Name o.2.1).bind fun x5 =>
if (!x5) = true then (some (90, s))
 else ((bsSnap s.2 (o.2.1, 0, ([] : List T_api_Pair))).bind fun x11 =>
Option.bind (α := (T_api_State_o) ⊕ (Int × T_api_State_o)) (if o.1 = 10 then (Option.bind (α := (T_api_State_o) ⊕ (Int × T_api_State_o)) (if x11.2 = true then (some (.inr (92, s)))
 else (Option.bind (α := (T_api_State_o) ⊕ (Int × T_api_State_o)) (if o.1 = 10 then ((nPairs s.1).bind fun x814 =>
(insSnap s.2 x11.1 ([(o.2.1, gen, x814)])).bind fun x817 =>
some (.inl (s.1, x817)))
 else (Option.bind (α := (T_api_State_o) ⊕ (Int × T_api_State_o)) (if (!x11.2) = true then (some (.inr (91, s)))
 else (Option.bind (α := (T_api_State_o)) (if o.1 = 11 then ((delSnap s.2 x11.1 (IntKind.i64.wrap (x11.1 + 1))).bind fun x883 =>
some (s.1, x883))
 else ((idxO s.2 x11.1).bind fun x889 =>
(nPairs x889.2.2).bind fun x894 =>
some (x894, s.2))) fun r877 => some (.inl r877))) fun o857 => Sum.elim (fun r857 => some (.inl r857)) (fun rv => some (.inr rv)) o857)) fun o808 => Sum.elim (fun r808 => some (.inl r808)) (fun rv => some (.inr rv)) o808)) fun o719 => Sum.elim (fun r719 => some (.inl r719)) (fun rv => some (.inr rv)) o719)
 else (Option.bind (α := (T_api_State_o) ⊕ (Int × T_api_State_o)) (if o.1 = 10 then ((nPairs s.1).bind fun x989 =>
(insSnap s.2 x11.1 ([(o.2.1, gen, x989)])).bind fun x992 =>
some (.inl (s.1, x992)))
 else (Option.bind (α := (T_api_State_o) ⊕ (Int × T_api_State_o)) (if (!x11.2) = true then (some (.inr (91, s)))
 else (Option.bind (α := (T_api_State_o)) (if o.1 = 11 then ((delSnap s.2 x11.1 (IntKind.i64.wrap (x11.1 + 1))).bind fun x1058 =>
some (s.1, x1058))
 else ((idxO s.2 x11.1).bind fun x1064 =>
(nPairs x1064.2.2).bind fun x1069 =>
some (x1069, s.2))) fun r1052 => some (.inl r1052))) fun o1032 => Sum.elim (fun r1032 => some (.inl r1032)) (fun rv => some (.inr rv)) o1032)) fun o983 => Sum.elim (fun r983 => some (.inl r983)) (fun rv => some (.inr rv)) o983)) fun o541 => Sum.elim (fun r541 => some (0, r541)) (fun rv => some rv) o541)
noncomputable def nDo (s : T_api_State) (o : T_api_Op) (gen : Int) : Option (T_api_State × T_api_Answer) :=
(nCopied s).bind fun x9 =>
Option.bind (α := (T_api_State_o × T_api_Answer × T_api_State)) (Option.bind (α := (Bool)) (if o.1 = 10 then (some (decide (o.1 = 10)))
 else (Option.bind (α := (Bool)) (if o.1 = 11 then (some (decide (o.1 = 11)))
 else (some (decide (o.1 = 12)))) fun r104 => some r104)) fun r101 => Option.bind (α := (T_api_State_o × T_api_Answer × T_api_State)) (if r101 = true then ((nSnap (x9.1, x9.2) (o.1, o.2.1, o.2.2.1, o.2.2.2.1, o.2.2.2.2.1, o.2.2.2.2.2) gen).bind fun x143 =>
some (x143.2, (x143.1, 0, ([] : List UInt8), ([] : List (List UInt8))), s))
 else (Option.bind (α := (T_api_State_o × T_api_Answer × T_api_State)) (if o.1 = 13 then ((nList s o.2.2.1).bind fun x162 =>
some ((x9.1, x9.2), x162, s))
 else ((fDo s.1 (o.1, o.2.1, o.2.2.1, o.2.2.2.1, o.2.2.2.2.1, o.2.2.2.2.2)).bind fun x168 =>
some ((x168.1, (x9.1, x9.2).2), x168.2, (s.1, s.2)))) fun r158 => some (r158.1, r158.2.1, r158.2.2))) fun r139 => some (r139.1, r139.2.1, r139.2.2)) fun r94 => if r94.2.1.1 = 0 then ((nUnits (r94.1.1, r94.1.2)).bind fun x184 =>
Option.bind (α := ((Int × Int × (List UInt8) × (List (List UInt8))))) (if 48 < x184 then (some (98, 0, ([] : List UInt8), ([] : List (List UInt8))))
 else (some (r94.2.1.1, r94.2.1.2.1, r94.2.1.2.2.1, r94.2.1.2.2.2))) fun r186 => if r186.1 = 0 then (some ((r94.1.1, r94.1.2), (r186.1, r186.2.1, r186.2.2.1, r186.2.2.2)))
 else ((nCopied r94.2.2).bind fun x191 =>
some ((x191.1, x191.2), (r186.1, r186.2.1, r186.2.2.1, r186.2.2.2))))
 else (if r94.2.1.1 = 0 then (some ((r94.1.1, r94.1.2), (r94.2.1.1, r94.2.1.2.1, r94.2.1.2.2.1, r94.2.1.2.2.2)))
 else ((nCopied r94.2.2).bind fun x203 =>
some ((x203.1, x203.2), (r94.2.1.1, r94.2.1.2.1, r94.2.1.2.2.1, r94.2.1.2.2.2))))
noncomputable def rSamePairs (a_ : List T_api_Pair) (b_ : List T_api_Pair) : Option Bool :=
if ((a_).length : Int) = ((b_).length : Int) then (Option.bind (α := (Unit) ⊕ Bool) (loopO (fun (s151 : Int) => if s151 < ((a_).length : Int) then ((idxO a_ s151).bind fun x153 =>
(idxO b_ s151).bind fun x160 =>
if x153.1 = x160.1 then ((idxO a_ s151).bind fun x168 =>
(idxO b_ s151).bind fun x174 =>
if x168.2 = x174.2 then (some (.inl (IntKind.i64.wrap (s151 + 1))))
 else (some (.inr (.inr false))))
 else (some (.inr (.inr false))))
 else (some (.inr (.inl ())))) 0) fun o92 => Sum.elim (fun r92 => some true) (fun rv => some rv) o92)
 else (some false)
noncomputable def rGreat (list : List T_api_Pair) : Option Bool :=
Option.bind (α := (Int) ⊕ Bool) (loopO (fun (s149 : Int × Int) => if s149.2 < ((list).length : Int) then (if s149.1 ≤ 8000 then ((idxO list s149.2).bind fun x152 =>
if 8000 < ((x152.1).length : Int) then (some (.inr (.inr true)))
 else ((idxO list s149.2).bind fun x160 =>
if 8000 < ((x160.2).length : Int) then (some (.inr (.inr true)))
 else ((idxO list s149.2).bind fun x167 =>
(idxO list s149.2).bind fun x173 =>
some (.inl (IntKind.i64.wrap (s149.1 + (IntKind.i64.wrap ((IntKind.i64.wrap (8 + ((x167.1).length : Int))) + ((x173.2).length : Int)))), IntKind.i64.wrap (s149.2 + 1))))))
 else (some (.inr (.inl s149.1))))
 else (some (.inr (.inl s149.1)))) (0, 0)) fun o90 => Sum.elim (fun r90 => some (decide (8000 < r90))) (fun rv => some rv) o90
noncomputable def rGreatOp (o : T_api_Op) : Option Bool :=
if 400 < ((o.2.1).length : Int) then (some true)
 else (if 400 < ((o.2.2.1).length : Int) then (some true)
 else (some (decide (400 < ((o.2.2.2.2.2).length : Int)))))
noncomputable def rSameS (a_ : T_api_State) (b_ : T_api_State) : Option Bool :=
(rSamePairs a_.1 b_.1).bind fun x13 =>
if (!x13) = true then (some false)
 else (if ((a_.2).length : Int) = ((b_.2).length : Int) then (Option.bind (α := (Unit) ⊕ Bool) (loopO (fun (s188 : Int) => if s188 < ((a_.2).length : Int) then (Option.bind (α := (T_api_Snap × T_api_Snap)) ((idxO a_.2 s188).bind fun x205 =>
(idxO b_.2 s188).bind fun x208 =>
some (x205, x208)) fun r200 => if r200.1.1 = r200.2.1 then (if r200.1.2.1 = r200.2.2.1 then ((rSamePairs r200.1.2.2 r200.2.2.2).bind fun x221 =>
if (!x221) = true then (some (.inr (.inr false)))
 else (some (.inl (IntKind.i64.wrap (s188 + 1)))))
 else (some (.inr (.inr false))))
 else (some (.inr (.inr false))))
 else (some (.inr (.inl ())))) 0) fun o119 => Sum.elim (fun r119 => some true) (fun rv => some rv) o119)
 else (some false))
noncomputable def rGreatS (s : T_api_State) : Option Bool :=
(rGreat s.1).bind fun x7 =>
if x7 = true then (some true)
 else (if 60 < ((s.1).length : Int) then (some true)
 else (if 40 < ((s.2).length : Int) then (some true)
 else (Option.bind (α := (Unit) ⊕ Bool) (loopO (fun (s103 : Int) => if s103 < ((s.2).length : Int) then ((idxO s.2 s103).bind fun x105 =>
(rGreat x105.2.2).bind fun x110 =>
if x110 = true then (some (.inr (.inr true)))
 else ((idxO s.2 s103).bind fun x112 =>
if 60 < ((x112.2.2).length : Int) then (some (.inr (.inr true)))
 else ((idxO s.2 s103).bind fun x117 =>
if 50 < ((x117.1).length : Int) then (some (.inr (.inr true)))
 else (some (.inl (IntKind.i64.wrap (s103 + 1)))))))
 else (some (.inr (.inl ())))) 0) fun o66 => Sum.elim (fun r66 => some false) (fun rv => some rv) o66)))
noncomputable def lSpeaks  : Option Bool :=
(nNew).bind fun x1 =>
(nDo x1 (10, [115], [], 0, 0, ([] : List UInt8)) 1).bind fun x3 =>
(nDo x3.1 (1, [47, 97], [], 0, 0, ([] : List UInt8)) 2).bind fun x8 =>
(nDo x8.1 (12, [115], [], 0, 0, ([] : List UInt8)) 3).bind fun x12 =>
(nDo x12.1 (9, [47, 97], [], 0, 0, ([] : List UInt8)) 4).bind fun x16 =>
if (IntKind.i64.wrap ((IntKind.i64.wrap (x3.2.1 + x8.2.1)) + x12.2.1)) = 0 then (if x16.2.1 = 91 then ((nNew).bind fun x39 =>
(nUnits x39).bind fun x41 =>
some (decide (x41 = 1)))
 else (some false))
 else (some false)
noncomputable def lFull (s : T_api_State) (o : T_api_Op) : Option Bool :=
(lSpeaks).bind fun x5 =>
if (!x5) = true then (some false)
 else ((rGreatS s).bind fun x7 =>
if x7 = true then (some true)
 else ((rGreatOp o).bind fun x9 =>
if x9 = true then (some true)
 else ((nCheck s).bind fun x11 =>
if x11 = 0 then ((nDo s o 5).bind fun x13 =>
if x13.2.1 = 0 then ((nUnits x13.1).bind fun x23 =>
if x23 ≤ 48 then ((nCheck x13.1).bind fun x25 =>
some (decide (x25 = 0)))
 else (some false))
 else ((rSameS x13.1 s).bind fun x26 =>
if (!x26) = true then (some false)
 else ((nUnits x13.1).bind fun x28 =>
if x28 ≤ 48 then ((nCheck x13.1).bind fun x30 =>
some (decide (x30 = 0)))
 else (some false))))
 else (some true))))
noncomputable def lUnits (s : T_api_State) (name : List UInt8) : Option Bool :=
(lSpeaks).bind fun x3 =>
if (!x3) = true then (some false)
 else ((rGreatS s).bind fun x5 =>
if x5 = true then (some true)
 else (if 50 < ((name).length : Int) then (some true)
 else ((nCheck s).bind fun x8 =>
if x8 = 0 then ((nUnits s).bind fun x10 =>
(nDo s (10, name, [], 0, 0, ([] : List UInt8)) 3).bind fun x11 =>
if x11.2.1 = 0 then ((nDo x11.1 (11, name, [], 0, 0, ([] : List UInt8)) 4).bind fun x22 =>
(nUnits x11.1).bind fun x27 =>
if x27 = (IntKind.i64.wrap ((IntKind.i64.wrap (x10 + 1)) + ((s.1).length : Int))) then (if x22.2.1 = 0 then ((rSameS x22.1 (s.1, s.2)).bind fun x38 =>
some x38)
 else (some false))
 else (some false))
 else ((rSameS x11.1 s).bind fun x21 =>
some x21))
 else (some true))))
noncomputable def lTwice (s : T_api_State) (name : List UInt8) : Option Bool :=
(lSpeaks).bind fun x3 =>
if (!x3) = true then (some false)
 else ((rGreatS s).bind fun x5 =>
if x5 = true then (some true)
 else (if 50 < ((name).length : Int) then (some true)
 else ((nCheck s).bind fun x8 =>
if x8 = 0 then ((nDo s (12, name, [], 0, 0, ([] : List UInt8)) 1).bind fun x11 =>
(nDo x11.1 (12, name, [], 0, 0, ([] : List UInt8)) 2).bind fun x16 =>
if x11.2.1 = x16.2.1 then ((rSameS x11.1 x16.1).bind fun x30 =>
if x30 = true then (some (decide (((x11.1.2).length : Int) = ((s.2).length : Int))))
 else (some false))
 else (some false))
 else (some true))))
noncomputable def lLists (s : T_api_State) : Option Bool :=
(lSpeaks).bind fun x3 =>
if (!x3) = true then (some false)
 else ((rGreatS s).bind fun x5 =>
if x5 = true then (some true)
 else ((nCheck s).bind fun x7 =>
if x7 = 0 then (Option.bind (α := (T_api_State × (List (List UInt8))) ⊕ Bool) (loopO (fun (s149 : T_api_State × (List UInt8) × (List (List UInt8)) × Int) => if s149.2.2.2 < 40 then ((nDo s149.1 (13, [], s149.2.1, 0, 0, ([] : List UInt8)) 1).bind fun x153 =>
if x153.2.1 = 0 then (if x153.2.2.1 = ((s149.1.2).length : Int) then (if 6 < ((x153.2.2.2.2).length : Int) then (some (.inr (.inr false)))
 else ((rSameS x153.1 (s149.1.1, s149.1.2)).bind fun x169 =>
if (!x169) = true then (some (.inr (.inr false)))
 else (if ((x153.2.2.2.2).length : Int) = 0 then (some (.inr (.inl ((s149.1.1, s149.1.2), s149.2.2.1))))
 else ((appO s149.2.2.1 x153.2.2.2.2).bind fun x173 =>
(idxO x153.2.2.2.2 (IntKind.i64.wrap (((x153.2.2.2.2).length : Int) - 1))).bind fun x174 =>
some (.inl ((s149.1.1, s149.1.2), x174, x173, IntKind.i64.wrap (s149.2.2.2 + 1)))))))
 else (some (.inr (.inr false))))
 else (some (.inr (.inr false))))
 else (some (.inr (.inl (s149.1, s149.2.2.1))))) (s, [], ([] : List (List UInt8)), 0)) fun o92 => Sum.elim (fun r92 => if ((r92.2).length : Int) = ((r92.1.2).length : Int) then (Option.bind (α := (Unit) ⊕ Bool) (loopO (fun (s239 : Int) => if s239 < ((r92.1.2).length : Int) then ((idxO r92.1.2 s239).bind fun x241 =>
(idxO r92.2 s239).bind fun x245 =>
if x245 = x241.1 then (some (.inl (IntKind.i64.wrap (s239 + 1))))
 else (some (.inr (.inr false))))
 else (some (.inr (.inl ())))) 0) fun o216 => Sum.elim (fun r216 => some true) (fun rv => some rv) o216)
 else (some false)) (fun rv => some rv) o92)
 else (some true)))
end Go.Proofs.YtnagibpmfabkjaaGreatDoor
