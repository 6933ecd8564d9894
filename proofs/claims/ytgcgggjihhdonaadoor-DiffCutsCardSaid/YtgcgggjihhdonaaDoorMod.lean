/- Models. -/
import Derived.Test.YtgcgggjihhdonaaDoorK
set_option linter.unusedSimpArgs false
set_option linter.unusedVariables false
namespace Go.Proofs.YtgcgggjihhdonaaDoor
open Go.RowKit Go.Tri
def shaStart : List Int := [0x6a09e667, 0xbb67ae85, 0x3c6ef372, 0xa54ff53a, 0x510e527f, 0x9b05688c, 0x1f83d9ab, 0x5be0cd19]
theorem shaStart_len : shaStart.length = 8 := rfl
def shaRounds : List Int := [0x428a2f98, 0x71374491, 0xb5c0fbcf, 0xe9b5dba5, 0x3956c25b, 0x59f111f1, 0x923f82a4, 0xab1c5ed5, 0xd807aa98, 0x12835b01, 0x243185be, 0x550c7dc3, 0x72be5d74, 0x80deb1fe, 0x9bdc06a7, 0xc19bf174, 0xe49b69c1, 0xefbe4786, 0x0fc19dc6, 0x240ca1cc, 0x2de92c6f, 0x4a7484aa, 0x5cb0a9dc, 0x76f988da, 0x983e5152, 0xa831c66d, 0xb00327c8, 0xbf597fc7, 0xc6e00bf3, 0xd5a79147, 0x06ca6351, 0x14292967, 0x27b70a85, 0x2e1b2138, 0x4d2c6dfc, 0x53380d13, 0x650a7354, 0x766a0abb, 0x81c2c92e, 0x92722c85, 0xa2bfe8a1, 0xa81a664b, 0xc24b8b70, 0xc76c51a3, 0xd192e819, 0xd6990624, 0xf40e3585, 0x106aa070, 0x19a4c116, 0x1e376c08, 0x2748774c, 0x34b0bcb5, 0x391c0cb3, 0x4ed8aa4a, 0x5b9cca4f, 0x682e6ff3, 0x748f82ee, 0x78a5636f, 0x84c87814, 0x8cc70208, 0x90befffa, 0xa4506ceb, 0xbef9a3f7, 0xc67178f2]
theorem shaRounds_len : shaRounds.length = 64 := by kernel_rfl
abbrev T_diff_place : Type := (List UInt8) × Int × Int
abbrev T_diff_finder_o : Type := Int × (List T_diff_place) × (T_diff_place → Option Int) × ((List UInt8) → Option Int)
abbrev R_diff_place : Rp T_diff_place := (rPair (rBytesN 32) (rPair (rInt .i64) (rInt .i64)))
def O_diff_finder (b : Nat) (k0 : Option Nat) (x : T_diff_finder_o) : HP := HP.ex fun (i : (Option Addr) × Nat × Nat × Nat) => [HP.blk b ([.map k0, .int .u64 (x.1), .slice i.1 (x.2.1).length i.2.1, .map (some i.2.2.1), .map (some i.2.2.2)]) 45, HP.ow R_diff_place 48 i.1 i.2.1 x.2.1, HP.mm (some i.2.2.1) ekP3 false (rInt .i64) (okP3 32) x.2.2.1, HP.mm (some i.2.2.2) hv false (rInt .i64) (fun l => l.length = 32) x.2.2.2]
theorem O_diff_finder_o {w0 w : World} {l : List HP} {b : Nat} {k0 : Option Nat} {x : T_diff_finder_o} (H : St w0 w (O_diff_finder b k0 x :: l)) : ∃ (i1 : Option Addr) (c1 : Nat) (m2 : Nat) (m3 : Nat), St w0 w (HP.blk b ([.map k0, .int .u64 (x.1), .slice i1 (x.2.1).length c1, .map (some m2), .map (some m3)]) 45 :: HP.ow R_diff_place 48 i1 c1 x.2.1 :: HP.mm (some m2) ekP3 false (rInt .i64) (okP3 32) x.2.2.1 :: HP.mm (some m3) hv false (rInt .i64) (fun l => l.length = 32) x.2.2.2 :: l) := by
  obtain ⟨⟨i1, c1, m2, m3⟩, H⟩ := H.exOpen
  exact ⟨i1, c1, m2, m3, H⟩
theorem O_diff_finder_s {w0 w : World} {l : List HP} {b : Nat} {k0 : Option Nat} {i1 : Option Addr} {c1 : Nat} {m2 : Nat} {m3 : Nat} {x1 : Int} {x2 : List T_diff_place} {x3 : T_diff_place → Option Int} {x4 : (List UInt8) → Option Int}  (H : St w0 w (HP.blk b ([.map k0, .int .u64 (x1), .slice i1 (x2).length c1, .map (some m2), .map (some m3)]) 45 :: HP.ow R_diff_place 48 i1 c1 (x2) :: HP.mm (some m2) ekP3 false (rInt .i64) (okP3 32) (x3) :: HP.mm (some m3) hv false (rInt .i64) (fun l => l.length = 32) (x4) :: l)) : St w0 w (O_diff_finder b k0 (x1, x2, x3, x4) :: l) := by
  unfold O_diff_finder
  exact St.exShut (i1, c1, m2, m3) H
noncomputable def m_slices_Clone___api_Hash_api_Hash_ (x0_ : List (List UInt8)) : Option (List (List UInt8)) :=
(appO ([] : List (List UInt8)) x0_).bind fun x5 =>
some x5
noncomputable def m_triremeref05_Same (x0_ : List (List UInt8)) (x1_ : List (List UInt8)) : Option Bool :=
if ((x0_).length : Int) = ((x1_).length : Int) then (Option.bind (α := (Unit) ⊕ Bool) (loopO (fun (s56 : Int) => if s56 < ((x0_).length : Int) then ((idxO x0_ s56).bind fun x58 =>
(idxO x1_ s56).bind fun x62 =>
if x58 = x62 then (some (.inl (IntKind.i64.wrap (s56 + 1))))
 else (some (.inr (.inr false))))
 else (some (.inr (.inl ())))) 0) fun o35 => Sum.elim (fun r35 => some true) (fun rv => some rv) o35)
 else (some false)
noncomputable def m_diff_Cut (x0_ : List (List UInt8)) (x1_ : Int) : Option (List (List (List UInt8))) :=
Option.bind (α := (Int)) (if x1_ < 1 then (some (max 1 ((x0_).length : Int)))
 else (some x1_)) fun r5 => (chunkN r5 (x0_).length).bind fun x9 =>
Option.bind (α := ((List (List (List UInt8)))) ⊕ Empty) (foldO (fun (s25 : (List (List (List UInt8)))) (x25 : List (List UInt8)) => (m_slices_Clone___api_Hash_api_Hash_ x25).bind fun x27 =>
(appO s25 ([x27])).bind fun x31 =>
some (.inl x31)) ([] : List (List (List UInt8))) (chunkL x9 x0_)) fun o25 => Sum.elim (fun s25 => some s25) (fun r25 => none) o25
noncomputable def dfMeet (f : T_diff_finder_o) (p : T_diff_place) : Option T_diff_finder_o :=
(keyP3 32 (p.1, p.2.1, p.2.2)).bind fun x7 =>
(keyP3 32 (p.1, p.2.1, p.2.2)).bind fun x8 =>
(keyP3 32 (p.1, p.2.1, p.2.2)).bind fun x11 =>
if (((fset (p.1, p.2.1, p.2.2) (IntKind.i64.wrap (((f.2.2.1 (p.1, p.2.1, p.2.2)).getD 0) + 1)) f.2.2.1) (p.1, p.2.1, p.2.2)).getD 0) = 1 then ((appO f.2.1 ([(p.1, p.2.1, p.2.2)])).bind fun x16 =>
some (f.1, x16, fset (p.1, p.2.1, p.2.2) (IntKind.i64.wrap (((f.2.2.1 (p.1, p.2.1, p.2.2)).getD 0) + 1)) f.2.2.1, f.2.2.2))
 else (some (f.1, f.2.1, fset (p.1, p.2.1, p.2.2) (IntKind.i64.wrap (((f.2.2.1 (p.1, p.2.1, p.2.2)).getD 0) + 1)) f.2.2.1, f.2.2.2))
noncomputable def dfSum (b : List UInt8) : Option (List UInt8) := none
noncomputable def dfRecord (f : T_diff_finder_o) (b : List UInt8) (head : Bool) : Option (Bool × T_diff_finder_o) := none
noncomputable def dfTree (f : T_diff_finder_o) (b : List UInt8) (p : T_diff_place) : Option (Bool × T_diff_finder_o) := none
noncomputable def dfRising (s : (List UInt8) → Option Int) : Option (List (List UInt8)) :=
(sortKeysO s).bind fun x5 =>
some x5
noncomputable def m_diff_Missing (x0_ : (List UInt8) → Option (List UInt8)) (x1_ : List UInt8) (x2_ : Int) : Option ((List (List UInt8)) × Int) :=
(dfMeet (x2_, ([] : List T_diff_place), (fnil : T_diff_place → Option Int), (fnil : (List UInt8) → Option Int)) (x1_, 0, 0)).bind fun x8 =>
Option.bind (α := (T_diff_finder_o) ⊕ ((List (List UInt8)) × Int)) (loopO (fun (s2196 : T_diff_finder_o × Int) => if s2196.2 < ((s2196.1.2.1).length : Int) then (Option.bind (α := ((Int × (List T_diff_place) × (T_diff_place → Option Int) × ((List UInt8) → Option Int))) ⊕ ((List (List UInt8)) × Int)) ((idxO s2196.1.2.1 s2196.2).bind fun x2420 =>
Option.bind (α := ((Int × (List T_diff_place) × (T_diff_place → Option Int) × ((List UInt8) → Option Int))) ⊕ ((List (List UInt8)) × Int)) (Option.bind (α := ((Int × (List T_diff_place) × (T_diff_place → Option Int) × ((List UInt8) → Option Int))) ⊕ ((List (List UInt8)) × Int)) (if (!((x0_ x2420.1).isSome)) = true then (some (.inl (s2196.1.1, s2196.1.2.1, s2196.1.2.2.1, fset x2420.1 1 s2196.1.2.2.2)))
 else ((dfSum ((x0_ x2420.1).getD [])).bind fun x2587 =>
Option.bind (α := ((Int × (List T_diff_place) × (T_diff_place → Option Int) × ((List UInt8) → Option Int)) × Bool)) (if x2587 = x2420.1 then (if x2420.2.1 ≤ 1 then ((dfRecord s2196.1 ((x0_ x2420.1).getD []) (decide (x2420.2.1 = 0))).bind fun x2615 =>
Option.bind (α := (T_diff_finder_o × Bool)) (if (!x2615.1) = true then (some (x2615.2, !x2615.1))
 else (if 1 < x2420.2.1 then ((dfTree x2615.2 ((x0_ x2420.1).getD []) (x2420.1, x2420.2.1, x2420.2.2)).bind fun x2622 =>
some (x2622.2, !x2622.1))
 else (some (x2615.2, false)))) fun r2619 => some ((r2619.1.1, r2619.1.2.1, r2619.1.2.2.1, r2619.1.2.2.2), r2619.2))
 else (if 1 < x2420.2.1 then ((dfTree s2196.1 ((x0_ x2420.1).getD []) (x2420.1, x2420.2.1, x2420.2.2)).bind fun x2628 =>
some ((x2628.2.1, x2628.2.2.1, x2628.2.2.2.1, x2628.2.2.2.2), !x2628.1))
 else (some ((s2196.1.1, s2196.1.2.1, s2196.1.2.2.1, s2196.1.2.2.2), false))))
 else (some ((s2196.1.1, s2196.1.2.1, s2196.1.2.2.1, s2196.1.2.2.2), !decide (x2587 = x2420.1)))) fun r2609 => if r2609.2 = true then (some (.inr (([] : List (List UInt8)), 22)))
 else (some (.inl (r2609.1.1, r2609.1.2.1, r2609.1.2.2.1, r2609.1.2.2.2))))) fun o2582 => Sum.elim (fun r2582 => some (.inl (r2582.1, r2582.2.1, r2582.2.2.1, r2582.2.2.2))) (fun rv => some (.inr rv)) o2582) fun o2530 => Sum.elim (fun r2530 => some (.inl (r2530.1, r2530.2.1, r2530.2.2.1, r2530.2.2.2))) (fun rv => some (.inr rv)) o2530) fun o2416 => Sum.elim (fun r2416 => some (.inl ((r2416.1, r2416.2.1, r2416.2.2.1, r2416.2.2.2), IntKind.i64.wrap (s2196.2 + 1)))) (fun rv => some (.inr (.inr rv))) o2416)
 else (some (.inr (.inl s2196.1)))) (x8, 0)) fun o1321 => Sum.elim (fun r1321 => (dfRising r1321.2.2.2).bind fun x2638 =>
some (x2638, 0)) (fun rv => some rv) o1321
noncomputable def m_triremelaw17_speaks  : Option Bool :=
(m_diff_Missing (fnil : (List UInt8) → Option (List UInt8)) ([7, 0, 0, 0, 0, 0, 0, 0, 0, 0, 0, 0, 0, 0, 0, 0, 0, 0, 0, 0, 0, 0, 0, 0, 0, 0, 0, 0, 0, 0, 0, 0] : List UInt8) 0).bind fun x1 =>
if x1.2 = 0 then (if ((x1.1).length : Int) = 1 then ((idxO x1.1 0).bind fun x5 =>
some (decide (x5 = ([7, 0, 0, 0, 0, 0, 0, 0, 0, 0, 0, 0, 0, 0, 0, 0, 0, 0, 0, 0, 0, 0, 0, 0, 0, 0, 0, 0, 0, 0, 0, 0] : List UInt8))))
 else (some false))
 else (some false)
noncomputable def m_triremelaw17_DiffCuts (x0_ : List (List UInt8)) (x1_ : Int) : Option Bool :=
(m_triremelaw17_speaks).bind fun x2 =>
if (!x2) = true then (some false)
 else (if 200 < ((x0_).length : Int) then (some true)
 else ((m_diff_Cut x0_ x1_).bind fun x5 =>
Option.bind (α := ((List (List UInt8))) ⊕ Bool) (loopO (fun (s156 : (List (List UInt8)) × Int) => if s156.2 < ((x5).length : Int) then ((idxO x5 s156.2).bind fun x159 =>
if ((x159).length : Int) = 0 then (some (.inr (.inr false)))
 else (if 0 < x1_ then (if x1_ < ((x159).length : Int) then (some (.inr (.inr false)))
 else (if ((x159).length : Int) < x1_ then (if s156.2 < (IntKind.i64.wrap (((x5).length : Int) - 1)) then (some (.inr (.inr false)))
 else (if x1_ < 1 then (if ((x5).length : Int) = 1 then ((appO s156.1 x159).bind fun x171 =>
some (.inl (x171, IntKind.i64.wrap (s156.2 + 1))))
 else (some (.inr (.inr false))))
 else ((appO s156.1 x159).bind fun x173 =>
some (.inl (x173, IntKind.i64.wrap (s156.2 + 1))))))
 else (if x1_ < 1 then (if ((x5).length : Int) = 1 then ((appO s156.1 x159).bind fun x177 =>
some (.inl (x177, IntKind.i64.wrap (s156.2 + 1))))
 else (some (.inr (.inr false))))
 else ((appO s156.1 x159).bind fun x179 =>
some (.inl (x179, IntKind.i64.wrap (s156.2 + 1)))))))
 else (if x1_ < 1 then (if ((x5).length : Int) = 1 then ((appO s156.1 x159).bind fun x183 =>
some (.inl (x183, IntKind.i64.wrap (s156.2 + 1))))
 else (some (.inr (.inr false))))
 else ((appO s156.1 x159).bind fun x185 =>
some (.inl (x185, IntKind.i64.wrap (s156.2 + 1)))))))
 else (some (.inr (.inl s156.1)))) (([] : List (List UInt8)), 0)) fun o96 => Sum.elim (fun r96 => (m_triremeref05_Same r96 x0_).bind fun x186 =>
some x186) (fun rv => some rv) o96))
end Go.Proofs.YtgcgggjihhdonaaDoor
