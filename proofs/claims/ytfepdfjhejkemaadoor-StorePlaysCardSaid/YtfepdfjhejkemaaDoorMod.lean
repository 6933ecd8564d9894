/- Models. -/
import Derived.Test.YtfepdfjhejkemaaDoorK
set_option linter.unusedSimpArgs false
set_option linter.unusedVariables false
namespace Go.Proofs.YtfepdfjhejkemaaDoor
open Go.RowKit Go.Tri
def shaStart : List Int := [0x6a09e667, 0xbb67ae85, 0x3c6ef372, 0xa54ff53a, 0x510e527f, 0x9b05688c, 0x1f83d9ab, 0x5be0cd19]
theorem shaStart_len : shaStart.length = 8 := rfl
def shaRounds : List Int := [0x428a2f98, 0x71374491, 0xb5c0fbcf, 0xe9b5dba5, 0x3956c25b, 0x59f111f1, 0x923f82a4, 0xab1c5ed5, 0xd807aa98, 0x12835b01, 0x243185be, 0x550c7dc3, 0x72be5d74, 0x80deb1fe, 0x9bdc06a7, 0xc19bf174, 0xe49b69c1, 0xefbe4786, 0x0fc19dc6, 0x240ca1cc, 0x2de92c6f, 0x4a7484aa, 0x5cb0a9dc, 0x76f988da, 0x983e5152, 0xa831c66d, 0xb00327c8, 0xbf597fc7, 0xc6e00bf3, 0xd5a79147, 0x06ca6351, 0x14292967, 0x27b70a85, 0x2e1b2138, 0x4d2c6dfc, 0x53380d13, 0x650a7354, 0x766a0abb, 0x81c2c92e, 0x92722c85, 0xa2bfe8a1, 0xa81a664b, 0xc24b8b70, 0xc76c51a3, 0xd192e819, 0xd6990624, 0xf40e3585, 0x106aa070, 0x19a4c116, 0x1e376c08, 0x2748774c, 0x34b0bcb5, 0x391c0cb3, 0x4ed8aa4a, 0x5b9cca4f, 0x682e6ff3, 0x748f82ee, 0x78a5636f, 0x84c87814, 0x8cc70208, 0x90befffa, 0xa4506ceb, 0xbef9a3f7, 0xc67178f2]
theorem shaRounds_len : shaRounds.length = 64 := by kernel_rfl
abbrev T_sha_Hasher_o : Type := (List Int) × (List UInt8) × Int
def O_sha_Hasher (b : Nat) (x : T_sha_Hasher_o) : HP := HP.ex fun (i : (Option Addr) × Nat) => [HP.fact ((x.1).length = 8), HP.blk b (icells .u32 x.1 ++ ([Value.slice i.1 (x.2.1).length i.2, Value.int .u64 (x.2.2)])) 135, HP.ow rByte 5 i.1 i.2 x.2.1]
theorem O_sha_Hasher_o {w0 w : World} {l : List HP} {b : Nat} {x : T_sha_Hasher_o} (H : St w0 w (O_sha_Hasher b x :: l)) : ∃ (i2 : Option Addr) (c2 : Nat), ((x.1).length = 8) ∧ St w0 w (HP.blk b (icells .u32 x.1 ++ ([Value.slice i2 (x.2.1).length c2, Value.int .u64 (x.2.2)])) 135 :: HP.ow rByte 5 i2 c2 x.2.1 :: l) := by
  obtain ⟨⟨i2, c2⟩, H⟩ := H.exOpen
  exact ⟨i2, c2, H.factP 0 rfl, H.keep 0 1⟩
theorem O_sha_Hasher_s {w0 w : World} {l : List HP} {b : Nat} {i2 : Option Addr} {c2 : Nat} {x0 : List Int} {x1 : List UInt8} {x2 : Int} (h0 : (x0).length = 8) (H : St w0 w (HP.blk b (icells .u32 (x0) ++ ([Value.slice i2 (x1).length c2, Value.int .u64 (x2)])) 135 :: HP.ow rByte 5 i2 c2 (x1) :: l)) : St w0 w (O_sha_Hasher b (x0, x1, x2) :: l) := by
  unfold O_sha_Hasher
  exact St.exShut (i2, c2) (H.addFact h0)
def O_sha_Hasher_1 (b : Nat) (x : T_sha_Hasher_o) : HP := HP.ex fun (i : (Option Addr) × Nat) => [HP.fact ((x.1).length = 8), HP.blk b (icells .u32 x.1 ++ ([Value.slice i.1 (x.2.1).length i.2, Value.int .u64 (x.2.2)])) 135, HP.sl rByte i.1 i.2 x.2.1]
theorem O_sha_Hasher_1_o {w0 w : World} {l : List HP} {b : Nat} {x : T_sha_Hasher_o} (H : St w0 w (O_sha_Hasher_1 b x :: l)) : ∃ (i2 : Option Addr) (c2 : Nat), ((x.1).length = 8) ∧ St w0 w (HP.blk b (icells .u32 x.1 ++ ([Value.slice i2 (x.2.1).length c2, Value.int .u64 (x.2.2)])) 135 :: HP.sl rByte i2 c2 x.2.1 :: l) := by
  obtain ⟨⟨i2, c2⟩, H⟩ := H.exOpen
  exact ⟨i2, c2, H.factP 0 rfl, H.keep 0 1⟩
theorem O_sha_Hasher_1_s {w0 w : World} {l : List HP} {b : Nat} {i2 : Option Addr} {c2 : Nat} {x0 : List Int} {x1 : List UInt8} {x2 : Int} (h0 : (x0).length = 8) (H : St w0 w (HP.blk b (icells .u32 (x0) ++ ([Value.slice i2 (x1).length c2, Value.int .u64 (x2)])) 135 :: HP.sl rByte i2 c2 (x1) :: l)) : St w0 w (O_sha_Hasher_1 b (x0, x1, x2) :: l) := by
  unfold O_sha_Hasher_1
  exact St.exShut (i2, c2) (H.addFact h0)
abbrev T_pack_Pen_o : Type := (List UInt8)
def O_pack_Pen (b : Nat) (x : T_pack_Pen_o) : HP := HP.ex fun (i : (Option Addr) × Nat) => [HP.blk b ([.slice i.1 (x).length i.2]) 124, HP.ow rByte 5 i.1 i.2 x]
theorem O_pack_Pen_o {w0 w : World} {l : List HP} {b : Nat} {x : T_pack_Pen_o} (H : St w0 w (O_pack_Pen b x :: l)) : ∃ (i1 : Option Addr) (c1 : Nat), St w0 w (HP.blk b ([.slice i1 (x).length c1]) 124 :: HP.ow rByte 5 i1 c1 x :: l) := by
  obtain ⟨⟨i1, c1⟩, H⟩ := H.exOpen
  exact ⟨i1, c1, H⟩
theorem O_pack_Pen_s {w0 w : World} {l : List HP} {b : Nat} {i1 : Option Addr} {c1 : Nat} {x0 : List UInt8}  (H : St w0 w (HP.blk b ([.slice i1 (x0).length c1]) 124 :: HP.ow rByte 5 i1 c1 x0 :: l)) : St w0 w (O_pack_Pen b x0 :: l) := by
  unfold O_pack_Pen
  exact St.exShut (i1, c1) H
def O_pack_Pen_1 (b : Nat) (x : T_pack_Pen_o) : HP := HP.ex fun (i : (Option Addr) × Nat) => [HP.blk b ([.slice i.1 (x).length i.2]) 124, HP.sl rByte i.1 i.2 x]
theorem O_pack_Pen_1_s {w0 w : World} {l : List HP} {b : Nat} {i1 : Option Addr} {c1 : Nat} {x0 : List UInt8}  (H : St w0 w (HP.blk b ([.slice i1 (x0).length c1]) 124 :: HP.sl rByte i1 c1 x0 :: l)) : St w0 w (O_pack_Pen_1 b x0 :: l) := by
  unfold O_pack_Pen_1
  exact St.exShut (i1, c1) H
abbrev T_pack_Eye_o : Type := (List UInt8)
def O_pack_Eye (b : Nat) (x : T_pack_Eye_o) : HP := HP.ex fun (i : (Option Addr) × Nat) => [HP.blk b ([.slice i.1 (x).length i.2]) 133, HP.sl rByte i.1 i.2 x]
theorem O_pack_Eye_o {w0 w : World} {l : List HP} {b : Nat} {x : T_pack_Eye_o} (H : St w0 w (O_pack_Eye b x :: l)) : ∃ (i1 : Option Addr) (c1 : Nat), St w0 w (HP.blk b ([.slice i1 (x).length c1]) 133 :: HP.sl rByte i1 c1 x :: l) := by
  obtain ⟨⟨i1, c1⟩, H⟩ := H.exOpen
  exact ⟨i1, c1, H⟩
theorem O_pack_Eye_s {w0 w : World} {l : List HP} {b : Nat} {i1 : Option Addr} {c1 : Nat} {x0 : List UInt8}  (H : St w0 w (HP.blk b ([.slice i1 (x0).length c1]) 133 :: HP.sl rByte i1 c1 x0 :: l)) : St w0 w (O_pack_Eye b x0 :: l) := by
  unfold O_pack_Eye
  exact St.exShut (i1, c1) H
abbrev T_disk_write : Type := Int × (List UInt8)
abbrev T_disk_Disk_o : Type := (List (List UInt8)) × (List T_disk_write) × Int × Bool
abbrev R_disk_write : Rp T_disk_write := (rPair (rInt .i64) (rSl rByte))
def O_disk_Disk (b : Nat) (x : T_disk_Disk_o) : HP := HP.ex fun (i : (Option Addr) × Nat × (Option Addr) × Nat) => [HP.blk b ([.slice i.1 (x.1).length i.2.1, .slice i.2.2.1 (x.2.1).length i.2.2.2, .int .i64 (x.2.2.1), .bool (x.2.2.2)]) 71, HP.ow (rSl rByte) 33 i.1 i.2.1 x.1, HP.ow R_disk_write 88 i.2.2.1 i.2.2.2 x.2.1]
theorem O_disk_Disk_o {w0 w : World} {l : List HP} {b : Nat} {x : T_disk_Disk_o} (H : St w0 w (O_disk_Disk b x :: l)) : ∃ (i1 : Option Addr) (c1 : Nat) (i2 : Option Addr) (c2 : Nat), St w0 w (HP.blk b ([.slice i1 (x.1).length c1, .slice i2 (x.2.1).length c2, .int .i64 (x.2.2.1), .bool (x.2.2.2)]) 71 :: HP.ow (rSl rByte) 33 i1 c1 x.1 :: HP.ow R_disk_write 88 i2 c2 x.2.1 :: l) := by
  obtain ⟨⟨i1, c1, i2, c2⟩, H⟩ := H.exOpen
  exact ⟨i1, c1, i2, c2, H⟩
theorem O_disk_Disk_s {w0 w : World} {l : List HP} {b : Nat} {i1 : Option Addr} {c1 : Nat} {i2 : Option Addr} {c2 : Nat} {x0 : List (List UInt8)} {x1 : List T_disk_write} {x2 : Int} {x3 : Bool}  (H : St w0 w (HP.blk b ([.slice i1 (x0).length c1, .slice i2 (x1).length c2, .int .i64 (x2), .bool (x3)]) 71 :: HP.ow (rSl rByte) 33 i1 c1 (x0) :: HP.ow R_disk_write 88 i2 c2 (x1) :: l)) : St w0 w (O_disk_Disk b (x0, x1, x2, x3) :: l) := by
  unfold O_disk_Disk
  exact St.exShut (i1, c1, i2, c2) H
theorem rc_disk_write {w0 w : World} {l : List HP} {cs : List Value} {x : T_disk_write} (H : St w0 w (HP.rc R_disk_write cs x :: l)) : ∃ (p2 : Option Addr) (c2 : Nat), cs = [.int .i64 (x.1), .slice p2 (x.2).length c2] ∧ St w0 w (HP.sl rByte p2 c2 x.2 :: l) := by
 obtain ⟨u1, v1, rfl, H⟩ := H.rcPair 0 rfl
 replace H := H.dp 2 rfl
 obtain rfl := H.rcI 0 rfl
 replace H := H.dp 0 rfl
 obtain ⟨p2, c2, rfl, H⟩ := H.rcSl 0 rfl
 replace H := H.dp 1 rfl
 exact ⟨p2, c2, rfl, H⟩
abbrev T_store_Store_o : Type := ((List UInt8) → Option Int) × (Int → Option (List UInt8)) × ((List UInt8) → Option Int)
def O_store_Store (b k0 : Nat) (x : T_store_Store_o) : HP := HP.ex fun (i : Nat × Nat × Nat) => [HP.blk b ([.pointer (some ⟨k0, 0, none⟩), .map (some i.1), .map (some i.2.1), .map (some i.2.2)]) 75, HP.mm (some i.1) hv false (rInt .i64) (fun l => l.length = 32) x.1, HP.mm (some i.2.1) (Value.int .i64) true (rBytesN 32) (fun _ => True) x.2.1, HP.mm (some i.2.2) hv false (rInt .i64) (fun l => l.length = 32) x.2.2]
theorem O_store_Store_o {w0 w : World} {l : List HP} {b k0 : Nat} {x : T_store_Store_o} (H : St w0 w (O_store_Store b k0 x :: l)) : ∃ (m1 : Nat) (m2 : Nat) (m3 : Nat), St w0 w (HP.blk b ([.pointer (some ⟨k0, 0, none⟩), .map (some m1), .map (some m2), .map (some m3)]) 75 :: HP.mm (some m1) hv false (rInt .i64) (fun l => l.length = 32) x.1 :: HP.mm (some m2) (Value.int .i64) true (rBytesN 32) (fun _ => True) x.2.1 :: HP.mm (some m3) hv false (rInt .i64) (fun l => l.length = 32) x.2.2 :: l) := by
  obtain ⟨⟨m1, m2, m3⟩, H⟩ := H.exOpen
  exact ⟨m1, m2, m3, H⟩
theorem O_store_Store_s {w0 w : World} {l : List HP} {b k0 : Nat} {m1 : Nat} {m2 : Nat} {m3 : Nat} {x1 : (List UInt8) → Option Int} {x2 : Int → Option (List UInt8)} {x3 : (List UInt8) → Option Int}  (H : St w0 w (HP.blk b ([.pointer (some ⟨k0, 0, none⟩), .map (some m1), .map (some m2), .map (some m3)]) 75 :: HP.mm (some m1) hv false (rInt .i64) (fun l => l.length = 32) (x1) :: HP.mm (some m2) (Value.int .i64) true (rBytesN 32) (fun _ => True) (x2) :: HP.mm (some m3) hv false (rInt .i64) (fun l => l.length = 32) (x3) :: l)) : St w0 w (O_store_Store b k0 (x1, x2, x3) :: l) := by
  unfold O_store_Store
  exact St.exShut (m1, m2, m3) H
abbrev T_triremeref01_Write : Type := Int × (List UInt8)
abbrev T_triremeref01_Disk_o : Type := (List (List UInt8)) × (List T_triremeref01_Write) × Int × Bool
abbrev R_triremeref01_Write : Rp T_triremeref01_Write := (rPair (rInt .i64) (rSl rByte))
def O_triremeref01_Disk (b : Nat) (x : T_triremeref01_Disk_o) : HP := HP.ex fun (i : (Option Addr) × Nat × (Option Addr) × Nat) => [HP.blk b ([.slice i.1 (x.1).length i.2.1, .slice i.2.2.1 (x.2.1).length i.2.2.2, .int .i64 (x.2.2.1), .bool (x.2.2.2)]) 67, HP.ow (rSl rByte) 33 i.1 i.2.1 x.1, HP.ow R_triremeref01_Write 104 i.2.2.1 i.2.2.2 x.2.1]
theorem O_triremeref01_Disk_o {w0 w : World} {l : List HP} {b : Nat} {x : T_triremeref01_Disk_o} (H : St w0 w (O_triremeref01_Disk b x :: l)) : ∃ (i1 : Option Addr) (c1 : Nat) (i2 : Option Addr) (c2 : Nat), St w0 w (HP.blk b ([.slice i1 (x.1).length c1, .slice i2 (x.2.1).length c2, .int .i64 (x.2.2.1), .bool (x.2.2.2)]) 67 :: HP.ow (rSl rByte) 33 i1 c1 x.1 :: HP.ow R_triremeref01_Write 104 i2 c2 x.2.1 :: l) := by
  obtain ⟨⟨i1, c1, i2, c2⟩, H⟩ := H.exOpen
  exact ⟨i1, c1, i2, c2, H⟩
theorem O_triremeref01_Disk_s {w0 w : World} {l : List HP} {b : Nat} {i1 : Option Addr} {c1 : Nat} {i2 : Option Addr} {c2 : Nat} {x0 : List (List UInt8)} {x1 : List T_triremeref01_Write} {x2 : Int} {x3 : Bool}  (H : St w0 w (HP.blk b ([.slice i1 (x0).length c1, .slice i2 (x1).length c2, .int .i64 (x2), .bool (x3)]) 67 :: HP.ow (rSl rByte) 33 i1 c1 (x0) :: HP.ow R_triremeref01_Write 104 i2 c2 (x1) :: l)) : St w0 w (O_triremeref01_Disk b (x0, x1, x2, x3) :: l) := by
  unfold O_triremeref01_Disk
  exact St.exShut (i1, c1, i2, c2) H
theorem rc_triremeref01_Write {w0 w : World} {l : List HP} {cs : List Value} {x : T_triremeref01_Write} (H : St w0 w (HP.rc R_triremeref01_Write cs x :: l)) : ∃ (p2 : Option Addr) (c2 : Nat), cs = [.int .i64 (x.1), .slice p2 (x.2).length c2] ∧ St w0 w (HP.sl rByte p2 c2 x.2 :: l) := by
 obtain ⟨u1, v1, rfl, H⟩ := H.rcPair 0 rfl
 replace H := H.dp 2 rfl
 obtain rfl := H.rcI 0 rfl
 replace H := H.dp 0 rfl
 obtain ⟨p2, c2, rfl, H⟩ := H.rcSl 0 rfl
 replace H := H.dp 1 rfl
 exact ⟨p2, c2, rfl, H⟩
abbrev T_triremeref05_Store_o : Type := (List Bool) × (List (List UInt8)) × (List (List UInt8))
def O_triremeref05_Store (b k0 : Nat) (x : T_triremeref05_Store_o) : HP := HP.ex fun (i : (Option Addr) × Nat × (Option Addr) × Nat × (Option Addr) × Nat) => [HP.blk b ([.pointer (some ⟨k0, 0, none⟩), .slice i.1 (x.1).length i.2.1, .slice i.2.2.1 (x.2.1).length i.2.2.2.1, .slice i.2.2.2.2.1 (x.2.2).length i.2.2.2.2.2]) 97, HP.ow rBool 4 i.1 i.2.1 x.1, HP.ow (rBytesN 32) 35 i.2.2.1 i.2.2.2.1 x.2.1, HP.ow (rBytesN 32) 35 i.2.2.2.2.1 i.2.2.2.2.2 x.2.2]
theorem O_triremeref05_Store_o {w0 w : World} {l : List HP} {b k0 : Nat} {x : T_triremeref05_Store_o} (H : St w0 w (O_triremeref05_Store b k0 x :: l)) : ∃ (i1 : Option Addr) (c1 : Nat) (i2 : Option Addr) (c2 : Nat) (i3 : Option Addr) (c3 : Nat), St w0 w (HP.blk b ([.pointer (some ⟨k0, 0, none⟩), .slice i1 (x.1).length c1, .slice i2 (x.2.1).length c2, .slice i3 (x.2.2).length c3]) 97 :: HP.ow rBool 4 i1 c1 x.1 :: HP.ow (rBytesN 32) 35 i2 c2 x.2.1 :: HP.ow (rBytesN 32) 35 i3 c3 x.2.2 :: l) := by
  obtain ⟨⟨i1, c1, i2, c2, i3, c3⟩, H⟩ := H.exOpen
  exact ⟨i1, c1, i2, c2, i3, c3, H⟩
theorem O_triremeref05_Store_s {w0 w : World} {l : List HP} {b k0 : Nat} {i1 : Option Addr} {c1 : Nat} {i2 : Option Addr} {c2 : Nat} {i3 : Option Addr} {c3 : Nat} {x1 : List Bool} {x2 : List (List UInt8)} {x3 : List (List UInt8)}  (H : St w0 w (HP.blk b ([.pointer (some ⟨k0, 0, none⟩), .slice i1 (x1).length c1, .slice i2 (x2).length c2, .slice i3 (x3).length c3]) 97 :: HP.ow rBool 4 i1 c1 (x1) :: HP.ow (rBytesN 32) 35 i2 c2 (x2) :: HP.ow (rBytesN 32) 35 i3 c3 (x3) :: l)) : St w0 w (O_triremeref05_Store b k0 (x1, x2, x3) :: l) := by
  unfold O_triremeref05_Store
  exact St.exShut (i1, c1, i2, c2, i3, c3) H
abbrev T_triremelaw05_Op : Type := Int × Int × (List UInt8) × (List (List UInt8)) × (List Int)
abbrev R_triremelaw05_Op : Rp T_triremelaw05_Op := (rPair (rInt .i64) (rPair (rInt .i64) (rPair (rSl rByte) (rPair (rSl (rSl rByte)) (rSl (rInt .i64))))))
theorem rc_triremelaw05_Op {w0 w : World} {l : List HP} {cs : List Value} {x : T_triremelaw05_Op} (H : St w0 w (HP.rc R_triremelaw05_Op cs x :: l)) : ∃ (p4 : Option Addr) (c4 : Nat) (p6 : Option Addr) (c6 : Nat) (p7 : Option Addr) (c7 : Nat), cs = [.int .i64 (x.1), .int .i64 (x.2.1), .slice p4 (x.2.2.1).length c4, .slice p6 (x.2.2.2.1).length c6, .slice p7 (x.2.2.2.2).length c7] ∧ St w0 w (HP.sl rByte p4 c4 x.2.2.1 :: HP.sl (rSl rByte) p6 c6 x.2.2.2.1 :: HP.sl (rInt .i64) p7 c7 x.2.2.2.2 :: l) := by
 obtain ⟨u1, v1, rfl, H⟩ := H.rcPair 0 rfl
 replace H := H.dp 2 rfl
 obtain rfl := H.rcI 0 rfl
 replace H := H.dp 0 rfl
 obtain ⟨u2, v2, rfl, H⟩ := H.rcPair 0 rfl
 replace H := H.dp 2 rfl
 obtain rfl := H.rcI 0 rfl
 replace H := H.dp 0 rfl
 obtain ⟨u3, v3, rfl, H⟩ := H.rcPair 0 rfl
 replace H := H.dp 2 rfl
 obtain ⟨p4, c4, rfl, H⟩ := H.rcSl 0 rfl
 replace H := H.dp 1 rfl
 obtain ⟨u5, v5, rfl, H⟩ := H.rcPair 1 rfl
 replace H := H.dp 3 rfl
 obtain ⟨p6, c6, rfl, H⟩ := H.rcSl 0 rfl
 replace H := H.dp 1 rfl
 obtain ⟨p7, c7, rfl, H⟩ := H.rcSl 1 rfl
 replace H := H.dp 2 rfl
 exact ⟨p4, c4, p6, c6, p7, c7, rfl, (H.pm 3 [2, 1, 0] rfl:)⟩
noncomputable def rotL32 (x : Int) (k : Int) : Option Int :=
(shlO .u32 x (andI .u64 (IntKind.u64.wrap (k)) 31)).bind fun x1 =>
(shrO .u32 x (IntKind.u64.wrap (32 - (andI .u64 (IntKind.u64.wrap (k)) 31)))).bind fun x2 =>
some (orI .u32 x1 x2)
noncomputable def turn (x : Int) (a_ : Int) (b_ : Int) (c_ : Int) (sh : Bool) : Option Int :=
(rotL32 x (IntKind.i64.wrap (0 - c_))).bind fun x1 =>
Option.bind (α := (Int)) (if sh = true then ((shrO .u32 x c_).bind fun x6 =>
some x6)
 else (some x1)) fun r4 => (rotL32 x (IntKind.i64.wrap (0 - a_))).bind fun x7 =>
(rotL32 x (IntKind.i64.wrap (0 - b_))).bind fun x8 =>
some (xorI .u32 (xorI .u32 x7 x8) r4)
noncomputable def shaNew  : Option T_sha_Hasher_o :=
some (shaStart, ([] : List UInt8), 0)
noncomputable def rotr (x : Int) (n : Int) : Option Int :=
(shrO .u32 x (IntKind.u64.wrap (n))).bind fun x1 =>
(shlO .u32 x (IntKind.u64.wrap (IntKind.i64.wrap (32 - n)))).bind fun x2 =>
some (orI .u32 x1 x2)
noncomputable def rPad (b : List UInt8) : Option (List UInt8) :=
(appO ([] : List UInt8) b).bind fun x5 =>
(u8O 128).bind fun x7 =>
(appO x5 ([x7])).bind fun x9 =>
Option.bind (α := ((List UInt8))) (loopO (fun (s48 : (List UInt8)) => (remO ((s48).length : Int) 64).bind fun x50 =>
if x50 = 56 then (some (.inr s48))
 else ((u8O 0).bind fun x53 =>
(appO s48 ([x53])).bind fun x55 =>
some (.inl x55))) x9) fun r32 => Option.bind (α := ((List UInt8))) (loopO (fun (s94 : (List UInt8) × Int) => if 0 ≤ s94.2 then ((shrO .u64 (IntKind.u64.wrap ((IntKind.u64.wrap (((b).length : Int))) * 8)) (IntKind.u64.wrap (IntKind.i64.wrap (8 * s94.2)))).bind fun x97 =>
(u8O (IntKind.u8.wrap (x97))).bind fun x99 =>
(appO s94.1 ([x99])).bind fun x101 =>
some (.inl (x101, IntKind.i64.wrap (s94.2 - 1))))
 else (some (.inr s94.1))) (r32, 7)) fun r78 => some r78
noncomputable def rConst  : Option (List Int) :=
some ([1116352408, 1899447441, 3049323471, 3921009573, 961987163, 1508970993, 2453635748, 2870763221, 3624381080, 310598401, 607225278, 1426881987, 1925078388, 2162078206, 2614888103, 3248222580, 3835390401, 4022224774, 264347078, 604807628, 770255983, 1249150122, 1555081692, 1996064986, 2554220882, 2821834349, 2952996808, 3210313671, 3336571891, 3584528711, 113926993, 338241895, 666307205, 773529912, 1294757372, 1396182291, 1695183700, 1986661051, 2177026350, 2456956037, 2730485921, 2820302411, 3259730800, 3345764771, 3516065817, 3600352804, 4094571909, 275423344, 430227734, 506948616, 659060556, 883997877, 958139571, 1322822218, 1537002063, 1747873779, 1955562222, 2024104815, 2227730452, 2361852424, 2428436474, 2756734187, 3204031479, 3329325298] : List Int)
noncomputable def rSum (b : List UInt8) : Option (List UInt8) :=
(rConst).bind fun x4 =>
(rPad b).bind fun x8 =>
Option.bind (α := ((List Int))) (loopO (fun (s3273 : (List Int) × Int) => if s3273.2 < ((x8).length : Int) then (Option.bind (α := ((List Int))) (loopO (fun (s3670 : (List Int) × Int) => if s3670.2 < 64 then (Option.bind (α := ((List Int))) (if s3670.2 < 16 then ((idxO x8 (IntKind.i64.wrap (s3273.2 + (IntKind.i64.wrap (4 * s3670.2))))).bind fun x3724 =>
(idxO x8 (IntKind.i64.wrap ((IntKind.i64.wrap (s3273.2 + (IntKind.i64.wrap (4 * s3670.2)))) + 1))).bind fun x3727 =>
(idxO x8 (IntKind.i64.wrap ((IntKind.i64.wrap (s3273.2 + (IntKind.i64.wrap (4 * s3670.2)))) + 2))).bind fun x3729 =>
(idxO x8 (IntKind.i64.wrap ((IntKind.i64.wrap (s3273.2 + (IntKind.i64.wrap (4 * s3670.2)))) + 3))).bind fun x3731 =>
(idxO s3670.1 s3670.2).bind fun x3733 =>
some ((s3670.1).set (s3670.2 : Int).toNat (orI .u32 (orI .u32 (orI .u32 (shlI .u32 (IntKind.u32.wrap (((x3724).toNat : Int))) 24) (shlI .u32 (IntKind.u32.wrap (((x3727).toNat : Int))) 16)) (shlI .u32 (IntKind.u32.wrap (((x3729).toNat : Int))) 8)) (IntKind.u32.wrap (((x3731).toNat : Int))))))
 else ((idxO s3670.1 (IntKind.i64.wrap (s3670.2 - 15))).bind fun x3735 =>
(idxO s3670.1 (IntKind.i64.wrap (s3670.2 - 2))).bind fun x3736 =>
(rotr x3735 7).bind fun x3737 =>
(rotr x3735 18).bind fun x3738 =>
(rotr x3736 17).bind fun x3739 =>
(rotr x3736 19).bind fun x3740 =>
(idxO s3670.1 (IntKind.i64.wrap (s3670.2 - 16))).bind fun x3745 =>
(idxO s3670.1 (IntKind.i64.wrap (s3670.2 - 7))).bind fun x3746 =>
(idxO s3670.1 s3670.2).bind fun x3747 =>
some ((s3670.1).set (s3670.2 : Int).toNat (IntKind.u32.wrap ((IntKind.u32.wrap ((IntKind.u32.wrap (x3745 + (xorI .u32 (xorI .u32 x3737 x3738) (shrI .u32 x3735 3)))) + x3746)) + (xorI .u32 (xorI .u32 x3739 x3740) (shrI .u32 x3736 10))))))) fun r3710 => some (.inl (r3710, IntKind.i64.wrap (s3670.2 + 1))))
 else (some (.inr s3670.1))) (([0, 0, 0, 0, 0, 0, 0, 0, 0, 0, 0, 0, 0, 0, 0, 0, 0, 0, 0, 0, 0, 0, 0, 0, 0, 0, 0, 0, 0, 0, 0, 0, 0, 0, 0, 0, 0, 0, 0, 0, 0, 0, 0, 0, 0, 0, 0, 0, 0, 0, 0, 0, 0, 0, 0, 0, 0, 0, 0, 0, 0, 0, 0, 0] : List Int), 0)) fun r3512 => Option.bind (α := ((List Int))) (loopO (fun (s3843 : (List Int) × Int) => if s3843.2 < 64 then ((idxO s3843.1 0).bind fun x3846 =>
(idxO s3843.1 1).bind fun x3847 =>
(idxO s3843.1 2).bind fun x3848 =>
(idxO s3843.1 4).bind fun x3849 =>
(idxO s3843.1 5).bind fun x3850 =>
(idxO s3843.1 6).bind fun x3851 =>
(rotr x3849 6).bind fun x3852 =>
(rotr x3849 11).bind fun x3853 =>
(rotr x3849 25).bind fun x3854 =>
(idxO s3843.1 7).bind fun x3855 =>
(idxO x4 s3843.2).bind fun x3856 =>
(idxO r3512 s3843.2).bind fun x3857 =>
(rotr x3846 2).bind fun x3858 =>
(rotr x3846 13).bind fun x3859 =>
(rotr x3846 22).bind fun x3860 =>
(idxO s3843.1 3).bind fun x3861 =>
some (.inl (([IntKind.u32.wrap ((IntKind.u32.wrap ((IntKind.u32.wrap ((IntKind.u32.wrap ((IntKind.u32.wrap ((IntKind.u32.wrap (x3855 + (xorI .u32 (xorI .u32 x3852 x3853) x3854))) + (xorI .u32 (andI .u32 x3849 x3850) (andI .u32 (xorI .u32 4294967295 x3849) x3851)))) + x3856)) + x3857)) + (xorI .u32 (xorI .u32 x3858 x3859) x3860))) + (xorI .u32 (xorI .u32 (andI .u32 x3846 x3847) (andI .u32 x3846 x3848)) (andI .u32 x3847 x3848))), x3846, x3847, x3848, IntKind.u32.wrap (x3861 + (IntKind.u32.wrap ((IntKind.u32.wrap ((IntKind.u32.wrap ((IntKind.u32.wrap (x3855 + (xorI .u32 (xorI .u32 x3852 x3853) x3854))) + (xorI .u32 (andI .u32 x3849 x3850) (andI .u32 (xorI .u32 4294967295 x3849) x3851)))) + x3856)) + x3857))), x3849, x3850, x3851] : List Int), IntKind.i64.wrap (s3843.2 + 1))))
 else (some (.inr s3843.1))) (s3273.1, 0)) fun r3805 => Option.bind (α := ((List Int))) (loopO (fun (s3915 : (List Int) × Int) => if s3915.2 < 8 then ((idxO s3915.1 s3915.2).bind fun x3922 =>
(idxO r3805 s3915.2).bind fun x3923 =>
(idxO s3915.1 s3915.2).bind fun x3924 =>
some (.inl ((s3915.1).set (s3915.2 : Int).toNat (IntKind.u32.wrap (x3922 + x3923)), IntKind.i64.wrap (s3915.2 + 1))))
 else (some (.inr s3915.1))) (s3273.1, 0)) fun r3893 => some (.inl (r3893, IntKind.i64.wrap (s3273.2 + 64))))
 else (some (.inr s3273.1))) (([1779033703, 3144134277, 1013904242, 2773480762, 1359893119, 2600822924, 528734635, 1541459225] : List Int), 0)) fun r1967 => Option.bind (α := ((List UInt8))) (loopO (fun (s3975 : (List UInt8) × Int) => if s3975.2 < 32 then ((quoO .i64 s3975.2 4).bind fun x3978 =>
(idxO r1967 x3978).bind fun x3979 =>
(remO s3975.2 4).bind fun x3980 =>
(shrO .u32 x3979 (IntKind.u64.wrap (IntKind.i64.wrap (24 - (IntKind.i64.wrap (8 * x3980)))))).bind fun x3981 =>
(idxO s3975.1 s3975.2).bind fun x3982 =>
(u8O (IntKind.u8.wrap (x3981))).bind fun x3984 =>
some (.inl ((s3975.1).set (s3975.2 : Int).toNat x3984, IntKind.i64.wrap (s3975.2 + 1))))
 else (some (.inr s3975.1))) (((List.replicate 32 0) : List UInt8), 0)) fun r3955 => some r3955
noncomputable def mix (state : List Int) (p : List UInt8) : Option (List Int) :=
Option.bind (α := ((List Int))) (loopO (fun (s731 : (List Int) × Int) => if s731.2 < 64 then (Option.bind (α := ((List Int))) (if s731.2 < 16 then ((slcO p (IntKind.i64.wrap (4 * s731.2)) (IntKind.i64.wrap (4 * (IntKind.i64.wrap (s731.2 + 1))))).bind fun x807 =>
Option.bind (α := ((List Int))) (loopO (fun (s851 : (List Int) × Int) => if s851.2 < ((x807).length : Int) then ((idxO x807 s851.2).bind fun x854 =>
(idxO s851.1 s731.2).bind fun x857 =>
(idxO s851.1 s731.2).bind fun x858 =>
some (.inl ((s851.1).set (s731.2 : Int).toNat (orI .u32 (shlI .u32 x857 8) (IntKind.u32.wrap (((x854).toNat : Int)))), IntKind.i64.wrap (s851.2 + 1))))
 else (some (.inr s851.1))) (s731.1, 0)) fun r833 => some r833)
 else ((idxO s731.1 (IntKind.i64.wrap (s731.2 - 2))).bind fun x868 =>
(idxO s731.1 (IntKind.i64.wrap (s731.2 - 7))).bind fun x869 =>
(idxO s731.1 (IntKind.i64.wrap (s731.2 - 15))).bind fun x870 =>
(idxO s731.1 (IntKind.i64.wrap (s731.2 - 16))).bind fun x871 =>
(turn x868 17 19 10 true).bind fun x872 =>
(turn x870 7 18 3 true).bind fun x873 =>
(idxO s731.1 s731.2).bind fun x874 =>
some ((s731.1).set (s731.2 : Int).toNat (IntKind.u32.wrap ((IntKind.u32.wrap ((IntKind.u32.wrap (x872 + x869)) + x873)) + x871))))) fun r804 => some (.inl (r804, IntKind.i64.wrap (s731.2 + 1))))
 else (some (.inr s731.1))) ((List.replicate 64 0), 0)) fun r441 => Option.bind (α := ((List Int))) (loopO (fun (s1010 : (List Int) × Int) => if s1010.2 < 64 then ((idxO shaRounds s1010.2).bind fun x1013 =>
(idxO s1010.1 0).bind fun x1014 =>
(idxO s1010.1 4).bind fun x1015 =>
(idxO s1010.1 5).bind fun x1016 =>
(idxO s1010.1 6).bind fun x1017 =>
(idxO s1010.1 1).bind fun x1018 =>
(idxO s1010.1 2).bind fun x1019 =>
(idxO s1010.1 1).bind fun x1020 =>
(idxO s1010.1 2).bind fun x1021 =>
(idxO s1010.1 7).bind fun x1022 =>
(turn x1015 6 11 25 false).bind fun x1023 =>
(idxO r441 s1010.2).bind fun x1024 =>
(slcO s1010.1 1 ((s1010.1).length : Int)).bind fun x1028 =>
(slcO s1010.1 0 7).bind fun x1029 =>
(idxO (putAt s1010.1 (1 : Int).toNat ((x1029).take (x1028).length)) 4).bind fun x1031 =>
(idxO (putAt s1010.1 (1 : Int).toNat ((x1029).take (x1028).length)) 4).bind fun x1032 =>
(turn x1014 2 13 22 false).bind fun x1034 =>
(idxO ((putAt s1010.1 (1 : Int).toNat ((x1029).take (x1028).length)).set (4 : Int).toNat (IntKind.u32.wrap (x1031 + (IntKind.u32.wrap ((IntKind.u32.wrap ((IntKind.u32.wrap ((IntKind.u32.wrap (x1022 + x1023)) + (xorI .u32 (andI .u32 x1015 x1016) (andI .u32 (notI .u32 x1015) x1017)))) + x1013)) + x1024))))) 0).bind fun x1035 =>
some (.inl (((putAt s1010.1 (1 : Int).toNat ((x1029).take (x1028).length)).set (4 : Int).toNat (IntKind.u32.wrap (x1031 + (IntKind.u32.wrap ((IntKind.u32.wrap ((IntKind.u32.wrap ((IntKind.u32.wrap (x1022 + x1023)) + (xorI .u32 (andI .u32 x1015 x1016) (andI .u32 (notI .u32 x1015) x1017)))) + x1013)) + x1024))))).set (0 : Int).toNat (IntKind.u32.wrap ((IntKind.u32.wrap ((IntKind.u32.wrap ((IntKind.u32.wrap ((IntKind.u32.wrap ((IntKind.u32.wrap (x1022 + x1023)) + (xorI .u32 (andI .u32 x1015 x1016) (andI .u32 (notI .u32 x1015) x1017)))) + x1013)) + x1024)) + x1034)) + (xorI .u32 (xorI .u32 (andI .u32 x1014 x1018) (andI .u32 x1014 x1019)) (andI .u32 x1020 x1021)))), IntKind.i64.wrap (s1010.2 + 1))))
 else (some (.inr s1010.1))) (state, 0)) fun r956 => Option.bind (α := ((List Int))) (loopO (fun (s1070 : (List Int) × Int) => if s1070.2 < 8 then ((idxO state s1070.2).bind fun x1073 =>
(idxO s1070.1 s1070.2).bind fun x1074 =>
(idxO s1070.1 s1070.2).bind fun x1075 =>
some (.inl ((s1070.1).set (s1070.2 : Int).toNat (IntKind.u32.wrap (x1074 + x1073)), IntKind.i64.wrap (s1070.2 + 1))))
 else (some (.inr s1070.1))) (r956, 0)) fun r1056 => some r1056
noncomputable def shaAdd (h : T_sha_Hasher_o) (b : List UInt8) : Option T_sha_Hasher_o :=
(appO h.2.1 b).bind fun x6 =>
Option.bind (α := (((List Int) × (List UInt8)))) (loopO (fun (s172 : ((List Int) × (List UInt8))) => if 64 ≤ ((s172.2).length : Int) then ((slcO s172.2 0 64).bind fun x183 =>
(arrO 64 x183).bind fun x185 =>
(mix s172.1 x183).bind fun x186 =>
(slcO s172.2 64 ((s172.2).length : Int)).bind fun x189 =>
some (.inl (x186, x189)))
 else (some (.inr (s172.1, s172.2)))) ((h.1, x6, IntKind.u64.wrap (h.2.2 + (IntKind.u64.wrap (((b).length : Int))))).1, ((h.1, x6, IntKind.u64.wrap (h.2.2 + (IntKind.u64.wrap (((b).length : Int))))).2).1)) fun r135 => some (r135.1, r135.2, ((h.1, x6, IntKind.u64.wrap (h.2.2 + (IntKind.u64.wrap (((b).length : Int))))).2).2)
noncomputable def shaHSum (h : T_sha_Hasher_o) : Option ((List UInt8) × T_sha_Hasher_o) :=
Option.bind (α := ((List UInt8))) ((appO ([] : List UInt8) h.2.1).bind fun x62 =>
some x62) fun r31 => (u8O 128).bind fun x64 =>
Option.bind (α := ((List UInt8))) (loopO (fun (s118 : (List UInt8)) => (remO (IntKind.i64.wrap ((IntKind.i64.wrap (((h.2.1).length : Int) + ((s118).length : Int))) + 8)) 64).bind fun x123 =>
if x123 = 0 then (some (.inr s118))
 else ((u8O 0).bind fun x126 =>
(appO s118 ([x126])).bind fun x128 =>
some (.inl x128))) ([x64])) fun r96 => Option.bind (α := ((List UInt8))) (loopO (fun (s170 : (List UInt8) × Int) => if 0 ≤ s170.2 then ((shrO .u64 (IntKind.u64.wrap (h.2.2 * 8)) (IntKind.i64.wrap (8 * s170.2))).bind fun x173 =>
(u8O (IntKind.u8.wrap (x173))).bind fun x175 =>
(appO s170.1 ([x175])).bind fun x177 =>
some (.inl (x177, IntKind.i64.wrap (s170.2 - 1))))
 else (some (.inr s170.1))) (r96, 7)) fun r154 => (shaAdd (h.1, r31, 0) r154).bind fun x178 =>
Option.bind (α := ((List UInt8))) (loopO (fun (s400 : (List UInt8) × Int) => if s400.2 < 8 then ((idxO x178.1 s400.2).bind fun x403 =>
Option.bind (α := ((List UInt8))) (loopO (fun (s437 : (List UInt8) × Int) => if s437.2 < 4 then ((shrO .u32 x403 (IntKind.i64.wrap (8 * (IntKind.i64.wrap (3 - s437.2))))).bind fun x440 =>
(idxO s437.1 (IntKind.i64.wrap ((IntKind.i64.wrap (4 * s400.2)) + s437.2))).bind fun x441 =>
(u8O (IntKind.u8.wrap (x440))).bind fun x443 =>
some (.inl ((s437.1).set (IntKind.i64.wrap ((IntKind.i64.wrap (4 * s400.2)) + s437.2) : Int).toNat x443, IntKind.i64.wrap (s437.2 + 1))))
 else (some (.inr s437.1))) (s400.1, 0)) fun r423 => some (.inl (r423, IntKind.i64.wrap (s400.2 + 1))))
 else (some (.inr s400.1))) ((List.replicate 32 0), 0)) fun r312 => some (r312, h)
noncomputable def shaSum (b : List UInt8) : Option (List UInt8) :=
(shaNew).bind fun x4 =>
(shaAdd x4 b).bind fun x6 =>
(shaHSum x6).bind fun x7 =>
some x7.1
noncomputable def cloneB (s : List UInt8) : Option (List UInt8) :=
(appO ([] : List UInt8) s).bind fun x5 =>
some x5
noncomputable def penRaw (p : T_pack_Pen_o) (b : List UInt8) : Option T_pack_Pen_o :=
(appO p b).bind fun x5 =>
some x5
noncomputable def penUint (p : T_pack_Pen_o) (n : Int) (size : Int) : Option (Int × T_pack_Pen_o) :=
if size < 1 then (some (1, p))
 else (if 8 < size then (some (1, p))
 else (if size < 8 then ((shrO .u64 n (IntKind.i64.wrap (8 * size))).bind fun x4 =>
if 0 < x4 then (some (1, p))
 else (Option.bind (α := (T_pack_Pen_o)) (loopO (fun (s83 : T_pack_Pen_o × Int) => if 0 ≤ s83.2 then ((shrO .u64 n (IntKind.i64.wrap (8 * s83.2))).bind fun x94 =>
(u8O (IntKind.u8.wrap (x94))).bind fun x96 =>
(appO s83.1 ([x96])).bind fun x98 =>
some (.inl (x98, IntKind.i64.wrap (s83.2 - 1))))
 else (some (.inr s83.1))) (p, IntKind.i64.wrap (size - 1))) fun r52 => some (0, r52)))
 else (Option.bind (α := (T_pack_Pen_o)) (loopO (fun (s176 : T_pack_Pen_o × Int) => if 0 ≤ s176.2 then ((shrO .u64 n (IntKind.i64.wrap (8 * s176.2))).bind fun x187 =>
(u8O (IntKind.u8.wrap (x187))).bind fun x189 =>
(appO s176.1 ([x189])).bind fun x191 =>
some (.inl (x191, IntKind.i64.wrap (s176.2 - 1))))
 else (some (.inr s176.1))) (p, IntKind.i64.wrap (size - 1))) fun r145 => some (0, r145))))
noncomputable def penData (p : T_pack_Pen_o) : Option ((List UInt8) × T_pack_Pen_o) :=
(cloneB p).bind fun x4 =>
some (x4, p)
noncomputable def newEye (data : List UInt8) : Option T_pack_Eye_o :=
(cloneB data).bind fun x3 =>
some x3
noncomputable def eyeRaw (e : T_pack_Eye_o) (n : Int) : Option ((List UInt8) × Int × T_pack_Eye_o) :=
if n < 0 then (some (([] : List UInt8), 1, e))
 else (if ((e).length : Int) < n then (some (([] : List UInt8), 20, e))
 else ((slcO e 0 n).bind fun x7 =>
(cloneB x7).bind fun x8 =>
(slcO e n ((e).length : Int)).bind fun x11 =>
some (x8, 0, x11)))
noncomputable def eyeUint (e : T_pack_Eye_o) (size : Int) : Option (Int × Int × T_pack_Eye_o) :=
if size < 1 then (some (0, 1, e))
 else (if 8 < size then (some (0, 1, e))
 else ((eyeRaw e size).bind fun x3 =>
Option.bind (α := (Int)) (loopO (fun (s27 : Int × Int) => if s27.2 < ((x3.1).length : Int) then ((idxO x3.1 s27.2).bind fun x29 =>
some (.inl (orI .u64 (shlI .u64 s27.1 8) (IntKind.u64.wrap (((x29).toNat : Int))), IntKind.i64.wrap (s27.2 + 1))))
 else (some (.inr s27.1))) (0, 0)) fun r18 => some (r18, x3.2.1, x3.2.2)))
noncomputable def secFull (p : T_pack_Pen_o) : Option ((List UInt8) × T_pack_Pen_o) :=
(penData p).bind fun x2 =>
(appMkO x2.1 (IntKind.i64.wrap (512 - ((x2.1).length : Int))) (0 : UInt8)).bind fun x5 =>
some (x5, x2.2)
noncomputable def wrap (block : List UInt8) : Option ((List UInt8) × Int) :=
if 470 < ((block).length : Int) then (some (([] : List UInt8), 23))
 else ((u8O 66).bind fun x6 =>
(penRaw ([] : List UInt8) ([x6])).bind fun x7 =>
(penUint x7 (IntKind.u64.wrap (((block).length : Int))) 2).bind fun x8 =>
(penRaw x8.2 block).bind fun x9 =>
(secFull x9).bind fun x10 =>
some (x10.1, 0))
noncomputable def equalB (x : List UInt8) (y : List UInt8) : Option Bool :=
if ((x).length : Int) = ((y).length : Int) then (Option.bind (α := (Unit) ⊕ Bool) (loopO (fun (s46 : Int) => if s46 < ((x).length : Int) then ((idxO x s46).bind fun x48 =>
(idxO y s46).bind fun x51 =>
if ((x48).toNat : Int) = ((x51).toNat : Int) then (some (.inl (IntKind.i64.wrap (s46 + 1))))
 else (some (.inr (.inr false))))
 else (some (.inr (.inl ())))) 0) fun o29 => Sum.elim (fun r29 => some true) (fun rv => some rv) o29)
 else (some false)
noncomputable def unwrap (sector : List UInt8) : Option ((List UInt8) × Int) :=
(newEye sector).bind fun x3 =>
(eyeUint x3 1).bind fun x5 =>
(eyeUint x5.2.2 2).bind fun x6 =>
(eyeRaw x6.2.2 (IntKind.i64.wrap (x6.1))).bind fun x7 =>
if x7.2.1 = 0 then ((wrap x7.1).bind fun x10 =>
if x10.2 = 0 then ((equalB x10.1 sector).bind fun x13 =>
if (!x13) = true then (some (([] : List UInt8), 22))
 else (some (x7.1, 0)))
 else (some (([] : List UInt8), 22)))
 else (some (([] : List UInt8), 22))
noncomputable def diskNew (n : Int) : Option (T_disk_Disk_o × Int) :=
if n < 1 then (none)
 else (if 4096 < n then (none)
 else (Option.bind (α := (T_disk_Disk_o)) (loopO (fun (s102 : T_disk_Disk_o × Int) => if s102.2 < n then ((mkO 512 (0 : UInt8)).bind fun x118 =>
(appO s102.1.1 ([x118])).bind fun x121 =>
some (.inl ((x121, s102.1.2.1, s102.1.2.2.1, s102.1.2.2.2), IntKind.i64.wrap (s102.2 + 1))))
 else (some (.inr s102.1))) ((([] : List (List UInt8)), ([] : List T_disk_write), -1, false), 0)) fun r63 => some (r63, 0)))
noncomputable def diskSectors (d : T_disk_Disk_o) : Option Int :=
some ((d.1).length : Int)
noncomputable def diskCall (d : T_disk_Disk_o) : Option (Bool × T_disk_Disk_o) :=
if d.2.2.1 = 0 then (some (false, (d.1, d.2.1, d.2.2.1, true)))
 else (Option.bind (α := (T_disk_Disk_o)) (if 0 < d.2.2.1 then (some (d.1, d.2.1, IntKind.i64.wrap (d.2.2.1 - 1), d.2.2.2))
 else (some d)) fun r11 => some (true, r11))
noncomputable def diskRead (d : T_disk_Disk_o) (i : Int) : Option ((List UInt8) × Int) :=
if d.2.2.2 = true then (some (([] : List UInt8), 3))
 else (if i < 0 then (some (([] : List UInt8), 2))
 else (if ((d.1).length : Int) ≤ i then (some (([] : List UInt8), 2))
 else (Option.bind (α := (Unit) ⊕ (List UInt8)) (foldO (fun (s26 : Unit) (x26 : Int × T_disk_write) => if x26.2.1 = i then ((cloneB x26.2.2).bind fun x32 =>
some (.inr x32))
 else (some (.inl ()))) () (backL d.2.1)) fun o26 => Sum.elim (fun s26 => (idxO d.1 i).bind fun x41 =>
(cloneB x41).bind fun x45 =>
some (x45, 0)) (fun r26 => some (r26, 0)) o26)))
noncomputable def diskWrite (d : T_disk_Disk_o) (i : Int) (data : List UInt8) : Option (Int × T_disk_Disk_o) :=
if d.2.2.2 = true then (some (3, d))
 else (if i < 0 then (some (2, d))
 else (if ((d.1).length : Int) ≤ i then (some (2, d))
 else (if ((data).length : Int) = 512 then ((diskCall d).bind fun x10 =>
(cloneB data).bind fun x24 =>
(appO x10.2.2.1 ([(i, x24)])).bind fun x28 =>
if (!x10.1) = true then (some (3, (x10.2.1, x28, x10.2.2.2.1, x10.2.2.2.2)))
 else (some (0, (x10.2.1, x28, x10.2.2.2.1, x10.2.2.2.2))))
 else (some (1, d)))))
noncomputable def diskFlush (d : T_disk_Disk_o) : Option (Int × T_disk_Disk_o) :=
if d.2.2.2 = true then (some (3, d))
 else ((diskCall d).bind fun x6 =>
if (!x6.1) = true then (some (3, x6.2))
 else (Option.bind (α := ((List (List UInt8)))) (loopO (fun (s105 : (List (List UInt8)) × Int) => if s105.2 < ((x6.2.2.1).length : Int) then ((idxO x6.2.2.1 s105.2).bind fun x108 =>
(idxO s105.1 x108.1).bind fun x120 =>
some (.inl ((s105.1).set (x108.1 : Int).toNat x108.2, IntKind.i64.wrap (s105.2 + 1))))
 else (some (.inr s105.1))) (x6.2.1, 0)) fun r67 => some (0, (r67, ([] : List T_disk_write), x6.2.2.2.1, x6.2.2.2.2))))
noncomputable def diskLimit (d : T_disk_Disk_o) (n : Int) : Option T_disk_Disk_o :=
some (d.1, d.2.1, max n (-1), d.2.2.2)
noncomputable def diskCrash (d : T_disk_Disk_o) (fates : List Int) : Option T_disk_Disk_o :=
Option.bind (α := ((List (List UInt8)))) (loopO (fun (s91 : (List (List UInt8)) × Int) => if s91.2 < ((d.1).length : Int) then ((idxO d.1 s91.2).bind fun x94 =>
(cloneB x94).bind fun x103 =>
(appO s91.1 [x103]).bind fun x107 =>
some (.inl (x107, IntKind.i64.wrap (s91.2 + 1))))
 else (some (.inr s91.1))) (([] : List (List UInt8)), 0)) fun r57 => Option.bind (α := ((List (List UInt8)))) (loopO (fun (s2640 : (List (List UInt8)) × Int) => if s2640.2 < ((d.2.1).length : Int) then (Option.bind (α := ((List (List UInt8)))) ((idxO d.2.1 s2640.2).bind fun x2895 =>
Option.bind (α := (Int)) (if s2640.2 < ((fates).length : Int) then ((idxO fates s2640.2).bind fun x2905 =>
some x2905)
 else (some 0)) fun r2903 => (idxO s2640.1 x2895.1).bind fun x2910 =>
(remO (shrI .i64 r2903 2) 513).bind fun x2914 =>
(remO (IntKind.i64.wrap ((IntKind.i64.wrap (x2914 + 512)) + 1)) 513).bind fun x2915 =>
Option.bind (α := ((List (List UInt8)))) (Option.bind (α := ((List (List UInt8)))) (if (andI .i64 r2903 3) = 1 then (some ((s2640.1).set (x2895.1 : Int).toNat (putAt x2910 0 ((x2895.2).take (x2910).length))))
 else (Option.bind (α := ((List (List UInt8)))) (if (andI .i64 r2903 3) = 2 then ((slcO x2895.2 0 x2915).bind fun x3122 =>
some ((s2640.1).set (x2895.1 : Int).toNat (putAt x2910 0 ((x3122).take (x2910).length))))
 else (Option.bind (α := ((List (List UInt8)))) (if (andI .i64 r2903 3) = 3 then ((slcO x2910 x2915 ((x2910).length : Int)).bind fun x3143 =>
(slcO x2895.2 x2915 ((x2895.2).length : Int)).bind fun x3145 =>
some ((s2640.1).set (x2895.1 : Int).toNat (putAt x2910 (x2915 : Int).toNat ((x3145).take (x3143).length))))
 else (some s2640.1)) fun r3135 => some r3135)) fun r3119 => some r3119)) fun r3089 => some r3089) fun r3031 => some r3031) fun r2894 => some (.inl (r2894, IntKind.i64.wrap (s2640.2 + 1))))
 else (some (.inr s2640.1))) (r57, 0)) fun r1627 => some (r1627, ([] : List T_disk_write), -1, false)
noncomputable def m_triremeref04_pad (x0_ : List UInt8) : Option (List UInt8) :=
(mkO 512 (0 : UInt8)).bind fun x4 =>
Option.bind (α := ((List UInt8))) (loopO (fun (s53 : (List UInt8) × Int) => if s53.2 < ((x0_).length : Int) then ((idxO x0_ s53.2).bind fun x56 =>
(idxO s53.1 s53.2).bind fun x59 =>
(u8O ((x56).toNat : Int)).bind fun x62 =>
some (.inl ((s53.1).set (s53.2 : Int).toNat x62, IntKind.i64.wrap (s53.2 + 1))))
 else (some (.inr s53.1))) (x4, 0)) fun r33 => some r33
noncomputable def m_triremeref04_Wrap (x0_ : List UInt8) : Option ((List UInt8) × Int) :=
if 470 < ((x0_).length : Int) then (some (([] : List UInt8), 23))
 else ((quoO .i64 ((x0_).length : Int) 256).bind fun x5 =>
(remO ((x0_).length : Int) 256).bind fun x6 =>
(u8O 66).bind fun x8 =>
(u8O (IntKind.u8.wrap (x5))).bind fun x9 =>
(u8O (IntKind.u8.wrap (x6))).bind fun x10 =>
(appO ([x8, x9, x10]) x0_).bind fun x12 =>
(m_triremeref04_pad x12).bind fun x13 =>
some (x13, 0))
noncomputable def m_triremeref04_Unwrap (x0_ : List UInt8) : Option ((List UInt8) × Int) :=
if ((x0_).length : Int) = 512 then ((idxO x0_ 0).bind fun x4 =>
if ((x4).toNat : Int) = 66 then ((idxO x0_ 1).bind fun x9 =>
(idxO x0_ 2).bind fun x11 =>
if 470 < (IntKind.i64.wrap ((IntKind.i64.wrap (256 * (IntKind.i64.wrap (((x9).toNat : Int))))) + (IntKind.i64.wrap (((x11).toNat : Int))))) then (some (([] : List UInt8), 22))
 else (Option.bind (α := (Unit) ⊕ ((List UInt8) × Int)) (loopO (fun (s45 : Int) => if s45 < 512 then ((idxO x0_ s45).bind fun x47 =>
if ((x47).toNat : Int) = 0 then (some (.inl (IntKind.i64.wrap (s45 + 1))))
 else (some (.inr (.inr (([] : List UInt8), 22)))))
 else (some (.inr (.inl ())))) (IntKind.i64.wrap (3 + (IntKind.i64.wrap ((IntKind.i64.wrap (256 * (IntKind.i64.wrap (((x9).toNat : Int))))) + (IntKind.i64.wrap (((x11).toNat : Int)))))))) fun o33 => Sum.elim (fun r33 => (slcO x0_ 3 (IntKind.i64.wrap (3 + (IntKind.i64.wrap ((IntKind.i64.wrap (256 * (IntKind.i64.wrap (((x9).toNat : Int))))) + (IntKind.i64.wrap (((x11).toNat : Int)))))))).bind fun x54 =>
(appO ([] : List UInt8) x54).bind fun x56 =>
some (x56, 0)) (fun rv => some rv) o33))
 else (some (([] : List UInt8), 22)))
 else (some (([] : List UInt8), 22))
noncomputable def m_triremeref01_floor (x0_ : Int) (x1_ : Int) : Option (Int × Int) :=
(quoO .i64 x0_ x1_).bind fun x1 =>
(remO x0_ x1_).bind fun x2 =>
if x2 < 0 then (some (IntKind.i64.wrap (x1 - 1), IntKind.i64.wrap (x2 + x1_)))
 else (some (x1, x2))
noncomputable def m_triremeref05_Less (x0_ : List UInt8) (x1_ : List UInt8) : Option Bool :=
Option.bind (α := (Unit) ⊕ Bool) (loopO (fun (s37 : Int) => if s37 < 32 then ((idxO x0_ s37).bind fun x39 =>
(idxO x1_ s37).bind fun x40 =>
if ((x39).toNat : Int) = ((x40).toNat : Int) then (some (.inl (IntKind.i64.wrap (s37 + 1))))
 else ((idxO x0_ s37).bind fun x42 =>
(idxO x1_ s37).bind fun x43 =>
some (.inr (.inr (decide (((x42).toNat : Int) < ((x43).toNat : Int)))))))
 else (some (.inr (.inl ())))) 0) fun o24 => Sum.elim (fun r24 => some false) (fun rv => some rv) o24
noncomputable def m_triremeref05_Same (x0_ : List (List UInt8)) (x1_ : List (List UInt8)) : Option Bool :=
if ((x0_).length : Int) = ((x1_).length : Int) then (Option.bind (α := (Unit) ⊕ Bool) (loopO (fun (s56 : Int) => if s56 < ((x0_).length : Int) then ((idxO x0_ s56).bind fun x58 =>
(idxO x1_ s56).bind fun x62 =>
if x58 = x62 then (some (.inl (IntKind.i64.wrap (s56 + 1))))
 else (some (.inr (.inr false))))
 else (some (.inr (.inl ())))) 0) fun o35 => Sum.elim (fun r35 => some true) (fun rv => some rv) o35)
 else (some false)
noncomputable def m_triremeref05_Sorted (x0_ : List (List UInt8)) : Option (List (List UInt8)) :=
Option.bind (α := ((List (List UInt8)))) (loopO (fun (s2947 : (List (List UInt8)) × Int) => if s2947.2 < ((x0_).length : Int) then (Option.bind (α := ((List (List UInt8)))) (Option.bind (α := (Int)) (loopO (fun (s3301 : Int) => if s3301 < ((s2947.1).length : Int) then ((idxO s2947.1 s3301).bind fun x3303 =>
(idxO x0_ s2947.2).bind fun x3307 =>
(m_triremeref05_Less x3303 x3307).bind fun x3311 =>
if x3311 = true then (some (.inl (IntKind.i64.wrap (s3301 + 1))))
 else (some (.inr s3301)))
 else (some (.inr s3301))) 0) fun r3278 => if r3278 < ((s2947.1).length : Int) then ((idxO s2947.1 r3278).bind fun x3314 =>
(idxO x0_ s2947.2).bind fun x3318 =>
if x3314 = x3318 then (some s2947.1)
 else ((idxO x0_ s2947.2).bind fun x3323 =>
(appO s2947.1 ([x3323])).bind fun x3328 =>
Option.bind (α := ((List (List UInt8)))) (loopO (fun (s3412 : (List (List UInt8)) × Int) => if r3278 < s3412.2 then ((idxO s3412.1 s3412.2).bind fun x3415 =>
(idxO s3412.1 (IntKind.i64.wrap (s3412.2 - 1))).bind fun x3420 =>
(idxO s3412.1 s3412.2).bind fun x3423 =>
(idxO ((s3412.1).set (s3412.2 : Int).toNat x3420) (IntKind.i64.wrap (s3412.2 - 1))).bind fun x3426 =>
some (.inl (((s3412.1).set (s3412.2 : Int).toNat x3420).set (IntKind.i64.wrap (s3412.2 - 1) : Int).toNat x3415, IntKind.i64.wrap (s3412.2 - 1))))
 else (some (.inr s3412.1))) (x3328, IntKind.i64.wrap (((x3328).length : Int) - 1))) fun r3378 => some r3378))
 else ((idxO x0_ s2947.2).bind fun x3429 =>
(appO s2947.1 ([x3429])).bind fun x3435 =>
Option.bind (α := ((List (List UInt8)))) (loopO (fun (s3519 : (List (List UInt8)) × Int) => if r3278 < s3519.2 then ((idxO s3519.1 s3519.2).bind fun x3522 =>
(idxO s3519.1 (IntKind.i64.wrap (s3519.2 - 1))).bind fun x3527 =>
(idxO s3519.1 s3519.2).bind fun x3530 =>
(idxO ((s3519.1).set (s3519.2 : Int).toNat x3527) (IntKind.i64.wrap (s3519.2 - 1))).bind fun x3533 =>
some (.inl (((s3519.1).set (s3519.2 : Int).toNat x3527).set (IntKind.i64.wrap (s3519.2 - 1) : Int).toNat x3522, IntKind.i64.wrap (s3519.2 - 1))))
 else (some (.inr s3519.1))) (x3435, IntKind.i64.wrap (((x3435).length : Int) - 1))) fun r3485 => some r3485)) fun r3242 => some (.inl (r3242, IntKind.i64.wrap (s2947.2 + 1))))
 else (some (.inr s2947.1))) (([] : List (List UInt8)), 0)) fun r1769 => some r1769
noncomputable def lawDigests (list : List (List UInt8)) : Option (List (List UInt8)) :=
Option.bind (α := ((List (List UInt8)))) (loopO (fun (s62 : (List (List UInt8)) × Int) => if s62.2 < ((list).length : Int) then ((idxO list s62.2).bind fun x65 =>
(rSum x65).bind fun x69 =>
(appO s62.1 ([x69])).bind fun x73 =>
some (.inl (x73, IntKind.i64.wrap (s62.2 + 1))))
 else (some (.inr s62.1))) (([] : List (List UInt8)), 0)) fun r38 => some r38
noncomputable def stHas (s : T_disk_Disk_o × ((List UInt8) → Option Int) × (Int → Option (List UInt8)) × ((List UInt8) → Option Int)) (h : List UInt8) : Option Bool :=
some ((s.2.1 h).isSome)
noncomputable def stHold (s : T_disk_Disk_o × ((List UInt8) → Option Int) × (Int → Option (List UInt8)) × ((List UInt8) → Option Int)) (list : List (List UInt8)) : Option (T_disk_Disk_o × ((List UInt8) → Option Int) × (Int → Option (List UInt8)) × ((List UInt8) → Option Int)) :=
Option.bind (α := (T_store_Store_o)) (loopO (fun (s68 : T_store_Store_o × Int) => if s68.2 < ((list).length : Int) then ((idxO list s68.2).bind fun x70 =>
some (.inl ((s68.1.1, s68.1.2.1, fset x70 1 s68.1.2.2), IntKind.i64.wrap (s68.2 + 1))))
 else (some (.inr s68.1))) ((s.2.1, s.2.2.1, (fnil : (List UInt8) → Option Int)), 0)) fun r43 => some (s.1, r43)
noncomputable def stfree (s : T_disk_Disk_o × ((List UInt8) → Option Int) × (Int → Option (List UInt8)) × ((List UInt8) → Option Int)) (i : Int) : Option Bool :=
if (!((s.2.2.1 i).isSome)) = true then (some true)
 else (some (decide (((s.2.2.2 ((s.2.2.1 i).getD (List.replicate 32 0))).getD 0) = 0)))
noncomputable def stFree (s : T_disk_Disk_o × ((List UInt8) → Option Int) × (Int → Option (List UInt8)) × ((List UInt8) → Option Int)) : Option Int :=
Option.bind (α := (Int)) (loopO (fun (s73 : Int × Int) => (diskSectors s.1).bind fun x77 =>
if s73.2 < x77 then (Option.bind (α := (Int)) ((stfree (s.1, s.2) s73.2).bind fun x84 =>
Option.bind (α := (Int)) (if x84 = true then (some (IntKind.i64.wrap (s73.1 + 1)))
 else (some s73.1)) fun r86 => some r86) fun r83 => some (.inl (r83, IntKind.i64.wrap (s73.2 + 1))))
 else (some (.inr s73.1))) (0, 2)) fun r44 => some r44
noncomputable def stPut (s : T_disk_Disk_o × ((List UInt8) → Option Int) × (Int → Option (List UInt8)) × ((List UInt8) → Option Int)) (block : List UInt8) : Option ((List UInt8) × Int × (T_disk_Disk_o × ((List UInt8) → Option Int) × (Int → Option (List UInt8)) × ((List UInt8) → Option Int))) :=
(wrap block).bind fun x4 =>
if x4.2 = 0 then ((shaSum block).bind fun x7 =>
(stHas (s.1, s.2) x7).bind fun x10 =>
if x10 = true then (some (x7, 0, (s.1, (s.2.1, s.2.2.1, fset x7 1 s.2.2.2))))
 else (Option.bind (α := (Unit) ⊕ ((List UInt8) × Int × (T_disk_Disk_o × ((List UInt8) → Option Int) × (Int → Option (List UInt8)) × ((List UInt8) → Option Int)))) (loopO (fun (s235 : Int) => (diskSectors s.1).bind fun x239 =>
if s235 < x239 then ((stfree (s.1, s.2) s235).bind fun x241 =>
if (!x241) = true then (some (.inl (IntKind.i64.wrap (s235 + 1))))
 else ((diskWrite s.1 s235 x4.1).bind fun x246 =>
if x246.1 = 0 then (Option.bind (α := (T_store_Store_o)) (if ((s.2.2.1 s235).isSome) = true then (some (fdel ((s.2.2.1 s235).getD (List.replicate 32 0)) s.2.1, s.2.2.1, s.2.2.2))
 else (some s.2)) fun r259 => some (.inr (.inr (x7, 0, (x246.2, (fset x7 s235 r259.1, fset s235 x7 r259.2.1, fset x7 1 r259.2.2))))))
 else (some (.inr (.inr (((List.replicate 32 0) : List UInt8), x246.1, (x246.2, s.2)))))))
 else (some (.inr (.inl ())))) 2) fun o148 => Sum.elim (fun r148 => some (((List.replicate 32 0) : List UInt8), 50, (s.1, s.2))) (fun rv => some rv) o148))
 else (some (((List.replicate 32 0) : List UInt8), x4.2, (s.1, s.2)))
noncomputable def stGet (s : T_disk_Disk_o × ((List UInt8) → Option Int) × (Int → Option (List UInt8)) × ((List UInt8) → Option Int)) (h : List UInt8) : Option ((List UInt8) × Int) :=
if (!((s.2.1 h).isSome)) = true then (some (([] : List UInt8), 51))
 else ((diskRead s.1 ((s.2.1 h).getD 0)).bind fun x10 =>
if x10.2 = 0 then ((unwrap x10.1).bind fun x13 =>
if x13.2 = 0 then ((shaSum x13.1).bind fun x16 =>
if x16 = h then (some (x13.1, 0))
 else (some (([] : List UInt8), 51)))
 else (some (([] : List UInt8), 51)))
 else (some (([] : List UInt8), x10.2)))
noncomputable def stHashes (s : T_disk_Disk_o × ((List UInt8) → Option Int) × (Int → Option (List UInt8)) × ((List UInt8) → Option Int)) : Option (List (List UInt8)) :=
(sortKeysO s.2.1).bind fun x7 =>
some x7
noncomputable def stOpen (d : T_disk_Disk_o) : Option (T_store_Store_o × Int) :=
(diskSectors d).bind fun x6 =>
Option.bind (α := (T_store_Store_o) ⊕ (T_store_Store_o × Int)) (loopO (fun (s399 : T_store_Store_o × Int) => if s399.2 < x6 then (Option.bind (α := (T_store_Store_o) ⊕ (T_store_Store_o × Int)) ((diskRead d s399.2).bind fun x440 =>
if x440.2 = 0 then ((unwrap x440.1).bind fun x443 =>
if s399.2 < 2 then (some (.inl s399.1))
 else (if x443.2 = 0 then ((shaSum x443.1).bind fun x447 =>
Option.bind (α := (T_store_Store_o)) (if (!((s399.1.1 x447).isSome)) = true then (some (fset x447 s399.2 s399.1.1, fset s399.2 x447 s399.1.2.1, s399.1.2.2))
 else (some s399.1)) fun r466 => some (.inl r466))
 else (some (.inl s399.1))))
 else (none)) fun o439 => Sum.elim (fun r439 => some (.inl (r439, IntKind.i64.wrap (s399.2 + 1)))) (fun rv => some (.inr (.inr rv))) o439)
 else (some (.inr (.inl s399.1)))) (((fnil : (List UInt8) → Option Int), (fnil : Int → Option (List UInt8)), (fnil : (List UInt8) → Option Int)), 0)) fun o242 => Sum.elim (fun r242 => some (r242, 0)) (fun rv => some rv) o242
noncomputable def m_triremelaw05_speaks  : Option Bool :=
(diskNew 4).bind fun x1 =>
(stOpen x1.1).bind fun x3 =>
if x3.2 = 0 then ((u8O 97).bind fun x7 =>
(stPut (x1.1, x3.1) ([x7])).bind fun x8 =>
(u8O 98).bind fun x12 =>
(stPut (x8.2.2.1, x8.2.2.2) ([x12])).bind fun x13 =>
(u8O 99).bind fun x16 =>
(stPut (x13.2.2.1, x13.2.2.2) ([x16])).bind fun x17 =>
(stHold (x17.2.2.1, x17.2.2.2) ([] : List (List UInt8))).bind fun x20 =>
(u8O 99).bind fun x22 =>
(stPut (x20.1, x20.2) ([x22])).bind fun x23 =>
if x8.2.1 = 0 then ((u8O 97).bind fun x39 =>
(rSum ([x39])).bind fun x40 =>
if x8.1 = x40 then (if x17.2.1 = 50 then (if x23.2.1 = 0 then ((stHas (x23.2.2.1, x23.2.2.2) x8.1).bind fun x45 =>
if (!x45) = true then ((stFree (x23.2.2.1, x23.2.2.2)).bind fun x47 =>
some (decide (x47 = 1)))
 else (some false))
 else (some false))
 else (some false))
 else (some false))
 else (some false))
 else (some false)
noncomputable def rdRead (d : T_triremeref01_Disk_o) (i : Int) : Option ((List UInt8) × Int) :=
if d.2.2.2 = true then (some (([] : List UInt8), 3))
 else (if i < 0 then (some (([] : List UInt8), 2))
 else (if ((d.1).length : Int) ≤ i then (some (([] : List UInt8), 2))
 else ((idxO d.1 i).bind fun x12 =>
Option.bind (α := ((List UInt8))) (loopO (fun (s369 : (List UInt8) × Int) => if s369.2 < ((d.2.1).length : Int) then (Option.bind (α := ((List UInt8))) ((idxO d.2.1 s369.2).bind fun x413 =>
Option.bind (α := ((List UInt8))) (if x413.1 = i then ((idxO d.2.1 s369.2).bind fun x435 =>
some x435.2)
 else (some s369.1)) fun r428 => some r428) fun r407 => some (.inl (r407, IntKind.i64.wrap (s369.2 + 1))))
 else (some (.inr s369.1))) (x12, 0)) fun r227 => (appO ([] : List UInt8) r227).bind fun x442 =>
some (x442, 0))))
noncomputable def rdUse (d : T_triremeref01_Disk_o) : Option (Bool × T_triremeref01_Disk_o) :=
if d.2.2.1 = 0 then (some (false, (d.1, d.2.1, d.2.2.1, true)))
 else (Option.bind (α := (T_triremeref01_Disk_o)) (if 0 < d.2.2.1 then (some (d.1, d.2.1, IntKind.i64.wrap (d.2.2.1 - 1), d.2.2.2))
 else (some d)) fun r11 => some (true, r11))
noncomputable def rdWrite (d : T_triremeref01_Disk_o) (i : Int) (data : List UInt8) : Option (Int × T_triremeref01_Disk_o) :=
if d.2.2.2 = true then (some (3, d))
 else (if i < 0 then (some (2, d))
 else (if ((d.1).length : Int) ≤ i then (some (2, d))
 else (if ((data).length : Int) = 512 then ((rdUse d).bind fun x10 =>
(appO ([] : List UInt8) data).bind fun x27 =>
(appO x10.2.2.1 ([(i, x27)])).bind fun x30 =>
if (!x10.1) = true then (some (3, (x10.2.1, x30, x10.2.2.2.1, x10.2.2.2.2)))
 else (some (0, (x10.2.1, x30, x10.2.2.2.1, x10.2.2.2.2))))
 else (some (1, d)))))
noncomputable def rdFlush (d : T_triremeref01_Disk_o) : Option (Int × T_triremeref01_Disk_o) :=
if d.2.2.2 = true then (some (3, d))
 else ((rdUse d).bind fun x6 =>
if (!x6.1) = true then (some (3, x6.2))
 else (Option.bind (α := (T_triremeref01_Disk_o)) (loopO (fun (s165 : T_triremeref01_Disk_o × Int) => if s165.2 < ((s165.1.2.1).length : Int) then ((idxO s165.1.2.1 s165.2).bind fun x184 =>
(idxO s165.1.2.1 s165.2).bind fun x189 =>
(idxO s165.1.1 x184.1).bind fun x193 =>
some (.inl (((s165.1.1).set (x184.1 : Int).toNat x189.2, s165.1.2.1, s165.1.2.2.1, s165.1.2.2.2), IntKind.i64.wrap (s165.2 + 1))))
 else (some (.inr s165.1))) (x6.2, 0)) fun r102 => some (0, (r102.1, ([] : List T_triremeref01_Write), r102.2.2.1, r102.2.2.2))))
noncomputable def rdLimit (d : T_triremeref01_Disk_o) (n : Int) : Option T_triremeref01_Disk_o :=
if n < 0 then (some (d.1, d.2.1, -1, d.2.2.2))
 else (some (d.1, d.2.1, n, d.2.2.2))
noncomputable def rdCrash (d : T_triremeref01_Disk_o) (fates : List Int) : Option T_triremeref01_Disk_o :=
Option.bind (α := ((List (List UInt8)))) (loopO (fun (s137 : (List (List UInt8)) × Int) => if s137.2 < ((d.1).length : Int) then ((idxO d.1 s137.2).bind fun x154 =>
(appO ([] : List UInt8) x154).bind fun x160 =>
(appO s137.1 [x160]).bind fun x163 =>
some (.inl (x163, IntKind.i64.wrap (s137.2 + 1))))
 else (some (.inr s137.1))) (([] : List (List UInt8)), 0)) fun r83 => Option.bind (α := ((List (List UInt8)))) (loopO (fun (s20946 : (List (List UInt8)) × Int) => if s20946.2 < ((d.2.1).length : Int) then (Option.bind (α := ((List (List UInt8)))) (Option.bind (α := (Int)) (if s20946.2 < ((fates).length : Int) then ((idxO fates s20946.2).bind fun x23034 =>
some x23034)
 else (some 0)) fun r23032 => (m_triremeref01_floor r23032 4).bind fun x23037 =>
(m_triremeref01_floor x23037.1 513).bind fun x23038 =>
(idxO d.2.1 s20946.2).bind fun x23043 =>
Option.bind (α := (T_triremeref01_Write × (List (List UInt8)))) (loopO (fun (s24760 : T_triremeref01_Write × (List (List UInt8)) × Int) => if s24760.2.2 < 512 then (Option.bind (α := (T_triremeref01_Write × (List (List UInt8)))) (if x23037.2 = 1 then ((idxO s24760.2.1 s24760.1.1).bind fun x24950 =>
(idxO s24760.1.2 s24760.2.2).bind fun x24954 =>
(idxO x24950 s24760.2.2).bind fun x24957 =>
(u8O ((x24954).toNat : Int)).bind fun x24960 =>
some ((s24760.1.1, s24760.1.2), (s24760.2.1).set (s24760.1.1 : Int).toNat ((x24950).set (s24760.2.2 : Int).toNat x24960)))
 else (if x23037.2 = 2 then (if s24760.2.2 < x23038.2 then ((idxO s24760.2.1 s24760.1.1).bind fun x24978 =>
(idxO s24760.1.2 s24760.2.2).bind fun x24982 =>
(idxO x24978 s24760.2.2).bind fun x24985 =>
(u8O ((x24982).toNat : Int)).bind fun x24988 =>
some ((s24760.1.1, s24760.1.2), (s24760.2.1).set (s24760.1.1 : Int).toNat ((x24978).set (s24760.2.2 : Int).toNat x24988)))
 else (if x23037.2 = 3 then (Option.bind (α := (T_triremeref01_Write × (List (List UInt8)))) (if x23038.2 ≤ s24760.2.2 then ((idxO s24760.2.1 s24760.1.1).bind fun x25035 =>
(idxO s24760.1.2 s24760.2.2).bind fun x25039 =>
(idxO x25035 s24760.2.2).bind fun x25042 =>
(u8O ((x25039).toNat : Int)).bind fun x25045 =>
some ((s24760.1.1, s24760.1.2), (s24760.2.1).set (s24760.1.1 : Int).toNat ((x25035).set (s24760.2.2 : Int).toNat x25045)))
 else (some (s24760.1, s24760.2.1))) fun r25017 => some (r25017.1, r25017.2))
 else (some (s24760.1, s24760.2.1))))
 else (if x23037.2 = 3 then (Option.bind (α := (T_triremeref01_Write × (List (List UInt8)))) (if x23038.2 ≤ s24760.2.2 then ((idxO s24760.2.1 s24760.1.1).bind fun x25092 =>
(idxO s24760.1.2 s24760.2.2).bind fun x25096 =>
(idxO x25092 s24760.2.2).bind fun x25099 =>
(u8O ((x25096).toNat : Int)).bind fun x25102 =>
some ((s24760.1.1, s24760.1.2), (s24760.2.1).set (s24760.1.1 : Int).toNat ((x25092).set (s24760.2.2 : Int).toNat x25102)))
 else (some (s24760.1, s24760.2.1))) fun r25074 => some (r25074.1, r25074.2))
 else (some (s24760.1, s24760.2.1))))) fun r24932 => some (.inl (r24932.1, r24932.2, IntKind.i64.wrap (s24760.2.2 + 1))))
 else (some (.inr (s24760.1, s24760.2.1)))) (x23043, s20946.1, 0)) fun r24074 => some r24074.2) fun r23027 => some (.inl (r23027, IntKind.i64.wrap (s20946.2 + 1))))
 else (some (.inr s20946.1))) (r83, 0)) fun r12633 => some (r12633, ([] : List T_triremeref01_Write), -1, false)
noncomputable def rdNew (n : Int) : Option T_triremeref01_Disk_o :=
Option.bind (α := (T_triremeref01_Disk_o)) (loopO (fun (s100 : T_triremeref01_Disk_o × Int) => if s100.2 < n then ((mkO 512 (0 : UInt8)).bind fun x116 =>
(appO s100.1.1 ([x116])).bind fun x119 =>
some (.inl ((x119, s100.1.2.1, s100.1.2.2.1, s100.1.2.2.2), IntKind.i64.wrap (s100.2 + 1))))
 else (some (.inr s100.1))) ((([] : List (List UInt8)), ([] : List T_triremeref01_Write), -1, false), 0)) fun r61 => some r61
noncomputable def rsAt (s : T_triremeref01_Disk_o × (List Bool) × (List (List UInt8)) × (List (List UInt8))) (h : List UInt8) : Option Int :=
Option.bind (α := (Unit) ⊕ Int) (loopO (fun (s85 : Int) => if s85 < ((s.2.1).length : Int) then ((idxO s.2.1 s85).bind fun x93 =>
if x93 = true then ((idxO s.2.2.1 s85).bind fun x97 =>
if x97 = h then (some (.inr (.inr s85)))
 else (some (.inl (IntKind.i64.wrap (s85 + 1)))))
 else (some (.inl (IntKind.i64.wrap (s85 + 1)))))
 else (some (.inr (.inl ())))) 0) fun o52 => Sum.elim (fun r52 => some (-1)) (fun rv => some rv) o52
noncomputable def rsHolds (s : T_triremeref01_Disk_o × (List Bool) × (List (List UInt8)) × (List (List UInt8))) (h : List UInt8) : Option Bool :=
Option.bind (α := (Unit) ⊕ Bool) (loopO (fun (s65 : Int) => if s65 < ((s.2.2.2).length : Int) then ((idxO s.2.2.2 s65).bind fun x73 =>
if x73 = h then (some (.inr (.inr true)))
 else (some (.inl (IntKind.i64.wrap (s65 + 1)))))
 else (some (.inr (.inl ())))) 0) fun o40 => Sum.elim (fun r40 => some false) (fun rv => some rv) o40
noncomputable def rsSpare (s : T_triremeref01_Disk_o × (List Bool) × (List (List UInt8)) × (List (List UInt8))) (i : Int) : Option Bool :=
if 1 < i then ((idxO s.2.1 i).bind fun x8 =>
if x8 = true then ((idxO s.2.2.1 i).bind fun x12 =>
(rsHolds (s.1, s.2) x12).bind fun x16 =>
some (!x16))
 else (some true))
 else (some false)
noncomputable def rsFree (s : T_triremeref01_Disk_o × (List Bool) × (List (List UInt8)) × (List (List UInt8))) : Option Int :=
Option.bind (α := (Int)) (loopO (fun (s83 : Int × Int) => if s83.2 < ((s.2.1).length : Int) then (Option.bind (α := (Int)) ((rsSpare (s.1, s.2) s83.2).bind fun x96 =>
Option.bind (α := (Int)) (if x96 = true then (some (IntKind.i64.wrap (s83.1 + 1)))
 else (some s83.1)) fun r98 => some r98) fun r95 => some (.inl (r95, IntKind.i64.wrap (s83.2 + 1))))
 else (some (.inr s83.1))) (0, 0)) fun r50 => some r50
noncomputable def rsGet (s : T_triremeref01_Disk_o × (List Bool) × (List (List UInt8)) × (List (List UInt8))) (h : List UInt8) : Option ((List UInt8) × Int) :=
(rsAt (s.1, s.2) h).bind fun x4 =>
if x4 < 0 then (some (([] : List UInt8), 51))
 else ((rdRead s.1 x4).bind fun x13 =>
if x13.2 = 0 then ((m_triremeref04_Unwrap x13.1).bind fun x17 =>
if x17.2 = 0 then ((rSum x17.1).bind fun x20 =>
if x20 = h then (some (x17.1, 0))
 else (some (([] : List UInt8), 51)))
 else (some (([] : List UInt8), 51)))
 else (some (([] : List UInt8), x13.2)))
noncomputable def rsPut (s : T_triremeref01_Disk_o × (List Bool) × (List (List UInt8)) × (List (List UInt8))) (block : List UInt8) : Option ((List UInt8) × Int × (T_triremeref01_Disk_o × (List Bool) × (List (List UInt8)) × (List (List UInt8)))) :=
(m_triremeref04_Wrap block).bind fun x4 =>
if x4.2 = 0 then ((rSum block).bind fun x7 =>
(rsAt (s.1, s.2) x7).bind fun x10 =>
Option.bind (α := (T_triremeref05_Store_o × T_triremeref01_Disk_o) ⊕ ((List UInt8) × Int × (T_triremeref01_Disk_o × (List Bool) × (List (List UInt8)) × (List (List UInt8))))) (if x10 < 0 then (Option.bind (α := (Int)) (loopO (fun (s138 : Int) => if s138 < ((s.2.1).length : Int) then ((rsSpare (s.1, s.2) s138).bind fun x146 =>
if (!x146) = true then (some (.inl (IntKind.i64.wrap (s138 + 1))))
 else (some (.inr s138)))
 else (some (.inr s138))) 0) fun r119 => if r119 = ((s.2.1).length : Int) then (some (.inr (((List.replicate 32 0) : List UInt8), 50, (s.1, s.2))))
 else ((rdWrite s.1 r119 x4.1).bind fun x155 =>
if x155.1 = 0 then ((idxO s.2.1 r119).bind fun x157 =>
(idxO s.2.2.1 r119).bind fun x164 =>
some (.inl (((s.2.1).set (r119 : Int).toNat true, (s.2.2.1).set (r119 : Int).toNat x7, s.2.2.2), x155.2)))
 else (some (.inr (((List.replicate 32 0) : List UInt8), x155.1, (x155.2, s.2))))))
 else (some (.inl (s.2, s.1)))) fun o89 => Sum.elim (fun r89 => Option.bind (α := (T_triremeref05_Store_o)) ((appO ([] : List (List UInt8)) r89.1.2.2).bind fun x258 =>
(appO x258 ([x7])).bind fun x260 =>
some (r89.1.1, r89.1.2.1, x260)) fun r214 => some (x7, 0, (r89.2, r214))) (fun rv => some rv) o89)
 else (some (((List.replicate 32 0) : List UInt8), x4.2, (s.1, s.2)))
noncomputable def rsHashes (s : T_triremeref01_Disk_o × (List Bool) × (List (List UInt8)) × (List (List UInt8))) : Option (List (List UInt8)) :=
Option.bind (α := ((List (List UInt8)))) (loopO (fun (s446 : (List (List UInt8)) × Int) => if s446.2 < ((s.2.1).length : Int) then (Option.bind (α := ((List (List UInt8)))) ((idxO s.2.1 s446.2).bind fun x502 =>
Option.bind (α := ((List (List UInt8)))) (if x502 = true then ((idxO s.2.2.1 s446.2).bind fun x528 =>
(appO s446.1 ([x528])).bind fun x534 =>
some x534)
 else (some s446.1)) fun r519 => some r519) fun r494 => some (.inl (r494, IntKind.i64.wrap (s446.2 + 1))))
 else (some (.inr s446.1))) (([] : List (List UInt8)), 0)) fun r268 => (m_triremeref05_Sorted r268).bind fun x535 =>
some x535
noncomputable def rsOpen (d : T_triremeref01_Disk_o) : Option (T_triremeref05_Store_o × Int) :=
if d.2.2.2 = true then (none)
 else (Option.bind (α := (T_triremeref05_Store_o)) (loopO (fun (s310 : T_triremeref05_Store_o × Int) => if s310.2 < ((d.1).length : Int) then ((rdRead d s310.2).bind fun x316 =>
(m_triremeref04_Unwrap x316.1).bind fun x318 =>
(rSum x318.1).bind fun x320 =>
if 1 < s310.2 then (if x318.2 = 0 then ((rsAt (d, s310.1) x320).bind fun x325 =>
(appO s310.1.1 ([decide (x325 < 0)])).bind fun x334 =>
(appO s310.1.2.1 ([x320])).bind fun x340 =>
some (.inl ((x334, x340, s310.1.2.2), IntKind.i64.wrap (s310.2 + 1))))
 else ((appO s310.1.1 ([false])).bind fun x349 =>
(appO s310.1.2.1 ([x320])).bind fun x355 =>
some (.inl ((x349, x355, s310.1.2.2), IntKind.i64.wrap (s310.2 + 1)))))
 else ((appO s310.1.1 ([false])).bind fun x364 =>
(appO s310.1.2.1 ([x320])).bind fun x370 =>
some (.inl ((x364, x370, s310.1.2.2), IntKind.i64.wrap (s310.2 + 1)))))
 else (some (.inr s310.1))) ((([] : List Bool), ([] : List (List UInt8)), ([] : List (List UInt8))), 0)) fun r189 => some (r189, 0))
noncomputable def stHoldO (s : T_disk_Disk_o × ((List UInt8) → Option Int) × (Int → Option (List UInt8)) × ((List UInt8) → Option Int)) (list : List (List UInt8)) : Option ((T_disk_Disk_o × ((List UInt8) → Option Int) × (Int → Option (List UInt8)) × ((List UInt8) → Option Int)) × (List (List UInt8))) :=
Option.bind (α := (T_store_Store_o)) (loopO (fun (s69 : T_store_Store_o × Int) => if s69.2 < ((list).length : Int) then ((idxO list s69.2).bind fun x71 =>
some (.inl ((s69.1.1, s69.1.2.1, fset x71 1 s69.1.2.2), IntKind.i64.wrap (s69.2 + 1))))
 else (some (.inr s69.1))) ((s.2.1, s.2.2.1, (fnil : (List UInt8) → Option Int)), 0)) fun r44 => some ((s.1, r44), list)
noncomputable def lawStep (s : T_disk_Disk_o × ((List UInt8) → Option Int) × (Int → Option (List UInt8)) × ((List UInt8) → Option Int)) (m : T_triremeref01_Disk_o × (List Bool) × (List (List UInt8)) × (List (List UInt8))) (op : T_triremelaw05_Op) : Option (Bool × (T_disk_Disk_o × ((List UInt8) → Option Int) × (Int → Option (List UInt8)) × ((List UInt8) → Option Int)) × (T_triremeref01_Disk_o × (List Bool) × (List (List UInt8)) × (List (List UInt8)))) :=
(rSum op.2.2.1).bind fun x9 =>
if (andI .i64 op.1 3) = 0 then ((lawDigests op.2.2.2.1).bind fun x13 =>
(stHoldO (s.1, s.2) x13).bind fun x15 =>
(lawDigests op.2.2.2.1).bind fun x17 =>
Option.bind (α := (Unit)) (loopO (fun (s57 : (List (List UInt8)) × Int) => if s57.2 < ((x15.2).length : Int) then ((idxO s57.1 s57.2).bind fun x60 =>
some (.inl ((s57.1).set (s57.2 : Int).toNat ([9, 0, 0, 0, 0, 0, 0, 0, 0, 0, 0, 0, 0, 0, 0, 0, 0, 0, 0, 0, 0, 0, 0, 0, 0, 0, 0, 0, 0, 0, 0, 0] : List UInt8), IntKind.i64.wrap (s57.2 + 1))))
 else (some (.inr ()))) (x15.2, 0)) fun r44 => some (true, (x15.1.1, x15.1.2), (m.1, (m.2.1, m.2.2.1, x17))))
 else (if (andI .i64 op.1 3) = 1 then ((stGet (s.1, s.2) x9).bind fun x65 =>
(rsGet (m.1, m.2) x9).bind fun x67 =>
if x65.2 = x67.2 then (some (decide (x65.1 = x67.1), (s.1, s.2), (m.1, m.2)))
 else (some (false, (s.1, s.2), (m.1, m.2))))
 else ((appO ([] : List UInt8) op.2.2.1).bind fun x72 =>
(stPut (s.1, s.2) x72).bind fun x73 =>
(rsPut (m.1, m.2) op.2.2.1).bind fun x76 =>
if x73.1 = x76.1 then (if x73.2.1 = x76.2.1 then (some (decide (x72 = op.2.2.1), (x73.2.2.1, x73.2.2.2), (x76.2.2.1, x76.2.2.2)))
 else (some (false, (x73.2.2.1, x73.2.2.2), (x76.2.2.1, x76.2.2.2))))
 else (some (false, (x73.2.2.1, x73.2.2.2), (x76.2.2.1, x76.2.2.2)))))
noncomputable def stOpenE (d : T_disk_Disk_o) : Option (Unit × Int) :=
(diskSectors d).bind fun x6 =>
Option.bind (α := (T_store_Store_o) ⊕ (Unit × Int)) (loopO (fun (s399 : T_store_Store_o × Int) => if s399.2 < x6 then (Option.bind (α := (T_store_Store_o) ⊕ (Unit × Int)) ((diskRead d s399.2).bind fun x440 =>
if x440.2 = 0 then ((unwrap x440.1).bind fun x443 =>
if s399.2 < 2 then (some (.inl s399.1))
 else (if x443.2 = 0 then ((shaSum x443.1).bind fun x447 =>
Option.bind (α := (T_store_Store_o)) (if (!((s399.1.1 x447).isSome)) = true then (some (fset x447 s399.2 s399.1.1, fset s399.2 x447 s399.1.2.1, s399.1.2.2))
 else (some s399.1)) fun r466 => some (.inl r466))
 else (some (.inl s399.1))))
 else (some (.inr ((), x440.2)))) fun o439 => Sum.elim (fun r439 => some (.inl (r439, IntKind.i64.wrap (s399.2 + 1)))) (fun rv => some (.inr (.inr rv))) o439)
 else (some (.inr (.inl s399.1)))) (((fnil : (List UInt8) → Option Int), (fnil : Int → Option (List UInt8)), (fnil : (List UInt8) → Option Int)), 0)) fun o242 => Sum.elim (fun r242 => some ((), 0)) (fun rv => some rv) o242
noncomputable def m_triremelaw05_StorePlays (x0_ : Int) (x1_ : List T_triremelaw05_Op) : Option Bool :=
(m_triremelaw05_speaks).bind fun x2 =>
if (!x2) = true then (some false)
 else ((diskNew (IntKind.i64.wrap (2 + (andI .i64 x0_ 7)))).bind fun x4 =>
(rdNew (IntKind.i64.wrap (2 + (andI .i64 x0_ 7)))).bind fun x6 =>
if 60 < ((x1_).length : Int) then (some true)
 else ((stOpen x4.1).bind fun x9 =>
(rsOpen x6).bind fun x11 =>
if x9.2 = 0 then (Option.bind (α := (T_disk_Disk_o × T_triremeref01_Disk_o) ⊕ Bool) (loopO (fun (s2528 : T_disk_Disk_o × T_triremeref01_Disk_o × T_store_Store_o × T_triremeref05_Store_o × Int) => if s2528.2.2.2.2 < ((x1_).length : Int) then (Option.bind (α := (T_disk_Disk_o × T_triremeref01_Disk_o × T_store_Store_o × T_triremeref05_Store_o) ⊕ Bool) ((idxO x1_ s2528.2.2.2.2).bind fun x2785 =>
if 20 < ((x2785.2.2.2.1).length : Int) then (some (.inr true))
 else (if 600 < ((x2785.2.2.1).length : Int) then (some (.inr true))
 else (Option.bind (α := (T_disk_Disk_o × T_triremeref01_Disk_o × T_store_Store_o × T_triremeref05_Store_o) ⊕ Bool) (Option.bind (α := (T_disk_Disk_o × T_triremeref01_Disk_o × T_store_Store_o × T_triremeref05_Store_o) ⊕ Bool) (if (andI .i64 x2785.1 15) = 15 then ((diskCrash s2528.1 x2785.2.2.2.2).bind fun x2958 =>
(rdCrash s2528.2.1 x2785.2.2.2.2).bind fun x2960 =>
(stOpen x2958).bind fun x2962 =>
(rsOpen x2960).bind fun x2964 =>
if x2962.2 = 0 then (some (.inl (x2958, x2960, x2962.1, x2964.1)))
 else (some (.inr false)))
 else (Option.bind (α := (T_disk_Disk_o × T_triremeref01_Disk_o × T_store_Store_o × T_triremeref05_Store_o) ⊕ Bool) (if (andI .i64 x2785.1 15) = 14 then ((diskLimit s2528.1 x2785.2.1).bind fun x2985 =>
(rdLimit s2528.2.1 x2785.2.1).bind fun x2986 =>
some (.inl (x2985, x2986, s2528.2.2.1, s2528.2.2.2.1)))
 else (Option.bind (α := (T_disk_Disk_o × T_triremeref01_Disk_o × T_store_Store_o × T_triremeref05_Store_o) ⊕ Bool) (if (andI .i64 x2785.1 15) = 13 then ((diskFlush s2528.1).bind fun x2995 =>
(rdFlush s2528.2.1).bind fun x2996 =>
if x2995.1 = x2996.1 then (some (.inl (x2995.2, x2996.2, s2528.2.2.1, s2528.2.2.2.1)))
 else (some (.inr false)))
 else ((lawStep (s2528.1, s2528.2.2.1) (s2528.2.1, s2528.2.2.2.1) (x2785.1, x2785.2.1, x2785.2.2.1, x2785.2.2.2.1, x2785.2.2.2.2)).bind fun x2998 =>
if (!x2998.1) = true then (some (.inr false))
 else (some (.inl (x2998.2.1.1, x2998.2.2.1, x2998.2.1.2, x2998.2.2.2))))) fun o2993 => Sum.elim (fun r2993 => some (.inl (r2993.1, r2993.2.1, r2993.2.2.1, r2993.2.2.2))) (fun rv => some (.inr rv)) o2993)) fun o2983 => Sum.elim (fun r2983 => some (.inl (r2983.1, r2983.2.1, r2983.2.2.1, r2983.2.2.2))) (fun rv => some (.inr rv)) o2983)) fun o2948 => Sum.elim (fun r2948 => some (.inl (r2948.1, r2948.2.1, r2948.2.2.1, r2948.2.2.2))) (fun rv => some (.inr rv)) o2948) fun o2896 => Sum.elim (fun r2896 => (stFree (r2896.1, r2896.2.2.1)).bind fun x3015 =>
(rsFree (r2896.2.1, r2896.2.2.2)).bind fun x3016 =>
if x3015 = x3016 then ((stHashes (r2896.1, r2896.2.2.1)).bind fun x3018 =>
(rsHashes (r2896.2.1, r2896.2.2.2)).bind fun x3020 =>
(m_triremeref05_Same x3018 x3020).bind fun x3022 =>
if (!x3022) = true then (some (.inr false))
 else ((rSum x2785.2.2.1).bind fun x3024 =>
(stHas (r2896.1, r2896.2.2.1) x3024).bind fun x3026 =>
(rSum x2785.2.2.1).bind fun x3027 =>
(rsAt (r2896.2.1, r2896.2.2.2) x3027).bind fun x3029 =>
if (x3026) = (decide (0 ≤ x3029)) then (some (.inl (r2896.1, r2896.2.1, r2896.2.2.1, r2896.2.2.2)))
 else (some (.inr false))))
 else (some (.inr false))) (fun rv => some (.inr rv)) o2896))) fun o2780 => Sum.elim (fun r2780 => some (.inl (r2780.1, r2780.2.1, r2780.2.2.1, r2780.2.2.2, IntKind.i64.wrap (s2528.2.2.2.2 + 1)))) (fun rv => some (.inr (.inr rv))) o2780)
 else (some (.inr (.inl (s2528.1, s2528.2.1))))) (x4.1, x6, x9.1, x11.1, 0)) fun o1521 => Sum.elim (fun r1521 => (stOpenE r1521.1).bind fun x3031 =>
some (decide ((decide (x3031.2 = 3)) = (r1521.2.2.2.2)))) (fun rv => some rv) o1521)
 else (some false)))
end Go.Proofs.YtfepdfjhejkemaaDoor
