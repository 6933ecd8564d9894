/- Models. -/
import Derived.Test.YtnjemlkcamdbfaaGreatDoorK
import Derived.Test.YtnjemlkcamdbfaaGreatDoorRec
set_option linter.unusedSimpArgs false
set_option linter.unusedVariables false
namespace Go.Proofs.YtnjemlkcamdbfaaGreatDoor
open Go.RowKit Go.Tri
def shaStart : List Int := [0x6a09e667, 0xbb67ae85, 0x3c6ef372, 0xa54ff53a, 0x510e527f, 0x9b05688c, 0x1f83d9ab, 0x5be0cd19]
theorem shaStart_len : shaStart.length = 8 := rfl
def shaRounds : List Int := [0x428a2f98, 0x71374491, 0xb5c0fbcf, 0xe9b5dba5, 0x3956c25b, 0x59f111f1, 0x923f82a4, 0xab1c5ed5, 0xd807aa98, 0x12835b01, 0x243185be, 0x550c7dc3, 0x72be5d74, 0x80deb1fe, 0x9bdc06a7, 0xc19bf174, 0xe49b69c1, 0xefbe4786, 0x0fc19dc6, 0x240ca1cc, 0x2de92c6f, 0x4a7484aa, 0x5cb0a9dc, 0x76f988da, 0x983e5152, 0xa831c66d, 0xb00327c8, 0xbf597fc7, 0xc6e00bf3, 0xd5a79147, 0x06ca6351, 0x14292967, 0x27b70a85, 0x2e1b2138, 0x4d2c6dfc, 0x53380d13, 0x650a7354, 0x766a0abb, 0x81c2c92e, 0x92722c85, 0xa2bfe8a1, 0xa81a664b, 0xc24b8b70, 0xc76c51a3, 0xd192e819, 0xd6990624, 0xf40e3585, 0x106aa070, 0x19a4c116, 0x1e376c08, 0x2748774c, 0x34b0bcb5, 0x391c0cb3, 0x4ed8aa4a, 0x5b9cca4f, 0x682e6ff3, 0x748f82ee, 0x78a5636f, 0x84c87814, 0x8cc70208, 0x90befffa, 0xa4506ceb, 0xbef9a3f7, 0xc67178f2]
theorem shaRounds_len : shaRounds.length = 64 := by kernel_rfl
abbrev T_sha_Hasher_o : Type := (List Int) × (List UInt8) × Int
def O_sha_Hasher (b : Nat) (x : T_sha_Hasher_o) : HP := HP.ex fun (i : (Option Addr) × Nat) => [HP.fact ((x.1).length = 8), HP.blk b (icells .u32 x.1 ++ ([Value.slice i.1 (x.2.1).length i.2, Value.int .u64 (x.2.2)])) 163, HP.ow rByte 5 i.1 i.2 x.2.1]
theorem O_sha_Hasher_o {w0 w : World} {l : List HP} {b : Nat} {x : T_sha_Hasher_o} (H : St w0 w (O_sha_Hasher b x :: l)) : ∃ (i2 : Option Addr) (c2 : Nat), ((x.1).length = 8) ∧ St w0 w (HP.blk b (icells .u32 x.1 ++ ([Value.slice i2 (x.2.1).length c2, Value.int .u64 (x.2.2)])) 163 :: HP.ow rByte 5 i2 c2 x.2.1 :: l) := by
  obtain ⟨⟨i2, c2⟩, H⟩ := H.exOpen
  exact ⟨i2, c2, H.factP 0 rfl, H.keep 0 1⟩
theorem O_sha_Hasher_s {w0 w : World} {l : List HP} {b : Nat} {i2 : Option Addr} {c2 : Nat} {x0 : List Int} {x1 : List UInt8} {x2 : Int} (h0 : (x0).length = 8) (H : St w0 w (HP.blk b (icells .u32 (x0) ++ ([Value.slice i2 (x1).length c2, Value.int .u64 (x2)])) 163 :: HP.ow rByte 5 i2 c2 (x1) :: l)) : St w0 w (O_sha_Hasher b (x0, x1, x2) :: l) := by
  unfold O_sha_Hasher
  exact St.exShut (i2, c2) (H.addFact h0)
def O_sha_Hasher_1 (b : Nat) (x : T_sha_Hasher_o) : HP := HP.ex fun (i : (Option Addr) × Nat) => [HP.fact ((x.1).length = 8), HP.blk b (icells .u32 x.1 ++ ([Value.slice i.1 (x.2.1).length i.2, Value.int .u64 (x.2.2)])) 163, HP.sl rByte i.1 i.2 x.2.1]
theorem O_sha_Hasher_1_o {w0 w : World} {l : List HP} {b : Nat} {x : T_sha_Hasher_o} (H : St w0 w (O_sha_Hasher_1 b x :: l)) : ∃ (i2 : Option Addr) (c2 : Nat), ((x.1).length = 8) ∧ St w0 w (HP.blk b (icells .u32 x.1 ++ ([Value.slice i2 (x.2.1).length c2, Value.int .u64 (x.2.2)])) 163 :: HP.sl rByte i2 c2 x.2.1 :: l) := by
  obtain ⟨⟨i2, c2⟩, H⟩ := H.exOpen
  exact ⟨i2, c2, H.factP 0 rfl, H.keep 0 1⟩
theorem O_sha_Hasher_1_s {w0 w : World} {l : List HP} {b : Nat} {i2 : Option Addr} {c2 : Nat} {x0 : List Int} {x1 : List UInt8} {x2 : Int} (h0 : (x0).length = 8) (H : St w0 w (HP.blk b (icells .u32 (x0) ++ ([Value.slice i2 (x1).length c2, Value.int .u64 (x2)])) 163 :: HP.sl rByte i2 c2 (x1) :: l)) : St w0 w (O_sha_Hasher_1 b (x0, x1, x2) :: l) := by
  unfold O_sha_Hasher_1
  exact St.exShut (i2, c2) (H.addFact h0)
abbrev T_pack_Pen_o : Type := (List UInt8)
def O_pack_Pen (b : Nat) (x : T_pack_Pen_o) : HP := HP.ex fun (i : (Option Addr) × Nat) => [HP.blk b ([.slice i.1 (x).length i.2]) 132, HP.ow rByte 5 i.1 i.2 x]
theorem O_pack_Pen_o {w0 w : World} {l : List HP} {b : Nat} {x : T_pack_Pen_o} (H : St w0 w (O_pack_Pen b x :: l)) : ∃ (i1 : Option Addr) (c1 : Nat), St w0 w (HP.blk b ([.slice i1 (x).length c1]) 132 :: HP.ow rByte 5 i1 c1 x :: l) := by
  obtain ⟨⟨i1, c1⟩, H⟩ := H.exOpen
  exact ⟨i1, c1, H⟩
theorem O_pack_Pen_s {w0 w : World} {l : List HP} {b : Nat} {i1 : Option Addr} {c1 : Nat} {x0 : List UInt8}  (H : St w0 w (HP.blk b ([.slice i1 (x0).length c1]) 132 :: HP.ow rByte 5 i1 c1 x0 :: l)) : St w0 w (O_pack_Pen b x0 :: l) := by
  unfold O_pack_Pen
  exact St.exShut (i1, c1) H
def O_pack_Pen_1 (b : Nat) (x : T_pack_Pen_o) : HP := HP.ex fun (i : (Option Addr) × Nat) => [HP.blk b ([.slice i.1 (x).length i.2]) 132, HP.sl rByte i.1 i.2 x]
theorem O_pack_Pen_1_s {w0 w : World} {l : List HP} {b : Nat} {i1 : Option Addr} {c1 : Nat} {x0 : List UInt8}  (H : St w0 w (HP.blk b ([.slice i1 (x0).length c1]) 132 :: HP.sl rByte i1 c1 x0 :: l)) : St w0 w (O_pack_Pen_1 b x0 :: l) := by
  unfold O_pack_Pen_1
  exact St.exShut (i1, c1) H
abbrev T_pack_Eye_o : Type := (List UInt8)
def O_pack_Eye (b : Nat) (x : T_pack_Eye_o) : HP := HP.ex fun (i : (Option Addr) × Nat) => [HP.blk b ([.slice i.1 (x).length i.2]) 167, HP.sl rByte i.1 i.2 x]
theorem O_pack_Eye_o {w0 w : World} {l : List HP} {b : Nat} {x : T_pack_Eye_o} (H : St w0 w (O_pack_Eye b x :: l)) : ∃ (i1 : Option Addr) (c1 : Nat), St w0 w (HP.blk b ([.slice i1 (x).length c1]) 167 :: HP.sl rByte i1 c1 x :: l) := by
  obtain ⟨⟨i1, c1⟩, H⟩ := H.exOpen
  exact ⟨i1, c1, H⟩
theorem O_pack_Eye_s {w0 w : World} {l : List HP} {b : Nat} {i1 : Option Addr} {c1 : Nat} {x0 : List UInt8}  (H : St w0 w (HP.blk b ([.slice i1 (x0).length c1]) 167 :: HP.sl rByte i1 c1 x0 :: l)) : St w0 w (O_pack_Eye b x0 :: l) := by
  unfold O_pack_Eye
  exact St.exShut (i1, c1) H
abbrev T_triremeref02_Eye_o : Type := (List UInt8) × Int
def O_triremeref02_Eye (b : Nat) (x : T_triremeref02_Eye_o) : HP := HP.ex fun (i : (Option Addr) × Nat) => [HP.blk b ([.slice i.1 (x.1).length i.2, .int .i64 (x.2)]) 122, HP.sl rByte i.1 i.2 x.1]
theorem O_triremeref02_Eye_o {w0 w : World} {l : List HP} {b : Nat} {x : T_triremeref02_Eye_o} (H : St w0 w (O_triremeref02_Eye b x :: l)) : ∃ (i1 : Option Addr) (c1 : Nat), St w0 w (HP.blk b ([.slice i1 (x.1).length c1, .int .i64 (x.2)]) 122 :: HP.sl rByte i1 c1 x.1 :: l) := by
  obtain ⟨⟨i1, c1⟩, H⟩ := H.exOpen
  exact ⟨i1, c1, H⟩
theorem O_triremeref02_Eye_s {w0 w : World} {l : List HP} {b : Nat} {i1 : Option Addr} {c1 : Nat} {x0 : List UInt8} {x1 : Int}  (H : St w0 w (HP.blk b ([.slice i1 (x0).length c1, .int .i64 (x1)]) 122 :: HP.sl rByte i1 c1 (x0) :: l)) : St w0 w (O_triremeref02_Eye b (x0, x1) :: l) := by
  unfold O_triremeref02_Eye
  exact St.exShut (i1, c1) H
abbrev T_api_Pair : Type := (List UInt8) × (List UInt8)
abbrev R_api_Pair : Rp T_api_Pair := (rPair (rSl rByte) (rSl rByte))
theorem rc_api_Pair {w0 w : World} {l : List HP} {cs : List Value} {x : T_api_Pair} (H : St w0 w (HP.rc R_api_Pair cs x :: l)) : ∃ (p2 : Option Addr) (c2 : Nat) (p3 : Option Addr) (c3 : Nat), cs = [.slice p2 (x.1).length c2, .slice p3 (x.2).length c3] ∧ St w0 w (HP.sl rByte p2 c2 x.1 :: HP.sl rByte p3 c3 x.2 :: l) := by
 obtain ⟨u1, v1, rfl, H⟩ := H.rcPair 0 rfl
 replace H := H.dp 2 rfl
 obtain ⟨p2, c2, rfl, H⟩ := H.rcSl 0 rfl
 replace H := H.dp 1 rfl
 obtain ⟨p3, c3, rfl, H⟩ := H.rcSl 1 rfl
 replace H := H.dp 2 rfl
 exact ⟨p2, c2, p3, c3, rfl, (H.pm 2 [1, 0] rfl:)⟩
abbrev T_api_Kid : Type := (List UInt8) × (List UInt8)
abbrev R_api_Kid : Rp T_api_Kid := (rPair (rSl rByte) (rBytesN 32))
theorem rc_api_Kid {w0 w : World} {l : List HP} {cs : List Value} {x : T_api_Kid} (H : St w0 w (HP.rc R_api_Kid cs x :: l)) : ∃ (p2 : Option Addr) (c2 : Nat), ((x.2).length = 32) ∧ cs = [Value.slice p2 (x.1).length c2] ++ (bcells x.2) ∧ St w0 w (HP.sl rByte p2 c2 x.1 :: l) := by
 obtain ⟨u1, v1, rfl, H⟩ := H.rcPair 0 rfl
 replace H := H.dp 2 rfl
 obtain ⟨p2, c2, rfl, H⟩ := H.rcSl 0 rfl
 replace H := H.dp 1 rfl
 obtain ⟨rfl, hl3⟩ := H.rcBN 1 rfl
 replace H := H.dp 1 rfl
 exact ⟨p2, c2, hl3, rfl, H⟩
abbrev T_api_Node : Type := Int × (List T_api_Pair) × (List T_api_Kid)
abbrev R_api_Node : Rp T_api_Node := (rPair (rInt .i64) (rPair (rSl R_api_Pair) (rSl R_api_Kid)))
theorem rc_api_Node {w0 w : World} {l : List HP} {cs : List Value} {x : T_api_Node} (H : St w0 w (HP.rc R_api_Node cs x :: l)) : ∃ (p3 : Option Addr) (c3 : Nat) (p4 : Option Addr) (c4 : Nat), cs = [.int .i64 (x.1), .slice p3 (x.2.1).length c3, .slice p4 (x.2.2).length c4] ∧ St w0 w (HP.sl R_api_Pair p3 c3 x.2.1 :: HP.sl R_api_Kid p4 c4 x.2.2 :: l) := by
 obtain ⟨u1, v1, rfl, H⟩ := H.rcPair 0 rfl
 replace H := H.dp 2 rfl
 obtain rfl := H.rcI 0 rfl
 replace H := H.dp 0 rfl
 obtain ⟨u2, v2, rfl, H⟩ := H.rcPair 0 rfl
 replace H := H.dp 2 rfl
 obtain ⟨p3, c3, rfl, H⟩ := H.rcSl 0 rfl
 replace H := H.dp 1 rfl
 obtain ⟨p4, c4, rfl, H⟩ := H.rcSl 1 rfl
 replace H := H.dp 2 rfl
 exact ⟨p3, c3, p4, c4, rfl, (H.pm 2 [1, 0] rfl:)⟩
def O_pack_Eye_1 (b : Nat) (x : T_pack_Eye_o) : HP := HP.ex fun (i : (Option Addr) × Nat) => [HP.blk b ([.slice i.1 (x).length i.2]) 167, HP.sl rByte i.1 i.2 x]
theorem mk_api_Node {w0 w : World} {l : List HP} (H : St w0 w l) (s0 : Int) {p1 : Option Addr} {c1 : Nat} {x1 : List T_api_Pair} {p2 : Option Addr} {c2 : Nat} {x2 : List T_api_Kid} (i1 : Nat) (h1 : l[i1]? = some (HP.sl R_api_Pair p1 c1 x1)) (i2 : Nat) (h2 : l[i2]? = some (HP.sl R_api_Kid p2 c2 x2)) : St w0 w (HP.rc R_api_Node [.int .i64 s0, .slice p1 x1.length c1, .slice p2 x2.length c2] (s0, x1, x2) :: l) := H.mkRc (fun gg => ⟨_, _, rfl, rfl, ⟨_, _, rfl, ⟨_, _, rfl, (gg i1 _ h1).choose_spec⟩, ⟨_, _, rfl, (gg i2 _ h2).choose_spec⟩⟩⟩)
def O_t77 (b : Nat) (x : (List Int)) : HP := HP.ex fun (i : (Option Addr) × Nat) => [HP.blk b ([.slice i.1 (x).length i.2]) 77, HP.ow (rInt .i64) 3 i.1 i.2 x]
theorem O_t77_o {w0 w : World} {l : List HP} {b : Nat} {x : (List Int)} (H : St w0 w (O_t77 b x :: l)) : ∃ (i1 : Option Addr) (c1 : Nat), St w0 w (HP.blk b ([.slice i1 (x).length c1]) 77 :: HP.ow (rInt .i64) 3 i1 c1 x :: l) := by
  obtain ⟨⟨i1, c1⟩, H⟩ := H.exOpen
  exact ⟨i1, c1, H⟩
theorem O_t77_s {w0 w : World} {l : List HP} {b : Nat} {i1 : Option Addr} {c1 : Nat} {x0 : List Int}  (H : St w0 w (HP.blk b ([.slice i1 (x0).length c1]) 77 :: HP.ow (rInt .i64) 3 i1 c1 x0 :: l)) : St w0 w (O_t77 b x0 :: l) := by
  unfold O_t77
  exact St.exShut (i1, c1) H
def O_int (b : Nat) (x : Int) : HP := HP.ex fun (i : Unit) => [HP.blk b ([.int .i64 (x)]) 3]
theorem O_int_o {w0 w : World} {l : List HP} {b : Nat} {x : Int} (H : St w0 w (O_int b x :: l)) : St w0 w (HP.blk b ([.int .i64 (x)]) 3 :: l) := by
  obtain ⟨_, H⟩ := H.exOpen
  exact H
theorem O_int_s {w0 w : World} {l : List HP} {b : Nat} {x0 : Int}  (H : St w0 w (HP.blk b ([.int .i64 (x0)]) 3 :: l)) : St w0 w (O_int b x0 :: l) := by
  unfold O_int
  exact St.exShut () H
abbrev T_triremeref08_Blocks_o : Type := (List (List UInt8)) × (List (List UInt8))
def O_triremeref08_Blocks (b : Nat) (x : T_triremeref08_Blocks_o) : HP := HP.ex fun (i : (Option Addr) × Nat × (Option Addr) × Nat) => [HP.blk b ([.slice i.1 (x.1).length i.2.1, .slice i.2.2.1 (x.2).length i.2.2.2]) 51, HP.ow (rBytesN 32) 25 i.1 i.2.1 x.1, HP.ow (rSl rByte) 26 i.2.2.1 i.2.2.2 x.2]
theorem O_triremeref08_Blocks_o {w0 w : World} {l : List HP} {b : Nat} {x : T_triremeref08_Blocks_o} (H : St w0 w (O_triremeref08_Blocks b x :: l)) : ∃ (i1 : Option Addr) (c1 : Nat) (i2 : Option Addr) (c2 : Nat), St w0 w (HP.blk b ([.slice i1 (x.1).length c1, .slice i2 (x.2).length c2]) 51 :: HP.ow (rBytesN 32) 25 i1 c1 x.1 :: HP.ow (rSl rByte) 26 i2 c2 x.2 :: l) := by
  obtain ⟨⟨i1, c1, i2, c2⟩, H⟩ := H.exOpen
  exact ⟨i1, c1, i2, c2, H⟩
theorem O_triremeref08_Blocks_s {w0 w : World} {l : List HP} {b : Nat} {i1 : Option Addr} {c1 : Nat} {i2 : Option Addr} {c2 : Nat} {x0 : List (List UInt8)} {x1 : List (List UInt8)}  (H : St w0 w (HP.blk b ([.slice i1 (x0).length c1, .slice i2 (x1).length c2]) 51 :: HP.ow (rBytesN 32) 25 i1 c1 (x0) :: HP.ow (rSl rByte) 26 i2 c2 (x1) :: l)) : St w0 w (O_triremeref08_Blocks b (x0, x1) :: l) := by
  unfold O_triremeref08_Blocks
  exact St.exShut (i1, c1, i2, c2) H
abbrev T_triremeref08_Blocks : Type := (List (List UInt8)) × (List (List UInt8))
abbrev R_triremeref08_Blocks : Rp T_triremeref08_Blocks := (rPair (rSl (rBytesN 32)) (rSl (rSl rByte)))
theorem mk_triremeref08_Blocks {w0 w : World} {l : List HP} (H : St w0 w l) {p0 : Option Addr} {c0 : Nat} {x0 : List (List UInt8)} {p1 : Option Addr} {c1 : Nat} {x1 : List (List UInt8)} (i0 : Nat) (h0 : l[i0]? = some (HP.sl (rBytesN 32) p0 c0 x0)) (i1 : Nat) (h1 : l[i1]? = some (HP.sl (rSl rByte) p1 c1 x1)) : St w0 w (HP.rc R_triremeref08_Blocks [.slice p0 x0.length c0, .slice p1 x1.length c1] (x0, x1) :: l) := H.mkRc (fun gg => ⟨_, _, rfl, ⟨_, _, rfl, (gg i0 _ h0).choose_spec⟩, ⟨_, _, rfl, (gg i1 _ h1).choose_spec⟩⟩)
abbrev T_tree_walker_o : Type := (List T_api_Pair)
def O_tree_walker (n0 : Nat) (b : Nat) (k0 : Option Nat) (x : T_tree_walker_o) : HP := HP.ex fun (i : (Option Addr) × Nat) => [HP.blk b ([.map k0, .slice i.1 (x).length i.2]) 102, HP.ow (rP2N n0) 48 i.1 i.2 x]
theorem O_tree_walker_o {w0 w : World} {l : List HP} {b : Nat} {k0 : Option Nat} {x : T_tree_walker_o} (H : St w0 w (O_tree_walker w0.heap.size b k0 x :: l)) : ∃ (i1 : Option Addr) (c1 : Nat), St w0 w (HP.blk b ([.map k0, .slice i1 (x).length c1]) 102 :: HP.ow (rP2N w0.heap.size) 48 i1 c1 x :: l) := by
  obtain ⟨⟨i1, c1⟩, H⟩ := H.exOpen
  exact ⟨i1, c1, H⟩
theorem O_tree_walker_s {w0 w : World} {l : List HP} {b : Nat} {k0 : Option Nat} {i1 : Option Addr} {c1 : Nat} {x1 : List T_api_Pair}  (H : St w0 w (HP.blk b ([.map k0, .slice i1 (x1).length c1]) 102 :: HP.ow (rP2N w0.heap.size) 48 i1 c1 x1 :: l)) : St w0 w (O_tree_walker w0.heap.size b k0 x1 :: l) := by
  unfold O_tree_walker
  exact St.exShut (i1, c1) H
theorem mk_api_Pair {w0 w : World} {l : List HP} (H : St w0 w l) {p0 : Option Addr} {c0 : Nat} {x0 : List UInt8} {p1 : Option Addr} {c1 : Nat} {x1 : List UInt8} (i0 : Nat) (h0 : l[i0]? = some (HP.sl rByte p0 c0 x0)) (i1 : Nat) (h1 : l[i1]? = some (HP.sl rByte p1 c1 x1)) : St w0 w (HP.rc R_api_Pair [.slice p0 x0.length c0, .slice p1 x1.length c1] (x0, x1) :: l) := H.mkRc (fun gg => ⟨_, _, rfl, ⟨_, _, rfl, (gg i0 _ h0).choose_spec⟩, ⟨_, _, rfl, (gg i1 _ h1).choose_spec⟩⟩)
abbrev T_triremelaw08_Query : Type := (List UInt8) × Int
abbrev R_triremelaw08_Query : Rp T_triremelaw08_Query := (rPair (rSl rByte) (rInt .i64))
theorem rc_triremelaw08_Query {w0 w : World} {l : List HP} {cs : List Value} {x : T_triremelaw08_Query} (H : St w0 w (HP.rc R_triremelaw08_Query cs x :: l)) : ∃ (p2 : Option Addr) (c2 : Nat), cs = [.slice p2 (x.1).length c2, .int .i64 (x.2)] ∧ St w0 w (HP.sl rByte p2 c2 x.1 :: l) := by
 obtain ⟨u1, v1, rfl, H⟩ := H.rcPair 0 rfl
 replace H := H.dp 2 rfl
 obtain ⟨p2, c2, rfl, H⟩ := H.rcSl 0 rfl
 replace H := H.dp 1 rfl
 obtain rfl := H.rcI 1 rfl
 replace H := H.dp 1 rfl
 exact ⟨p2, c2, rfl, H⟩
theorem rc_triremeref08_Blocks {w0 w : World} {l : List HP} {cs : List Value} {x : T_triremeref08_Blocks} (H : St w0 w (HP.rc R_triremeref08_Blocks cs x :: l)) : ∃ (p2 : Option Addr) (c2 : Nat) (p3 : Option Addr) (c3 : Nat), cs = [.slice p2 (x.1).length c2, .slice p3 (x.2).length c3] ∧ St w0 w (HP.sl (rBytesN 32) p2 c2 x.1 :: HP.sl (rSl rByte) p3 c3 x.2 :: l) := by
 obtain ⟨u1, v1, rfl, H⟩ := H.rcPair 0 rfl
 replace H := H.dp 2 rfl
 obtain ⟨p2, c2, rfl, H⟩ := H.rcSl 0 rfl
 replace H := H.dp 1 rfl
 obtain ⟨p3, c3, rfl, H⟩ := H.rcSl 1 rfl
 replace H := H.dp 2 rfl
 exact ⟨p2, c2, p3, c3, rfl, (H.pm 2 [1, 0] rfl:)⟩
noncomputable def rotL32 (x : Int) (k : Int) : Option Int :=
(shlO .u32 x (andI .u64 (IntKind.u64.wrap (k)) 31)).bind fun x1 =>
(shrO .u32 x (IntKind.u64.wrap (32 - (andI .u64 (IntKind.u64.wrap (k)) 31)))).bind fun x2 =>
some (orI .u32 x1 x2)
noncomputable def turn (x : Int) (a_ : Int) (b_ : Int) (c_ : Int) (sh : Bool) : Option Int :=
(rotL32 x (IntKind.i64.wrap (0 - c_))).bind fun x1 =>
Option.bind (α := (Int)) (if sh = true then ((shrO .u32 x c_).bind fun x6 =>
some x6)
 else (some x1)) fun r4 => (rotL32 x (IntKind.i64.wrap (0 - a_))).bind fun x7 =>
(rotL32 x (IntKind.i64.wrap (0 - b_))).bind fun x8 =>
some (xorI .u32 (xorI .u32 x7 x8) r4)
noncomputable def shaNew  : Option T_sha_Hasher_o :=
some (shaStart, ([] : List UInt8), 0)
noncomputable def rotr (x : Int) (n : Int) : Option Int :=
(shrO .u32 x (IntKind.u64.wrap (n))).bind fun x1 =>
(shlO .u32 x (IntKind.u64.wrap (IntKind.i64.wrap (32 - n)))).bind fun x2 =>
some (orI .u32 x1 x2)
noncomputable def rPad (b : List UInt8) : Option (List UInt8) :=
(appO ([] : List UInt8) b).bind fun x5 =>
(u8O 128).bind fun x7 =>
(appO x5 ([x7])).bind fun x9 =>
Option.bind (α := ((List UInt8))) (loopO (fun (s48 : (List UInt8)) => (remO ((s48).length : Int) 64).bind fun x50 =>
if x50 = 56 then (some (.inr s48))
 else ((u8O 0).bind fun x53 =>
(appO s48 ([x53])).bind fun x55 =>
some (.inl x55))) x9) fun r32 => Option.bind (α := ((List UInt8))) (loopO (fun (s94 : (List UInt8) × Int) => if 0 ≤ s94.2 then ((shrO .u64 (IntKind.u64.wrap ((IntKind.u64.wrap (((b).length : Int))) * 8)) (IntKind.u64.wrap (IntKind.i64.wrap (8 * s94.2)))).bind fun x97 =>
(u8O (IntKind.u8.wrap (x97))).bind fun x99 =>
(appO s94.1 ([x99])).bind fun x101 =>
some (.inl (x101, IntKind.i64.wrap (s94.2 - 1))))
 else (some (.inr s94.1))) (r32, 7)) fun r78 => some r78
noncomputable def rConst  : Option (List Int) :=
some ([1116352408, 1899447441, 3049323471, 3921009573, 961987163, 1508970993, 2453635748, 2870763221, 3624381080, 310598401, 607225278, 1426881987, 1925078388, 2162078206, 2614888103, 3248222580, 3835390401, 4022224774, 264347078, 604807628, 770255983, 1249150122, 1555081692, 1996064986, 2554220882, 2821834349, 2952996808, 3210313671, 3336571891, 3584528711, 113926993, 338241895, 666307205, 773529912, 1294757372, 1396182291, 1695183700, 1986661051, 2177026350, 2456956037, 2730485921, 2820302411, 3259730800, 3345764771, 3516065817, 3600352804, 4094571909, 275423344, 430227734, 506948616, 659060556, 883997877, 958139571, 1322822218, 1537002063, 1747873779, 1955562222, 2024104815, 2227730452, 2361852424, 2428436474, 2756734187, 3204031479, 3329325298] : List Int)
noncomputable def rSum (b : List UInt8) : Option (List UInt8) :=
(rConst).bind fun x4 =>
(rPad b).bind fun x8 =>
Option.bind (α := ((List Int))) (loopO (fun (s2253 : (List Int) × Int) => if s2253.2 < ((x8).length : Int) then (Option.bind (α := ((List Int))) (loopO (fun (s2500 : (List Int) × Int) => if s2500.2 < 64 then (Option.bind (α := ((List Int))) (if s2500.2 < 16 then ((idxO x8 (IntKind.i64.wrap (s2253.2 + (IntKind.i64.wrap (4 * s2500.2))))).bind fun x2528 =>
(idxO x8 (IntKind.i64.wrap ((IntKind.i64.wrap (s2253.2 + (IntKind.i64.wrap (4 * s2500.2)))) + 1))).bind fun x2531 =>
(idxO x8 (IntKind.i64.wrap ((IntKind.i64.wrap (s2253.2 + (IntKind.i64.wrap (4 * s2500.2)))) + 2))).bind fun x2533 =>
(idxO x8 (IntKind.i64.wrap ((IntKind.i64.wrap (s2253.2 + (IntKind.i64.wrap (4 * s2500.2)))) + 3))).bind fun x2535 =>
(idxO s2500.1 s2500.2).bind fun x2537 =>
some ((s2500.1).set (s2500.2 : Int).toNat (orI .u32 (orI .u32 (orI .u32 (shlI .u32 (IntKind.u32.wrap (((x2528).toNat : Int))) 24) (shlI .u32 (IntKind.u32.wrap (((x2531).toNat : Int))) 16)) (shlI .u32 (IntKind.u32.wrap (((x2533).toNat : Int))) 8)) (IntKind.u32.wrap (((x2535).toNat : Int))))))
 else ((idxO s2500.1 (IntKind.i64.wrap (s2500.2 - 15))).bind fun x2539 =>
(idxO s2500.1 (IntKind.i64.wrap (s2500.2 - 2))).bind fun x2540 =>
(rotr x2539 7).bind fun x2541 =>
(rotr x2539 18).bind fun x2542 =>
(rotr x2540 17).bind fun x2543 =>
(rotr x2540 19).bind fun x2544 =>
(idxO s2500.1 (IntKind.i64.wrap (s2500.2 - 16))).bind fun x2545 =>
(idxO s2500.1 (IntKind.i64.wrap (s2500.2 - 7))).bind fun x2546 =>
(idxO s2500.1 s2500.2).bind fun x2547 =>
some ((s2500.1).set (s2500.2 : Int).toNat (IntKind.u32.wrap ((IntKind.u32.wrap ((IntKind.u32.wrap (x2545 + (xorI .u32 (xorI .u32 x2541 x2542) (shrI .u32 x2539 3)))) + x2546)) + (xorI .u32 (xorI .u32 x2543 x2544) (shrI .u32 x2540 10))))))) fun r2525 => some (.inl (r2525, IntKind.i64.wrap (s2500.2 + 1))))
 else (some (.inr s2500.1))) (([0, 0, 0, 0, 0, 0, 0, 0, 0, 0, 0, 0, 0, 0, 0, 0, 0, 0, 0, 0, 0, 0, 0, 0, 0, 0, 0, 0, 0, 0, 0, 0, 0, 0, 0, 0, 0, 0, 0, 0, 0, 0, 0, 0, 0, 0, 0, 0, 0, 0, 0, 0, 0, 0, 0, 0, 0, 0, 0, 0, 0, 0, 0, 0] : List Int), 0)) fun r2402 => Option.bind (α := ((List Int))) (loopO (fun (s2643 : (List Int) × Int) => if s2643.2 < 64 then ((idxO s2643.1 0).bind fun x2646 =>
(idxO s2643.1 1).bind fun x2647 =>
(idxO s2643.1 2).bind fun x2648 =>
(idxO s2643.1 4).bind fun x2649 =>
(idxO s2643.1 5).bind fun x2650 =>
(idxO s2643.1 6).bind fun x2651 =>
(rotr x2649 6).bind fun x2652 =>
(rotr x2649 11).bind fun x2653 =>
(rotr x2649 25).bind fun x2654 =>
(idxO s2643.1 7).bind fun x2655 =>
(idxO x4 s2643.2).bind fun x2656 =>
(idxO r2402 s2643.2).bind fun x2657 =>
(rotr x2646 2).bind fun x2658 =>
(rotr x2646 13).bind fun x2659 =>
(rotr x2646 22).bind fun x2660 =>
(idxO s2643.1 3).bind fun x2661 =>
some (.inl (([IntKind.u32.wrap ((IntKind.u32.wrap ((IntKind.u32.wrap ((IntKind.u32.wrap ((IntKind.u32.wrap ((IntKind.u32.wrap (x2655 + (xorI .u32 (xorI .u32 x2652 x2653) x2654))) + (xorI .u32 (andI .u32 x2649 x2650) (andI .u32 (xorI .u32 4294967295 x2649) x2651)))) + x2656)) + x2657)) + (xorI .u32 (xorI .u32 x2658 x2659) x2660))) + (xorI .u32 (xorI .u32 (andI .u32 x2646 x2647) (andI .u32 x2646 x2648)) (andI .u32 x2647 x2648))), x2646, x2647, x2648, IntKind.u32.wrap (x2661 + (IntKind.u32.wrap ((IntKind.u32.wrap ((IntKind.u32.wrap ((IntKind.u32.wrap (x2655 + (xorI .u32 (xorI .u32 x2652 x2653) x2654))) + (xorI .u32 (andI .u32 x2649 x2650) (andI .u32 (xorI .u32 4294967295 x2649) x2651)))) + x2656)) + x2657))), x2649, x2650, x2651] : List Int), IntKind.i64.wrap (s2643.2 + 1))))
 else (some (.inr s2643.1))) (s2253.1, 0)) fun r2605 => Option.bind (α := ((List Int))) (loopO (fun (s2695 : (List Int) × Int) => if s2695.2 < 8 then ((idxO s2695.1 s2695.2).bind fun x2698 =>
(idxO r2605 s2695.2).bind fun x2699 =>
(idxO s2695.1 s2695.2).bind fun x2700 =>
some (.inl ((s2695.1).set (s2695.2 : Int).toNat (IntKind.u32.wrap (x2698 + x2699)), IntKind.i64.wrap (s2695.2 + 1))))
 else (some (.inr s2695.1))) (s2253.1, 0)) fun r2681 => some (.inl (r2681, IntKind.i64.wrap (s2253.2 + 64))))
 else (some (.inr s2253.1))) (([1779033703, 3144134277, 1013904242, 2773480762, 1359893119, 2600822924, 528734635, 1541459225] : List Int), 0)) fun r1355 => Option.bind (α := ((List UInt8))) (loopO (fun (s2751 : (List UInt8) × Int) => if s2751.2 < 32 then ((quoO .i64 s2751.2 4).bind fun x2754 =>
(idxO r1355 x2754).bind fun x2755 =>
(remO s2751.2 4).bind fun x2756 =>
(shrO .u32 x2755 (IntKind.u64.wrap (IntKind.i64.wrap (24 - (IntKind.i64.wrap (8 * x2756)))))).bind fun x2757 =>
(idxO s2751.1 s2751.2).bind fun x2758 =>
(u8O (IntKind.u8.wrap (x2757))).bind fun x2760 =>
some (.inl ((s2751.1).set (s2751.2 : Int).toNat x2760, IntKind.i64.wrap (s2751.2 + 1))))
 else (some (.inr s2751.1))) (((List.replicate 32 0) : List UInt8), 0)) fun r2731 => some r2731
noncomputable def mix (state : List Int) (p : List UInt8) : Option (List Int) :=
Option.bind (α := ((List Int))) (loopO (fun (s651 : (List Int) × Int) => if s651.2 < 64 then (Option.bind (α := ((List Int))) (if s651.2 < 16 then ((slcO p (IntKind.i64.wrap (4 * s651.2)) (IntKind.i64.wrap (4 * (IntKind.i64.wrap (s651.2 + 1))))).bind fun x719 =>
Option.bind (α := ((List Int))) (loopO (fun (s763 : (List Int) × Int) => if s763.2 < ((x719).length : Int) then ((idxO x719 s763.2).bind fun x766 =>
(idxO s763.1 s651.2).bind fun x769 =>
(idxO s763.1 s651.2).bind fun x770 =>
some (.inl ((s763.1).set (s651.2 : Int).toNat (orI .u32 (shlI .u32 x769 8) (IntKind.u32.wrap (((x766).toNat : Int)))), IntKind.i64.wrap (s763.2 + 1))))
 else (some (.inr s763.1))) (s651.1, 0)) fun r745 => some r745)
 else ((idxO s651.1 (IntKind.i64.wrap (s651.2 - 2))).bind fun x772 =>
(idxO s651.1 (IntKind.i64.wrap (s651.2 - 7))).bind fun x773 =>
(idxO s651.1 (IntKind.i64.wrap (s651.2 - 15))).bind fun x774 =>
(idxO s651.1 (IntKind.i64.wrap (s651.2 - 16))).bind fun x775 =>
(turn x772 17 19 10 true).bind fun x776 =>
(turn x774 7 18 3 true).bind fun x777 =>
(idxO s651.1 s651.2).bind fun x778 =>
some ((s651.1).set (s651.2 : Int).toNat (IntKind.u32.wrap ((IntKind.u32.wrap ((IntKind.u32.wrap (x776 + x773)) + x777)) + x775))))) fun r716 => some (.inl (r716, IntKind.i64.wrap (s651.2 + 1))))
 else (some (.inr s651.1))) ((List.replicate 64 0), 0)) fun r393 => Option.bind (α := ((List Int))) (loopO (fun (s899 : (List Int) × Int) => if s899.2 < 64 then ((idxO shaRounds s899.2).bind fun x902 =>
(idxO s899.1 0).bind fun x903 =>
(idxO s899.1 4).bind fun x904 =>
(idxO s899.1 5).bind fun x905 =>
(idxO s899.1 6).bind fun x906 =>
(idxO s899.1 1).bind fun x907 =>
(idxO s899.1 2).bind fun x908 =>
(idxO s899.1 1).bind fun x909 =>
(idxO s899.1 2).bind fun x910 =>
(idxO s899.1 7).bind fun x911 =>
(turn x904 6 11 25 false).bind fun x912 =>
(idxO r393 s899.2).bind fun x913 =>
(slcO s899.1 1 ((s899.1).length : Int)).bind fun x914 =>
(slcO s899.1 0 7).bind fun x915 =>
(idxO (putAt s899.1 (1 : Int).toNat ((x915).take (x914).length)) 4).bind fun x917 =>
(idxO (putAt s899.1 (1 : Int).toNat ((x915).take (x914).length)) 4).bind fun x918 =>
(turn x903 2 13 22 false).bind fun x920 =>
(idxO ((putAt s899.1 (1 : Int).toNat ((x915).take (x914).length)).set (4 : Int).toNat (IntKind.u32.wrap (x917 + (IntKind.u32.wrap ((IntKind.u32.wrap ((IntKind.u32.wrap ((IntKind.u32.wrap (x911 + x912)) + (xorI .u32 (andI .u32 x904 x905) (andI .u32 (notI .u32 x904) x906)))) + x902)) + x913))))) 0).bind fun x921 =>
some (.inl (((putAt s899.1 (1 : Int).toNat ((x915).take (x914).length)).set (4 : Int).toNat (IntKind.u32.wrap (x917 + (IntKind.u32.wrap ((IntKind.u32.wrap ((IntKind.u32.wrap ((IntKind.u32.wrap (x911 + x912)) + (xorI .u32 (andI .u32 x904 x905) (andI .u32 (notI .u32 x904) x906)))) + x902)) + x913))))).set (0 : Int).toNat (IntKind.u32.wrap ((IntKind.u32.wrap ((IntKind.u32.wrap ((IntKind.u32.wrap ((IntKind.u32.wrap ((IntKind.u32.wrap (x911 + x912)) + (xorI .u32 (andI .u32 x904 x905) (andI .u32 (notI .u32 x904) x906)))) + x902)) + x913)) + x920)) + (xorI .u32 (xorI .u32 (andI .u32 x903 x907) (andI .u32 x903 x908)) (andI .u32 x909 x910)))), IntKind.i64.wrap (s899.2 + 1))))
 else (some (.inr s899.1))) (state, 0)) fun r851 => Option.bind (α := ((List Int))) (loopO (fun (s956 : (List Int) × Int) => if s956.2 < 8 then ((idxO state s956.2).bind fun x959 =>
(idxO s956.1 s956.2).bind fun x960 =>
(idxO s956.1 s956.2).bind fun x961 =>
some (.inl ((s956.1).set (s956.2 : Int).toNat (IntKind.u32.wrap (x960 + x959)), IntKind.i64.wrap (s956.2 + 1))))
 else (some (.inr s956.1))) (r851, 0)) fun r942 => some r942
noncomputable def shaAdd (h : T_sha_Hasher_o) (b : List UInt8) : Option T_sha_Hasher_o :=
(appO h.2.1 b).bind fun x6 =>
Option.bind (α := (((List Int) × (List UInt8)))) (loopO (fun (s118 : ((List Int) × (List UInt8))) => if 64 ≤ ((s118.2).length : Int) then ((slcO s118.2 0 64).bind fun x123 =>
(arrO 64 x123).bind fun x125 =>
(mix s118.1 x123).bind fun x126 =>
(slcO s118.2 64 ((s118.2).length : Int)).bind fun x129 =>
some (.inl (x126, x129)))
 else (some (.inr (s118.1, s118.2)))) ((h.1, x6, IntKind.u64.wrap (h.2.2 + (IntKind.u64.wrap (((b).length : Int))))).1, ((h.1, x6, IntKind.u64.wrap (h.2.2 + (IntKind.u64.wrap (((b).length : Int))))).2).1)) fun r93 => some (r93.1, r93.2, ((h.1, x6, IntKind.u64.wrap (h.2.2 + (IntKind.u64.wrap (((b).length : Int))))).2).2)
noncomputable def shaHSum (h : T_sha_Hasher_o) : Option ((List UInt8) × T_sha_Hasher_o) :=
Option.bind (α := ((List UInt8))) ((appO ([] : List UInt8) h.2.1).bind fun x26 =>
some x26) fun r17 => (u8O 128).bind fun x36 =>
Option.bind (α := ((List UInt8))) (loopO (fun (s90 : (List UInt8)) => (remO (IntKind.i64.wrap ((IntKind.i64.wrap (((h.2.1).length : Int) + ((s90).length : Int))) + 8)) 64).bind fun x95 =>
if x95 = 0 then (some (.inr s90))
 else ((u8O 0).bind fun x98 =>
(appO s90 ([x98])).bind fun x100 =>
some (.inl x100))) ([x36])) fun r68 => Option.bind (α := ((List UInt8))) (loopO (fun (s142 : (List UInt8) × Int) => if 0 ≤ s142.2 then ((shrO .u64 (IntKind.u64.wrap (h.2.2 * 8)) (IntKind.i64.wrap (8 * s142.2))).bind fun x145 =>
(u8O (IntKind.u8.wrap (x145))).bind fun x147 =>
(appO s142.1 ([x147])).bind fun x149 =>
some (.inl (x149, IntKind.i64.wrap (s142.2 - 1))))
 else (some (.inr s142.1))) (r68, 7)) fun r126 => (shaAdd (h.1, r17, 0) r126).bind fun x150 =>
Option.bind (α := ((List UInt8))) (loopO (fun (s372 : (List UInt8) × Int) => if s372.2 < 8 then ((idxO x150.1 s372.2).bind fun x375 =>
Option.bind (α := ((List UInt8))) (loopO (fun (s409 : (List UInt8) × Int) => if s409.2 < 4 then ((shrO .u32 x375 (IntKind.i64.wrap (8 * (IntKind.i64.wrap (3 - s409.2))))).bind fun x412 =>
(idxO s409.1 (IntKind.i64.wrap ((IntKind.i64.wrap (4 * s372.2)) + s409.2))).bind fun x413 =>
(u8O (IntKind.u8.wrap (x412))).bind fun x415 =>
some (.inl ((s409.1).set (IntKind.i64.wrap ((IntKind.i64.wrap (4 * s372.2)) + s409.2) : Int).toNat x415, IntKind.i64.wrap (s409.2 + 1))))
 else (some (.inr s409.1))) (s372.1, 0)) fun r395 => some (.inl (r395, IntKind.i64.wrap (s372.2 + 1))))
 else (some (.inr s372.1))) ((List.replicate 32 0), 0)) fun r284 => some (r284, h)
noncomputable def shaSum (b : List UInt8) : Option (List UInt8) :=
(shaNew).bind fun x4 =>
(shaAdd x4 b).bind fun x6 =>
(shaHSum x6).bind fun x7 =>
some x7.1
noncomputable def cloneB (s : List UInt8) : Option (List UInt8) :=
(appO ([] : List UInt8) s).bind fun x5 =>
some x5
noncomputable def penRaw (p : T_pack_Pen_o) (b : List UInt8) : Option T_pack_Pen_o :=
(appO p b).bind fun x5 =>
some x5
noncomputable def penUint (p : T_pack_Pen_o) (n : Int) (size : Int) : Option (Int × T_pack_Pen_o) :=
if size < 1 then (some (1, p))
 else (if 8 < size then (some (1, p))
 else (if size < 8 then ((shrO .u64 n (IntKind.i64.wrap (8 * size))).bind fun x4 =>
if 0 < x4 then (some (1, p))
 else (Option.bind (α := (T_pack_Pen_o)) (loopO (fun (s48 : T_pack_Pen_o × Int) => if 0 ≤ s48.2 then ((shrO .u64 n (IntKind.i64.wrap (8 * s48.2))).bind fun x52 =>
(u8O (IntKind.u8.wrap (x52))).bind fun x54 =>
(appO s48.1 ([x54])).bind fun x56 =>
some (.inl (x56, IntKind.i64.wrap (s48.2 - 1))))
 else (some (.inr s48.1))) (p, IntKind.i64.wrap (size - 1))) fun r31 => some (0, r31)))
 else (Option.bind (α := (T_pack_Pen_o)) (loopO (fun (s99 : T_pack_Pen_o × Int) => if 0 ≤ s99.2 then ((shrO .u64 n (IntKind.i64.wrap (8 * s99.2))).bind fun x103 =>
(u8O (IntKind.u8.wrap (x103))).bind fun x105 =>
(appO s99.1 ([x105])).bind fun x107 =>
some (.inl (x107, IntKind.i64.wrap (s99.2 - 1))))
 else (some (.inr s99.1))) (p, IntKind.i64.wrap (size - 1))) fun r82 => some (0, r82))))
noncomputable def penText (p : T_pack_Pen_o) (b : List UInt8) : Option (Int × T_pack_Pen_o) :=
(penUint p (IntKind.u64.wrap (((b).length : Int))) 2).bind fun x2 =>
if x2.1 = 0 then ((penRaw x2.2 b).bind fun x4 =>
some (0, x4))
 else (some (23, x2.2))
noncomputable def penData (p : T_pack_Pen_o) : Option ((List UInt8) × T_pack_Pen_o) :=
(cloneB p).bind fun x4 =>
some (x4, p)
noncomputable def newEye (data : List UInt8) : Option T_pack_Eye_o :=
(cloneB data).bind fun x3 =>
some x3
noncomputable def eyeRaw (e : T_pack_Eye_o) (n : Int) : Option ((List UInt8) × Int × T_pack_Eye_o) :=
if n < 0 then (some (([] : List UInt8), 1, e))
 else (if ((e).length : Int) < n then (some (([] : List UInt8), 20, e))
 else ((slcO e 0 n).bind fun x7 =>
(cloneB x7).bind fun x8 =>
(slcO e n ((e).length : Int)).bind fun x11 =>
some (x8, 0, x11)))
noncomputable def eyeUint (e : T_pack_Eye_o) (size : Int) : Option (Int × Int × T_pack_Eye_o) :=
if size < 1 then (some (0, 1, e))
 else (if 8 < size then (some (0, 1, e))
 else ((eyeRaw e size).bind fun x3 =>
Option.bind (α := (Int)) (loopO (fun (s27 : Int × Int) => if s27.2 < ((x3.1).length : Int) then ((idxO x3.1 s27.2).bind fun x29 =>
some (.inl (orI .u64 (shlI .u64 s27.1 8) (IntKind.u64.wrap (((x29).toNat : Int))), IntKind.i64.wrap (s27.2 + 1))))
 else (some (.inr s27.1))) (0, 0)) fun r18 => some (r18, x3.2.1, x3.2.2)))
noncomputable def eyeText (e : T_pack_Eye_o) : Option ((List UInt8) × Int × T_pack_Eye_o) :=
(eyeUint e 2).bind fun x4 =>
if x4.2.1 = 0 then ((eyeRaw x4.2.2 (IntKind.i64.wrap (x4.1))).bind fun x6 =>
Option.bind (α := (T_pack_Eye_o)) (if x6.2.1 = 0 then (some x6.2.2)
 else (some e)) fun r11 => some (x6.1, x6.2.1, r11))
 else (some (([] : List UInt8), x4.2.1, x4.2.2))
noncomputable def rUint (n : Int) (size : Int) : Option ((List UInt8) × Int) :=
if size < 1 then (some (([] : List UInt8), 1))
 else (if 8 < size then (some (([] : List UInt8), 1))
 else ((mkO size (0 : UInt8)).bind fun x7 =>
Option.bind (α := ((List UInt8) × Int)) (loopO (fun (s51 : (List UInt8) × Int × Int) => if s51.2.2 < size then ((remO s51.2.1 256).bind fun x54 =>
(idxO s51.1 (IntKind.i64.wrap ((IntKind.i64.wrap (size - 1)) - s51.2.2))).bind fun x55 =>
(u8O (IntKind.u8.wrap (x54))).bind fun x58 =>
(quoO .u64 s51.2.1 256).bind fun x59 =>
some (.inl ((s51.1).set (IntKind.i64.wrap ((IntKind.i64.wrap (size - 1)) - s51.2.2) : Int).toNat x58, x59, IntKind.i64.wrap (s51.2.2 + 1))))
 else (some (.inr (s51.1, s51.2.1)))) (x7, n, 0)) fun r33 => if 0 < r33.2 then (some (([] : List UInt8), 1))
 else (some (r33.1, 0))))
noncomputable def rText (b : List UInt8) : Option ((List UInt8) × Int) :=
(rUint (IntKind.u64.wrap (((b).length : Int))) 2).bind fun x3 =>
if x3.2 = 0 then ((appO x3.1 b).bind fun x8 =>
some (x8, 0))
 else (some (([] : List UInt8), 23))
noncomputable def r2Number (b : List UInt8) : Option Int :=
Option.bind (α := (Int)) (loopO (fun (s24 : Int × Int) => if s24.2 < ((b).length : Int) then ((idxO b s24.2).bind fun x26 =>
some (.inl (IntKind.u64.wrap ((IntKind.u64.wrap (s24.1 * 256)) + (IntKind.u64.wrap (((x26).toNat : Int)))), IntKind.i64.wrap (s24.2 + 1))))
 else (some (.inr s24.1))) (0, 0)) fun r15 => some r15
noncomputable def r2Raw (e : T_triremeref02_Eye_o) (n : Int) : Option ((List UInt8) × Int × T_triremeref02_Eye_o) :=
if n < 0 then (some (([] : List UInt8), 1, e))
 else (if (IntKind.i64.wrap (((e.1).length : Int) - e.2)) < n then (some (([] : List UInt8), 20, e))
 else ((slcO e.1 (IntKind.i64.wrap ((IntKind.i64.wrap (e.2 + n)) - n)) (IntKind.i64.wrap (e.2 + n))).bind fun x9 =>
(appO ([] : List UInt8) x9).bind fun x12 =>
some (x12, 0, (e.1, IntKind.i64.wrap (e.2 + n)))))
noncomputable def r2Text (e : T_triremeref02_Eye_o) : Option ((List UInt8) × Int × T_triremeref02_Eye_o) :=
if (IntKind.i64.wrap (((e.1).length : Int) - e.2)) < 2 then (some (([] : List UInt8), 20, e))
 else ((slcO e.1 e.2 (IntKind.i64.wrap (e.2 + 2))).bind fun x7 =>
(r2Number x7).bind fun x8 =>
if (IntKind.i64.wrap ((IntKind.i64.wrap (((e.1).length : Int) - e.2)) - 2)) < (IntKind.i64.wrap (x8)) then (some (([] : List UInt8), 20, e))
 else ((r2Raw (e.1, IntKind.i64.wrap (e.2 + 2)) (IntKind.i64.wrap (x8))).bind fun x11 =>
some (x11.1, x11.2.1, x11.2.2)))
noncomputable def m_node_right_1 (x0_ : T_api_Pair) : Option (List UInt8) :=
some x0_.1
noncomputable def m_node_right_2 (x0_ : T_api_Kid) : Option (List UInt8) :=
some x0_.1
noncomputable def cmpB (a : List UInt8) (b : List UInt8) : Option Int := some (Lib.compareBytes a b)
noncomputable def riseP (list : List T_api_Pair) : Option Bool :=
Option.bind (α := (Unit) ⊕ Bool) (loopO (fun (s64 : Int) => if s64 < ((list).length : Int) then ((idxO list (IntKind.i64.wrap (s64 - 1))).bind fun x66 =>
(idxO list s64).bind fun x69 =>
(m_node_right_1 x66).bind fun x71 =>
(m_node_right_1 x69).bind fun x73 =>
(cmpB x71 x73).bind fun x75 =>
if 0 ≤ x75 then (some (.inr (.inr false)))
 else (some (.inl (IntKind.i64.wrap (s64 + 1)))))
 else (some (.inr (.inl ())))) 1) fun o39 => Sum.elim (fun r39 => some true) (fun rv => some rv) o39
noncomputable def riseK (list : List T_api_Kid) : Option Bool :=
Option.bind (α := (Unit) ⊕ Bool) (loopO (fun (s64 : Int) => if s64 < ((list).length : Int) then ((idxO list (IntKind.i64.wrap (s64 - 1))).bind fun x66 =>
(idxO list s64).bind fun x69 =>
(m_node_right_2 x66).bind fun x71 =>
(m_node_right_2 x69).bind fun x73 =>
(cmpB x71 x73).bind fun x75 =>
if 0 ≤ x75 then (some (.inr (.inr false)))
 else (some (.inl (IntKind.i64.wrap (s64 + 1)))))
 else (some (.inr (.inl ())))) 1) fun o39 => Sum.elim (fun r39 => some true) (fun rv => some rv) o39
noncomputable def m_node_right (x0_ : T_api_Node) : Option Bool :=
if x0_.1 < 0 then (some false)
 else (if 16 ≤ x0_.1 then (some false)
 else (if x0_.1 = 0 then (if ((x0_.2.2).length : Int) = 0 then (if ((x0_.2.1).length : Int) ≤ 255 then ((riseP x0_.2.1).bind fun x12 =>
some x12)
 else (some false))
 else (some false))
 else (if ((x0_.2.1).length : Int) = 0 then (if 1 ≤ ((x0_.2.2).length : Int) then (if ((x0_.2.2).length : Int) ≤ 4 then ((riseK x0_.2.2).bind fun x16 =>
some x16)
 else (some false))
 else (some false))
 else (some false))))
noncomputable def ndWrite (n : T_api_Node) : Option ((List UInt8) × Int) :=
(m_node_right n).bind fun x4 =>
if (!x4) = true then (some (([] : List UInt8), 1))
 else ((u8O 84).bind fun x12 =>
(u8O (IntKind.u8.wrap (n.1))).bind fun x13 =>
(u8O (IntKind.u8.wrap (IntKind.i64.wrap (((n.2.1).length : Int) + ((n.2.2).length : Int))))).bind fun x14 =>
(penRaw ([] : List UInt8) ([x12, x13, x14])).bind fun x15 =>
Option.bind (α := (T_pack_Pen_o) ⊕ ((List UInt8) × Int)) (loopO (fun (s83 : T_pack_Pen_o × Int) => if s83.2 < ((n.2.1).length : Int) then ((idxO n.2.1 s83.2).bind fun x85 =>
(penText s83.1 x85.1).bind fun x93 =>
if x93.1 = 0 then ((penText x93.2 x85.2).bind fun x95 =>
if x95.1 = 0 then (some (.inl (x95.2, IntKind.i64.wrap (s83.2 + 1))))
 else (some (.inr (.inr (([] : List UInt8), 23)))))
 else (some (.inr (.inr (([] : List UInt8), 23)))))
 else (some (.inr (.inl s83.1)))) (x15, 0)) fun o56 => Sum.elim (fun r56 => Option.bind (α := (T_pack_Pen_o) ⊕ ((List UInt8) × Int)) (loopO (fun (s154 : T_pack_Pen_o × Int) => if s154.2 < ((n.2.2).length : Int) then ((idxO n.2.2 s154.2).bind fun x156 =>
(penText s154.1 x156.1).bind fun x163 =>
if x163.1 = 0 then ((penRaw x163.2 x156.2).bind fun x165 =>
some (.inl (x165, IntKind.i64.wrap (s154.2 + 1))))
 else (some (.inr (.inr (([] : List UInt8), 23)))))
 else (some (.inr (.inl s154.1)))) (r56, 0)) fun o131 => Sum.elim (fun r131 => (penData r131).bind fun x166 =>
if 470 < ((x166.1).length : Int) then (some (([] : List UInt8), 23))
 else (some (x166.1, 0))) (fun rv => some rv) o131) (fun rv => some rv) o56)
noncomputable def equalB (x : List UInt8) (y : List UInt8) : Option Bool :=
if ((x).length : Int) = ((y).length : Int) then (Option.bind (α := (Unit) ⊕ Bool) (loopO (fun (s46 : Int) => if s46 < ((x).length : Int) then ((idxO x s46).bind fun x48 =>
(idxO y s46).bind fun x51 =>
if ((x48).toNat : Int) = ((x51).toNat : Int) then (some (.inl (IntKind.i64.wrap (s46 + 1))))
 else (some (.inr (.inr false))))
 else (some (.inr (.inl ())))) 0) fun o29 => Sum.elim (fun r29 => some true) (fun rv => some rv) o29)
 else (some false)
noncomputable def ndRead (block : List UInt8) : Option (T_api_Node × Int) :=
(newEye block).bind fun x5 =>
(eyeUint x5 1).bind fun x7 =>
(eyeUint x7.2.2 1).bind fun x8 =>
(eyeUint x8.2.2 1).bind fun x9 =>
Option.bind (α := (((List T_api_Pair) × (List T_api_Kid)) × T_pack_Eye_o)) (loopO (fun (s195 : ((List T_api_Pair) × (List T_api_Kid)) × T_pack_Eye_o × Int) => if s195.2.2 < x9.1 then (Option.bind (α := (((List T_api_Pair) × (List T_api_Kid)) × T_pack_Eye_o)) ((eyeText s195.2.1).bind fun x217 =>
if x8.1 = 0 then ((eyeText x217.2.2).bind fun x220 =>
(appO s195.1.1 ([(x217.1, x220.1)])).bind fun x224 =>
some ((x224, s195.1.2), x220.2.2))
 else ((eyeRaw x217.2.2 32).bind fun x226 =>
(appO s195.1.2 ([(x217.1, putAt (List.replicate 32 0) 0 ((x226.1).take 32))])).bind fun x231 =>
some ((s195.1.1, x231), x226.2.2))) fun r214 => some (.inl ((r214.1.1, r214.1.2), r214.2, IntKind.u64.wrap (s195.2.2 + 1))))
 else (some (.inr ((s195.1.1, s195.1.2), s195.2.1)))) ((([] : List T_api_Pair), ([] : List T_api_Kid)), x9.2.2, 0)) fun r120 => (ndWrite (IntKind.i64.wrap (x8.1), r120.1.1, r120.1.2)).bind fun x232 =>
if x232.2 = 0 then ((equalB x232.1 block).bind fun x235 =>
if (!x235) = true then (some ((0, ([] : List T_api_Pair), ([] : List T_api_Kid)), 22))
 else (some ((IntKind.i64.wrap (x8.1), r120.1.1, r120.1.2), 0)))
 else (some ((0, ([] : List T_api_Pair), ([] : List T_api_Kid)), 22))
noncomputable def m_triremeref06_Mark (x0_ : List UInt8) (x1_ : Int) : Option Bool :=
if x1_ < 0 then (some false)
 else (if 15 < x1_ then (some false)
 else (Option.bind (α := (Int)) (loopO (fun (s31 : Int × Int) => if s31.2 < ((x0_).length : Int) then ((idxO x0_ s31.2).bind fun x33 =>
(remO (IntKind.u64.wrap ((xorI .u64 s31.1 (IntKind.u64.wrap (((x33).toNat : Int)))) * 16777619)) 4294967296).bind fun x36 =>
some (.inl (x36, IntKind.i64.wrap (s31.2 + 1))))
 else (some (.inr s31.1))) (2166136261, 0)) fun r20 => Option.bind (α := (Int)) (loopO (fun (s49 : Int × Int) => if s49.2 < x1_ then ((quoO .u64 s49.1 4).bind fun x51 =>
some (.inl (x51, IntKind.i64.wrap (s49.2 + 1))))
 else (some (.inr s49.1))) (r20, 0)) fun r44 => (remO r44 4).bind fun x52 =>
some (decide (x52 = 0))))
noncomputable def m_triremeref06_size (x0_ : T_api_Pair) : Option Int :=
some (IntKind.i64.wrap ((IntKind.i64.wrap (4 + ((x0_.1).length : Int))) + ((x0_.2).length : Int)))
noncomputable def m_triremeref06_Leaves (x0_ : List T_api_Pair) : Option (List Int) :=
Option.bind (α := ((List Int))) (loopO (fun (s567 : (List Int) × Int) => if s567.2 < ((x0_).length : Int) then ((idxO x0_ s567.2).bind fun x570 =>
(m_triremeref06_size x570).bind fun x573 =>
Option.bind (α := (Int)) (loopO (fun (s659 : Int × Int) => if (IntKind.i64.wrap (s567.2 + s659.1)) < ((x0_).length : Int) then ((idxO x0_ (IntKind.i64.wrap ((IntKind.i64.wrap (s567.2 + s659.1)) - 1))).bind fun x661 =>
(m_triremeref06_Mark x661.1 0).bind fun x668 =>
if (!x668) = true then ((idxO x0_ (IntKind.i64.wrap (s567.2 + s659.1))).bind fun x670 =>
(m_triremeref06_size x670).bind fun x672 =>
if (IntKind.i64.wrap (s659.2 + x672)) ≤ 200 then ((idxO x0_ (IntKind.i64.wrap (s567.2 + s659.1))).bind fun x674 =>
(m_triremeref06_size x674).bind fun x676 =>
some (.inl (IntKind.i64.wrap (s659.1 + 1), IntKind.i64.wrap (s659.2 + x676))))
 else (some (.inr s659.1)))
 else (some (.inr s659.1)))
 else (some (.inr s659.1))) (1, x573)) fun r625 => (appO s567.1 ([r625])).bind fun x679 =>
some (.inl (x679, IntKind.i64.wrap (s567.2 + r625))))
 else (some (.inr s567.1))) (([] : List Int), 0)) fun r341 => if ((r341).length : Int) = 0 then (some ([0]))
 else (some r341)
noncomputable def m_triremeref06_Inner (x0_ : List (List UInt8)) (x1_ : Int) : Option (List Int) :=
Option.bind (α := ((List Int))) (loopO (fun (s317 : (List Int) × Int) => if s317.2 < ((x0_).length : Int) then (Option.bind (α := (Int)) (loopO (fun (s367 : Int) => if s367 < 4 then (if (IntKind.i64.wrap (s317.2 + s367)) < ((x0_).length : Int) then (if s367 < 2 then (some (.inl (IntKind.i64.wrap (s367 + 1))))
 else ((idxO x0_ (IntKind.i64.wrap ((IntKind.i64.wrap (s317.2 + s367)) - 1))).bind fun x371 =>
(m_triremeref06_Mark x371 x1_).bind fun x375 =>
if (!x375) = true then (some (.inl (IntKind.i64.wrap (s367 + 1))))
 else (some (.inr s367))))
 else (some (.inr s367)))
 else (some (.inr s367))) 1) fun r348 => (appO s317.1 ([r348])).bind fun x379 =>
some (.inl (x379, IntKind.i64.wrap (s317.2 + r348))))
 else (some (.inr s317.1))) (([] : List Int), 0)) fun r191 => some r191
noncomputable def m_triremeref06_SamePairs (x0_ : List T_api_Pair) (x1_ : List T_api_Pair) : Option Bool :=
if ((x0_).length : Int) = ((x1_).length : Int) then (Option.bind (α := (Unit) ⊕ Bool) (loopO (fun (s151 : Int) => if s151 < ((x0_).length : Int) then ((idxO x0_ s151).bind fun x153 =>
(idxO x1_ s151).bind fun x160 =>
if x153.1 = x160.1 then ((idxO x0_ s151).bind fun x168 =>
(idxO x1_ s151).bind fun x174 =>
if x168.2 = x174.2 then (some (.inl (IntKind.i64.wrap (s151 + 1))))
 else (some (.inr (.inr false))))
 else (some (.inr (.inr false))))
 else (some (.inr (.inl ())))) 0) fun o92 => Sum.elim (fun r92 => some true) (fun rv => some rv) o92)
 else (some false)
noncomputable def m_triremeref06_Rising (x0_ : List T_api_Pair) : Option Bool :=
Option.bind (α := (Unit) ⊕ Bool) (loopO (fun (s79 : Int) => if s79 < ((x0_).length : Int) then ((idxO x0_ (IntKind.i64.wrap (s79 - 1))).bind fun x81 =>
(idxO x0_ s79).bind fun x88 =>
if (geqB x81.1 x88.1) = true then (some (.inr (.inr false)))
 else (some (.inl (IntKind.i64.wrap (s79 + 1)))))
 else (some (.inr (.inl ())))) 1) fun o48 => Sum.elim (fun r48 => some true) (fun rv => some rv) o48
noncomputable def m_shape_Mark (x0_ : List UInt8) (x1_ : Int) : Option Bool :=
if x1_ < 0 then (some false)
 else (if 16 ≤ x1_ then (some false)
 else (Option.bind (α := (Int)) (loopO (fun (s26 : Int × Int) => if s26.2 < ((x0_).length : Int) then ((idxO x0_ s26.2).bind fun x28 =>
some (.inl (IntKind.u32.wrap ((xorI .u32 s26.1 (IntKind.u32.wrap (((x28).toNat : Int)))) * 16777619), IntKind.i64.wrap (s26.2 + 1))))
 else (some (.inr s26.1))) (2166136261, 0)) fun r17 => (shrO .u32 r17 (IntKind.i64.wrap (2 * x1_))).bind fun x31 =>
some (decide ((andI .u32 x31 3) = 0))))
noncomputable def lvEnd (o : (List Int)) (c : Int) (s : Int) : Option ((List Int) × Int × Int) :=
(appO o ([c])).bind fun x5 =>
some (x5, 0, 0)
noncomputable def m_shape_Leaves (x0_ : List T_api_Pair) : Option (List Int) :=
Option.bind (α := (Int × Int × (List Int))) (loopO (fun (s439 : Int × Int × (List Int) × Int) => if s439.2.2.2 < ((x0_).length : Int) then (Option.bind (α := (Int × Int × (List Int))) ((idxO x0_ s439.2.2.2).bind fun x485 =>
if 0 < s439.2.1 then (Option.bind (α := (Int × Int × (List Int))) (if 200 < (IntKind.i64.wrap (s439.1 + (IntKind.i64.wrap ((IntKind.i64.wrap (4 + ((x485.1).length : Int))) + ((x485.2).length : Int))))) then ((lvEnd s439.2.2.1 s439.2.1 s439.1).bind fun x501 =>
some (x501.2.2, x501.2.1, x501.1))
 else (some (s439.1, s439.2.1, s439.2.2.1))) fun r498 => (m_shape_Mark x485.1 0).bind fun x504 =>
Option.bind (α := (Int × Int × (List Int))) (if x504 = true then ((lvEnd r498.2.2 (IntKind.i64.wrap (r498.2.1 + 1)) (IntKind.i64.wrap (r498.1 + (IntKind.i64.wrap ((IntKind.i64.wrap (4 + ((x485.1).length : Int))) + ((x485.2).length : Int)))))).bind fun x512 =>
some (x512.2.2, x512.2.1, x512.1))
 else (some (IntKind.i64.wrap (r498.1 + (IntKind.i64.wrap ((IntKind.i64.wrap (4 + ((x485.1).length : Int))) + ((x485.2).length : Int)))), IntKind.i64.wrap (r498.2.1 + 1), r498.2.2))) fun r509 => some (r509.1, r509.2.1, r509.2.2))
 else ((m_shape_Mark x485.1 0).bind fun x515 =>
Option.bind (α := (Int × Int × (List Int))) (if x515 = true then ((lvEnd s439.2.2.1 (IntKind.i64.wrap (s439.2.1 + 1)) (IntKind.i64.wrap (s439.1 + (IntKind.i64.wrap ((IntKind.i64.wrap (4 + ((x485.1).length : Int))) + ((x485.2).length : Int)))))).bind fun x523 =>
some (x523.2.2, x523.2.1, x523.1))
 else (some (IntKind.i64.wrap (s439.1 + (IntKind.i64.wrap ((IntKind.i64.wrap (4 + ((x485.1).length : Int))) + ((x485.2).length : Int)))), IntKind.i64.wrap (s439.2.1 + 1), s439.2.2.1))) fun r520 => some (r520.1, r520.2.1, r520.2.2))) fun r483 => some (.inl (r483.1, r483.2.1, r483.2.2, IntKind.i64.wrap (s439.2.2.2 + 1))))
 else (some (.inr (s439.1, s439.2.1, s439.2.2.1)))) (0, 0, ([] : List Int), 0)) fun r265 => if 0 < r265.2.1 then ((lvEnd r265.2.2 r265.2.1 r265.1).bind fun x527 =>
some x527.1)
 else (Option.bind (α := (Int × Int × (List Int))) (if ((r265.2.2).length : Int) = 0 then ((lvEnd r265.2.2 r265.2.1 r265.1).bind fun x537 =>
some (x537.2.2, x537.2.1, x537.1))
 else (some (r265.1, r265.2.1, r265.2.2))) fun r534 => some r534.2.2)
noncomputable def m_shape_Inner (x0_ : List (List UInt8)) (x1_ : Int) : Option (List Int) :=
Option.bind (α := ((List Int) × Int)) (loopO (fun (s226 : (List Int) × Int × Int) => if s226.2.2 < ((x0_).length : Int) then (Option.bind (α := ((List Int) × Int)) ((idxO x0_ s226.2.2).bind fun x251 =>
if (IntKind.i64.wrap (s226.2.1 + 1)) = 4 then ((appO s226.1 ([IntKind.i64.wrap (s226.2.1 + 1)])).bind fun x258 =>
some (x258, 0))
 else (if 2 ≤ (IntKind.i64.wrap (s226.2.1 + 1)) then ((m_shape_Mark x251 x1_).bind fun x260 =>
Option.bind (α := ((List Int) × Int)) (if x260 = true then ((appO s226.1 ([IntKind.i64.wrap (s226.2.1 + 1)])).bind fun x270 =>
some (x270, 0))
 else (some (s226.1, IntKind.i64.wrap (s226.2.1 + 1)))) fun r265 => some (r265.1, r265.2))
 else (some (s226.1, IntKind.i64.wrap (s226.2.1 + 1))))) fun r249 => some (.inl (r249.1, r249.2, IntKind.i64.wrap (s226.2.2 + 1))))
 else (some (.inr (s226.1, s226.2.1)))) ([], 0, 0)) fun r136 => Option.bind (α := ((List Int))) (if 0 < r136.2 then ((appO r136.1 ([r136.2])).bind fun x280 =>
some x280)
 else (some r136.1)) fun r275 => some r275
noncomputable def m_triremeref07_Right (x0_ : T_api_Node) : Option Bool :=
if x0_.1 < 0 then (some false)
 else (if 15 < x0_.1 then (some false)
 else (if x0_.1 = 0 then (if ((x0_.2.2).length : Int) = 0 then (if ((x0_.2.1).length : Int) < 256 then ((m_triremeref06_Rising x0_.2.1).bind fun x12 =>
some x12)
 else (some false))
 else (some false))
 else (if 0 < ((x0_.2.1).length : Int) then (some false)
 else (if ((x0_.2.2).length : Int) < 1 then (some false)
 else (if 4 < ((x0_.2.2).length : Int) then (some false)
 else (Option.bind (α := (Unit) ⊕ Bool) (loopO (fun (s83 : Int) => if s83 < ((x0_.2.2).length : Int) then ((idxO x0_.2.2 (IntKind.i64.wrap (s83 - 1))).bind fun x85 =>
(idxO x0_.2.2 s83).bind fun x91 =>
if (geqB x85.1 x91.1) = true then (some (.inr (.inr false)))
 else (some (.inl (IntKind.i64.wrap (s83 + 1)))))
 else (some (.inr (.inl ())))) 1) fun o56 => Sum.elim (fun r56 => some true) (fun rv => some rv) o56))))))
noncomputable def m_triremeref07_Write (x0_ : T_api_Node) : Option ((List UInt8) × Int) :=
(m_triremeref07_Right x0_).bind fun x4 =>
if (!x4) = true then (some (([] : List UInt8), 1))
 else ((u8O 84).bind fun x12 =>
(u8O (IntKind.u8.wrap (x0_.1))).bind fun x13 =>
(u8O (IntKind.u8.wrap (IntKind.i64.wrap (((x0_.2.1).length : Int) + ((x0_.2.2).length : Int))))).bind fun x14 =>
Option.bind (α := ((List UInt8)) ⊕ ((List UInt8) × Int)) (loopO (fun (s153 : (List UInt8) × Int) => if s153.2 < ((x0_.2.1).length : Int) then ((idxO x0_.2.1 s153.2).bind fun x156 =>
(rText x156.1).bind fun x163 =>
(idxO x0_.2.1 s153.2).bind fun x165 =>
(rText x165.2).bind fun x171 =>
if x163.2 = 0 then (if x171.2 = 0 then ((appO s153.1 x163.1).bind fun x177 =>
(appO x177 x171.1).bind fun x179 =>
some (.inl (x179, IntKind.i64.wrap (s153.2 + 1))))
 else (some (.inr (.inr (([] : List UInt8), 23)))))
 else (some (.inr (.inr (([] : List UInt8), 23)))))
 else (some (.inr (.inl s153.1)))) ([x12, x13, x14], 0)) fun o97 => Sum.elim (fun r97 => Option.bind (α := ((List UInt8)) ⊕ ((List UInt8) × Int)) (loopO (fun (s289 : (List UInt8) × Int) => if s289.2 < ((x0_.2.2).length : Int) then ((idxO x0_.2.2 s289.2).bind fun x292 =>
(rText x292.1).bind fun x298 =>
if x298.2 = 0 then ((idxO x0_.2.2 s289.2).bind fun x302 =>
(appO s289.1 x298.1).bind fun x308 =>
(appO x308 x302.2).bind fun x310 =>
some (.inl (x310, IntKind.i64.wrap (s289.2 + 1))))
 else (some (.inr (.inr (([] : List UInt8), 23)))))
 else (some (.inr (.inl s289.1)))) (r97, 0)) fun o245 => Sum.elim (fun r245 => if 470 < ((r245).length : Int) then (some (([] : List UInt8), 23))
 else (some (r245, 0))) (fun rv => some rv) o245) (fun rv => some rv) o97)
noncomputable def m_triremeref07_Read (x0_ : List UInt8) : Option (T_api_Node × Int) :=
if ((x0_).length : Int) < 3 then (some ((0, ([] : List T_api_Pair), ([] : List T_api_Kid)), 22))
 else (if 470 < ((x0_).length : Int) then (some ((0, ([] : List T_api_Pair), ([] : List T_api_Kid)), 22))
 else ((idxO x0_ 0).bind fun x7 =>
if ((x7).toNat : Int) = 84 then ((idxO x0_ 1).bind fun x11 =>
if 15 < ((x11).toNat : Int) then (some ((0, ([] : List T_api_Pair), ([] : List T_api_Kid)), 22))
 else ((idxO x0_ 1).bind fun x14 =>
Option.bind (α := (((List UInt8) × Int) × ((List T_api_Pair) × (List T_api_Kid))) ⊕ (T_api_Node × Int)) (loopO (fun (s806 : ((List UInt8) × Int) × ((List T_api_Pair) × (List T_api_Kid)) × Int) => (idxO x0_ 2).bind fun x810 =>
if s806.2.2 < (IntKind.i64.wrap (((x810).toNat : Int))) then (Option.bind (α := (((List UInt8) × Int) × ((List T_api_Pair) × (List T_api_Kid))) ⊕ (T_api_Node × Int)) ((r2Text (s806.1.1, s806.1.2)).bind fun x891 =>
if x891.2.1 = 0 then (if (IntKind.i64.wrap (((x14).toNat : Int))) = 0 then ((r2Text x891.2.2).bind fun x895 =>
if x895.2.1 = 0 then ((appO s806.2.1.1 ([(x891.1, x895.1)])).bind fun x900 =>
some (.inl ((x895.2.2.1, x895.2.2.2), (x900, s806.2.1.2))))
 else (some (.inr ((0, ([] : List T_api_Pair), ([] : List T_api_Kid)), 22))))
 else ((r2Raw x891.2.2 32).bind fun x903 =>
if x903.2.1 = 0 then (Option.bind (α := ((List UInt8))) (loopO (fun (s950 : (List UInt8) × Int) => if s950.2 < 32 then ((idxO x903.1 s950.2).bind fun x953 =>
(idxO s950.1 s950.2).bind fun x956 =>
(u8O ((x953).toNat : Int)).bind fun x958 =>
some (.inl ((s950.1).set (s950.2 : Int).toNat x958, IntKind.i64.wrap (s950.2 + 1))))
 else (some (.inr s950.1))) ((List.replicate 32 0), 0)) fun r932 => (appO s806.2.1.2 ([(x891.1, r932)])).bind fun x961 =>
some (.inl ((x903.2.2.1, x903.2.2.2), (s806.2.1.1, x961))))
 else (some (.inr ((0, ([] : List T_api_Pair), ([] : List T_api_Kid)), 22)))))
 else (some (.inr ((0, ([] : List T_api_Pair), ([] : List T_api_Kid)), 22)))) fun o887 => Sum.elim (fun r887 => some (.inl ((r887.1.1, r887.1.2), (r887.2.1, r887.2.2), IntKind.i64.wrap (s806.2.2 + 1)))) (fun rv => some (.inr (.inr rv))) o887)
 else (some (.inr (.inl ((s806.1.1, s806.1.2), (s806.2.1.1, s806.2.1.2)))))) ((x0_, 3), (([] : List T_api_Pair), ([] : List T_api_Kid)), 0)) fun o489 => Sum.elim (fun r489 => if r489.1.2 = ((x0_).length : Int) then ((m_triremeref07_Right (IntKind.i64.wrap (((x14).toNat : Int)), r489.2.1, r489.2.2)).bind fun x965 =>
if (!x965) = true then (some ((0, ([] : List T_api_Pair), ([] : List T_api_Kid)), 22))
 else (some ((IntKind.i64.wrap (((x14).toNat : Int)), r489.2.1, r489.2.2), 0)))
 else (some ((0, ([] : List T_api_Pair), ([] : List T_api_Kid)), 22))) (fun rv => some rv) o489))
 else (some ((0, ([] : List T_api_Pair), ([] : List T_api_Kid)), 22))))
noncomputable def rbPut (b : T_triremeref08_Blocks_o) (n : T_api_Node) : Option ((List UInt8) × Int × T_triremeref08_Blocks_o) :=
(m_triremeref07_Write n).bind fun x5 =>
if x5.2 = 0 then ((rSum x5.1).bind fun x8 =>
(appO b.1 ([x8])).bind fun x17 =>
(appO b.2 ([x5.1])).bind fun x20 =>
some (x8, 0, (x17, x20)))
 else (some (((List.replicate 32 0) : List UInt8), x5.2, b))
noncomputable def m_triremeref08_Build (x0_ : List T_api_Pair) : Option ((List UInt8) × T_triremeref08_Blocks × Int) :=
(m_triremeref06_Rising x0_).bind fun x6 =>
if (!x6) = true then (some (((List.replicate 32 0) : List UInt8), (([] : List (List UInt8)), ([] : List (List UInt8))), 1))
 else ((m_triremeref06_Leaves x0_).bind fun x10 =>
Option.bind (α := (((List (List UInt8)) × (List (List UInt8))) × (List T_api_Kid)) ⊕ ((List UInt8) × T_triremeref08_Blocks × Int)) (loopO (fun (s467 : ((List (List UInt8)) × (List (List UInt8))) × (List T_api_Kid) × Int × Int) => if s467.2.2.2 < ((x10).length : Int) then (Option.bind (α := (((List (List UInt8)) × (List (List UInt8))) × (List T_api_Kid) × Int) ⊕ ((List UInt8) × T_triremeref08_Blocks × Int)) ((idxO x10 s467.2.2.2).bind fun x518 =>
Option.bind (α := ((List UInt8))) (if 0 < x518 then ((idxO x0_ s467.2.2.1).bind fun x533 =>
some x533.1)
 else (some ([] : List UInt8))) fun r529 => (idxO x10 s467.2.2.2).bind fun x540 =>
(slcO x0_ s467.2.2.1 (IntKind.i64.wrap (s467.2.2.1 + x540))).bind fun x544 =>
(rbPut (s467.1.1, s467.1.2) (0, x544, ([] : List T_api_Kid))).bind fun x545 =>
if x545.2.1 = 0 then ((appO s467.2.1 ([(r529, x545.1)])).bind fun x551 =>
(idxO x10 s467.2.2.2).bind fun x552 =>
some (.inl ((x545.2.2.1, x545.2.2.2), x551, IntKind.i64.wrap (s467.2.2.1 + x552))))
 else (some (.inr (((List.replicate 32 0) : List UInt8), (([] : List (List UInt8)), ([] : List (List UInt8))), x545.2.1)))) fun o513 => Sum.elim (fun r513 => some (.inl ((r513.1.1, r513.1.2), r513.2.1, r513.2.2, IntKind.i64.wrap (s467.2.2.2 + 1)))) (fun rv => some (.inr (.inr rv))) o513)
 else (some (.inr (.inl ((s467.1.1, s467.1.2), s467.2.1))))) ((([] : List (List UInt8)), ([] : List (List UInt8))), ([] : List T_api_Kid), 0, 0)) fun o283 => Sum.elim (fun r283 => Option.bind (α := (((List (List UInt8)) × (List (List UInt8))) × (List T_api_Kid)) ⊕ ((List UInt8) × T_triremeref08_Blocks × Int)) (loopO (fun (s1858 : ((List (List UInt8)) × (List (List UInt8))) × (List T_api_Kid) × Int) => if 1 < ((s1858.2.1).length : Int) then (if 15 < s1858.2.2 then (some (.inr (.inr (((List.replicate 32 0) : List UInt8), (([] : List (List UInt8)), ([] : List (List UInt8))), 23))))
 else (Option.bind (α := ((List (List UInt8)))) (loopO (fun (s1924 : (List (List UInt8)) × Int) => if s1924.2 < ((s1858.2.1).length : Int) then ((idxO s1858.2.1 s1924.2).bind fun x1927 =>
(appO s1924.1 ([x1927.1])).bind fun x1935 =>
some (.inl (x1935, IntKind.i64.wrap (s1924.2 + 1))))
 else (some (.inr s1924.1))) (([] : List (List UInt8)), 0)) fun r1900 => (m_triremeref06_Inner r1900 s1858.2.2).bind fun x1936 =>
Option.bind (α := (((List (List UInt8)) × (List (List UInt8))) × (List T_api_Kid)) ⊕ ((List UInt8) × T_triremeref08_Blocks × Int)) (loopO (fun (s2088 : ((List (List UInt8)) × (List (List UInt8))) × (List T_api_Kid) × Int × (List T_api_Kid) × Int) => if s2088.2.2.2.2 < ((x1936).length : Int) then ((idxO x1936 s2088.2.2.2.2).bind fun x2094 =>
(slcO s2088.2.1 s2088.2.2.1 (IntKind.i64.wrap (s2088.2.2.1 + x2094))).bind fun x2098 =>
(rbPut (s2088.1.1, s2088.1.2) (s1858.2.2, ([] : List T_api_Pair), x2098)).bind fun x2099 =>
if x2099.2.1 = 0 then ((idxO s2088.2.1 s2088.2.2.1).bind fun x2103 =>
(appO s2088.2.2.2.1 ([(x2103.1, x2099.1)])).bind fun x2111 =>
(idxO x1936 s2088.2.2.2.2).bind fun x2112 =>
some (.inl ((x2099.2.2.1, x2099.2.2.2), s2088.2.1, IntKind.i64.wrap (s2088.2.2.1 + x2112), x2111, IntKind.i64.wrap (s2088.2.2.2.2 + 1))))
 else (some (.inr (.inr (((List.replicate 32 0) : List UInt8), (([] : List (List UInt8)), ([] : List (List UInt8))), x2099.2.1)))))
 else (some (.inr (.inl ((s2088.1.1, s2088.1.2), s2088.2.2.2.1))))) ((s1858.1.1, s1858.1.2), s1858.2.1, 0, ([] : List T_api_Kid), 0)) fun o2026 => Sum.elim (fun r2026 => some (.inl ((r2026.1.1, r2026.1.2), r2026.2, IntKind.i64.wrap (s1858.2.2 + 1)))) (fun rv => some (.inr (.inr rv))) o2026))
 else (some (.inr (.inl ((s1858.1.1, s1858.1.2), s1858.2.1))))) ((r283.1.1, r283.1.2), r283.2, 1)) fun o1336 => Sum.elim (fun r1336 => (idxO r1336.2 0).bind fun x2118 =>
some (x2118.2, (r1336.1.1, r1336.1.2), 0)) (fun rv => some rv) o1336) (fun rv => some rv) o283)
noncomputable def m_triremeref05_Less (x0_ : List UInt8) (x1_ : List UInt8) : Option Bool :=
Option.bind (α := (Unit) ⊕ Bool) (loopO (fun (s37 : Int) => if s37 < 32 then ((idxO x0_ s37).bind fun x39 =>
(idxO x1_ s37).bind fun x40 =>
if ((x39).toNat : Int) = ((x40).toNat : Int) then (some (.inl (IntKind.i64.wrap (s37 + 1))))
 else ((idxO x0_ s37).bind fun x42 =>
(idxO x1_ s37).bind fun x43 =>
some (.inr (.inr (decide (((x42).toNat : Int) < ((x43).toNat : Int)))))))
 else (some (.inr (.inl ())))) 0) fun o24 => Sum.elim (fun r24 => some false) (fun rv => some rv) o24
noncomputable def m_triremeref05_Sorted (x0_ : List (List UInt8)) : Option (List (List UInt8)) :=
Option.bind (α := ((List (List UInt8)))) (loopO (fun (s2947 : (List (List UInt8)) × Int) => if s2947.2 < ((x0_).length : Int) then (Option.bind (α := ((List (List UInt8)))) (Option.bind (α := (Int)) (loopO (fun (s3301 : Int) => if s3301 < ((s2947.1).length : Int) then ((idxO s2947.1 s3301).bind fun x3303 =>
(idxO x0_ s2947.2).bind fun x3307 =>
(m_triremeref05_Less x3303 x3307).bind fun x3311 =>
if x3311 = true then (some (.inl (IntKind.i64.wrap (s3301 + 1))))
 else (some (.inr s3301)))
 else (some (.inr s3301))) 0) fun r3278 => if r3278 < ((s2947.1).length : Int) then ((idxO s2947.1 r3278).bind fun x3314 =>
(idxO x0_ s2947.2).bind fun x3318 =>
if x3314 = x3318 then (some s2947.1)
 else ((idxO x0_ s2947.2).bind fun x3323 =>
(appO s2947.1 ([x3323])).bind fun x3328 =>
Option.bind (α := ((List (List UInt8)))) (loopO (fun (s3412 : (List (List UInt8)) × Int) => if r3278 < s3412.2 then ((idxO s3412.1 s3412.2).bind fun x3415 =>
(idxO s3412.1 (IntKind.i64.wrap (s3412.2 - 1))).bind fun x3420 =>
(idxO s3412.1 s3412.2).bind fun x3423 =>
(idxO ((s3412.1).set (s3412.2 : Int).toNat x3420) (IntKind.i64.wrap (s3412.2 - 1))).bind fun x3426 =>
some (.inl (((s3412.1).set (s3412.2 : Int).toNat x3420).set (IntKind.i64.wrap (s3412.2 - 1) : Int).toNat x3415, IntKind.i64.wrap (s3412.2 - 1))))
 else (some (.inr s3412.1))) (x3328, IntKind.i64.wrap (((x3328).length : Int) - 1))) fun r3378 => some r3378))
 else ((idxO x0_ s2947.2).bind fun x3429 =>
(appO s2947.1 ([x3429])).bind fun x3435 =>
Option.bind (α := ((List (List UInt8)))) (loopO (fun (s3519 : (List (List UInt8)) × Int) => if r3278 < s3519.2 then ((idxO s3519.1 s3519.2).bind fun x3522 =>
(idxO s3519.1 (IntKind.i64.wrap (s3519.2 - 1))).bind fun x3527 =>
(idxO s3519.1 s3519.2).bind fun x3530 =>
(idxO ((s3519.1).set (s3519.2 : Int).toNat x3527) (IntKind.i64.wrap (s3519.2 - 1))).bind fun x3533 =>
some (.inl (((s3519.1).set (s3519.2 : Int).toNat x3527).set (IntKind.i64.wrap (s3519.2 - 1) : Int).toNat x3522, IntKind.i64.wrap (s3519.2 - 1))))
 else (some (.inr s3519.1))) (x3435, IntKind.i64.wrap (((x3435).length : Int) - 1))) fun r3485 => some r3485)) fun r3242 => some (.inl (r3242, IntKind.i64.wrap (s2947.2 + 1))))
 else (some (.inr s2947.1))) (([] : List (List UInt8)), 0)) fun r1769 => some r1769
noncomputable def m_triremeref05_Same (x0_ : List (List UInt8)) (x1_ : List (List UInt8)) : Option Bool :=
if ((x0_).length : Int) = ((x1_).length : Int) then (Option.bind (α := (Unit) ⊕ Bool) (loopO (fun (s56 : Int) => if s56 < ((x0_).length : Int) then ((idxO x0_ s56).bind fun x58 =>
(idxO x1_ s56).bind fun x62 =>
if x58 = x62 then (some (.inl (IntKind.i64.wrap (s56 + 1))))
 else (some (.inr (.inr false))))
 else (some (.inr (.inl ())))) 0) fun o35 => Sum.elim (fun r35 => some true) (fun rv => some rv) o35)
 else (some false)
noncomputable def rGreatBag (bag : (List UInt8) → Option (List UInt8)) : Option Bool :=
detM bag (fun l13 => (foldO (fun (s13 : Int) (x13 : (List UInt8) × (List UInt8)) => if 30000 < ((x13.2).length : Int) then (some (.inr true))
 else (if 30000 < s13 then (some (.inr true))
 else (some (.inl (IntKind.i64.wrap (s13 + (IntKind.i64.wrap (((x13.2).length : Int) + 40)))))))) 0 l13).bind (Sum.elim (fun (s13 : Int) => some (decide (30000 < s13))) some))
noncomputable def rCopyBag (bag : (List UInt8) → Option (List UInt8)) : Option ((List UInt8) → Option (List UInt8)) :=
Option.bind (α := (((List UInt8) → Option (List UInt8)))) (detM bag (fun l42 => (foldO (fun (s42 : ((List UInt8) → Option (List UInt8))) (x42 : (List UInt8) × (List UInt8)) => (appO ([] : List UInt8) x42.2).bind fun x49 =>
some (.inl (fset x42.1 x49 s42))) (fnil : (List UInt8) → Option (List UInt8)) l42).bind (Sum.elim (fun (s42 : ((List UInt8) → Option (List UInt8))) => some s42) some))) fun r27 => some r27
noncomputable def rSameBag (a_ : (List UInt8) → Option (List UInt8)) (b_ : (List UInt8) → Option (List UInt8)) : Option Bool :=
if ((flen a_ : Nat) : Int) = ((flen b_ : Nat) : Int) then (detM a_ (fun l21 => (foldO (fun (s21 : Unit) (x21 : (List UInt8) × (List UInt8)) => if (!((b_ x21.1).isSome)) = true then (some (.inr false))
 else (if x21.2 = ((b_ x21.1).getD []) then (some (.inl ()))
 else (some (.inr false)))) () l21).bind (Sum.elim (fun (s21 : Unit) => some true) some)))
 else (some false)
noncomputable def m_triremeref08_From (x0_ : List T_api_Pair) (x1_ : List UInt8) (x2_ : Int) : Option (List T_api_Pair) :=
Option.bind (α := ((List T_api_Pair))) (loopO (fun (s248 : (List T_api_Pair) × Int) => if s248.2 < ((x0_).length : Int) then (Option.bind (α := ((List T_api_Pair))) ((idxO x0_ s248.2).bind fun x275 =>
if (geqB x275.1 x1_) = true then (Option.bind (α := ((List T_api_Pair))) (if ((s248.1).length : Int) < x2_ then ((idxO x0_ s248.2).bind fun x292 =>
(appO s248.1 ([x292])).bind fun x296 =>
some x296)
 else (some s248.1)) fun r289 => some r289)
 else (some s248.1)) fun r273 => some (.inl (r273, IntKind.i64.wrap (s248.2 + 1))))
 else (some (.inr s248.1))) (([] : List T_api_Pair), 0)) fun r150 => some r150
noncomputable def rCollectS (rec_ : ((List UInt8) → Option (List UInt8)) → (List UInt8) → Int → (List T_api_Pair) → Option ((List T_api_Pair) × Int)) (bag : (List UInt8) → Option (List UInt8)) (h : List UInt8) (level : Int) (met : List T_api_Pair) : Option ((List T_api_Pair) × Int) :=
if (!((bag h).isSome)) = true then (some (([] : List T_api_Pair), 51))
 else ((rSum ((bag h).getD [])).bind fun x10 =>
if x10 = h then ((m_triremeref07_Read ((bag h).getD [])).bind fun x14 =>
Option.bind (α := (T_api_Node × Bool)) (if x14.2 = 0 then (if 0 ≤ level then (some ((x14.1.1, x14.1.2.1, x14.1.2.2), !decide (x14.1.1 = level)))
 else (some (x14.1, false)))
 else (some (x14.1, true))) fun r23 => if r23.2 = true then (some (([] : List T_api_Pair), 22))
 else (Option.bind (α := (T_api_Node × Bool)) (if r23.1.1 = 0 then (if ((r23.1.2.1).length : Int) = 0 then (some ((r23.1.1, r23.1.2.1, r23.1.2.2), decide (0 ≤ level)))
 else (some ((r23.1.1, r23.1.2.1, r23.1.2.2), false)))
 else (some ((r23.1.1, r23.1.2.1, r23.1.2.2), false))) fun r39 => if r39.2 = true then (some (([] : List T_api_Pair), 22))
 else (if 0 < ((r39.1.2.1).length : Int) then (if 0 < ((met).length : Int) then ((idxO r39.1.2.1 0).bind fun x55 =>
(idxO met (IntKind.i64.wrap (((met).length : Int) - 1))).bind fun x62 =>
if (leqB x55.1 x62.1) = true then (some (([] : List T_api_Pair), 22))
 else ((appO ([] : List T_api_Pair) met).bind fun x73 =>
(appO x73 r39.1.2.1).bind fun x75 =>
Option.bind (α := ((List T_api_Pair)) ⊕ ((List T_api_Pair) × Int)) (loopO (fun (s139 : (List T_api_Pair) × Int) => if s139.2 < ((r39.1.2.2).length : Int) then ((idxO r39.1.2.2 s139.2).bind fun x142 =>
(rec_ bag x142.2 (IntKind.i64.wrap (r39.1.1 - 1)) s139.1).bind fun x148 =>
if x148.2 = 0 then (some (.inl (x148.1, IntKind.i64.wrap (s139.2 + 1))))
 else (some (.inr (.inr (([] : List T_api_Pair), x148.2)))))
 else (some (.inr (.inl s139.1)))) (x75, 0)) fun o113 => Sum.elim (fun r113 => some (r113, 0)) (fun rv => some rv) o113))
 else ((appO ([] : List T_api_Pair) met).bind fun x154 =>
(appO x154 r39.1.2.1).bind fun x156 =>
Option.bind (α := ((List T_api_Pair)) ⊕ ((List T_api_Pair) × Int)) (loopO (fun (s220 : (List T_api_Pair) × Int) => if s220.2 < ((r39.1.2.2).length : Int) then ((idxO r39.1.2.2 s220.2).bind fun x223 =>
(rec_ bag x223.2 (IntKind.i64.wrap (r39.1.1 - 1)) s220.1).bind fun x229 =>
if x229.2 = 0 then (some (.inl (x229.1, IntKind.i64.wrap (s220.2 + 1))))
 else (some (.inr (.inr (([] : List T_api_Pair), x229.2)))))
 else (some (.inr (.inl s220.1)))) (x156, 0)) fun o194 => Sum.elim (fun r194 => some (r194, 0)) (fun rv => some rv) o194))
 else ((appO ([] : List T_api_Pair) met).bind fun x235 =>
(appO x235 r39.1.2.1).bind fun x237 =>
Option.bind (α := ((List T_api_Pair)) ⊕ ((List T_api_Pair) × Int)) (loopO (fun (s301 : (List T_api_Pair) × Int) => if s301.2 < ((r39.1.2.2).length : Int) then ((idxO r39.1.2.2 s301.2).bind fun x304 =>
(rec_ bag x304.2 (IntKind.i64.wrap (r39.1.1 - 1)) s301.1).bind fun x310 =>
if x310.2 = 0 then (some (.inl (x310.1, IntKind.i64.wrap (s301.2 + 1))))
 else (some (.inr (.inr (([] : List T_api_Pair), x310.2)))))
 else (some (.inr (.inl s301.1)))) (x237, 0)) fun o275 => Sum.elim (fun r275 => some (r275, 0)) (fun rv => some rv) o275))))
 else (some (([] : List T_api_Pair), 51)))
noncomputable def rCollectF : Nat → ((List UInt8) → Option (List UInt8)) → (List UInt8) → Int → (List T_api_Pair) → Option ((List T_api_Pair) × Int)
  | 0, _, _, _, _ => none
  | n_ + 1, bag, h, level, met => rCollectS (rCollectF n_) bag h level met
noncomputable def rCollect (bag : (List UInt8) → Option (List UInt8)) (h : List UInt8) (level : Int) (met : List T_api_Pair) : Option ((List T_api_Pair) × Int) := rCollectF 20 bag h level met
noncomputable def rAll (bag : (List UInt8) → Option (List UInt8)) (root : List UInt8) : Option ((List T_api_Pair) × Int) :=
(rCollect bag root (-1) ([] : List T_api_Pair)).bind fun x5 =>
if x5.2 = 0 then ((m_triremeref08_Build x5.1).bind fun x9 =>
if x9.2.2 = 0 then (if x9.1 = root then (some (x5.1, 0))
 else (some (([] : List T_api_Pair), 22)))
 else (some (([] : List T_api_Pair), 22)))
 else (some (([] : List T_api_Pair), x5.2))
noncomputable def m_tree_compare (x0_ : T_api_Pair) (x1_ : T_api_Pair) : Option Int :=
(cmpB x0_.1 x1_.1).bind fun x13 =>
some x13
noncomputable def m_tree_rises (x0_ : List T_api_Pair) : Option Bool :=
Option.bind (α := (Unit) ⊕ Bool) (loopO (fun (s44 : Int) => if s44 < ((x0_).length : Int) then ((idxO x0_ (IntKind.i64.wrap (s44 - 1))).bind fun x46 =>
(idxO x0_ s44).bind fun x49 =>
(m_tree_compare x46 x49).bind fun x51 =>
if 0 ≤ x51 then (some (.inr (.inr false)))
 else (some (.inl (IntKind.i64.wrap (s44 + 1)))))
 else (some (.inr (.inl ())))) 1) fun o27 => Sum.elim (fun r27 => some true) (fun rv => some rv) o27
noncomputable def m_tree_cut_api_Pair_ (x0_ : List T_api_Pair) (x1_ : List Int) : Option (List (List T_api_Pair)) :=
Option.bind (α := ((List (List T_api_Pair)))) (loopO (fun (s72 : (List T_api_Pair) × (List (List T_api_Pair)) × Int) => if s72.2.2 < ((x1_).length : Int) then ((idxO x1_ s72.2.2).bind fun x76 =>
(slcO s72.1 0 x76).bind fun x80 =>
(appO s72.2.1 ([x80])).bind fun x83 =>
(slcO s72.1 x76 ((s72.1).length : Int)).bind fun x85 =>
some (.inl (x85, x83, IntKind.i64.wrap (s72.2.2 + 1))))
 else (some (.inr s72.2.1))) (x0_, [], 0)) fun r44 => some r44
noncomputable def m_tree_cut_api_Kid_ (x0_ : List T_api_Kid) (x1_ : List Int) : Option (List (List T_api_Kid)) :=
Option.bind (α := ((List (List T_api_Kid)))) (loopO (fun (s72 : (List T_api_Kid) × (List (List T_api_Kid)) × Int) => if s72.2.2 < ((x1_).length : Int) then ((idxO x1_ s72.2.2).bind fun x76 =>
(slcO s72.1 0 x76).bind fun x80 =>
(appO s72.2.1 ([x80])).bind fun x83 =>
(slcO s72.1 x76 ((s72.1).length : Int)).bind fun x85 =>
some (.inl (x85, x83, IntKind.i64.wrap (s72.2.2 + 1))))
 else (some (.inr s72.2.1))) (x0_, [], 0)) fun r44 => some r44
noncomputable def trPut (bag : (List UInt8) → Option (List UInt8)) (n : T_api_Node) (first : List UInt8) : Option (T_api_Kid × Int × ((List UInt8) → Option (List UInt8))) :=
(ndWrite n).bind fun x7 =>
if x7.2 = 0 then ((shaSum x7.1).bind fun x10 =>
some ((first, x10), 0, fset x10 x7.1 bag))
 else (some ((([] : List UInt8), (List.replicate 32 0)), x7.2, bag))
noncomputable def trBuild (pairs : List T_api_Pair) : Option ((List UInt8) × ((List UInt8) → Option (List UInt8)) × Int) :=
(m_tree_rises pairs).bind fun x5 =>
if (!x5) = true then (some (((List.replicate 32 0) : List UInt8), (fnil : (List UInt8) → Option (List UInt8)), 1))
 else ((m_shape_Leaves pairs).bind fun x8 =>
(m_tree_cut_api_Pair_ pairs x8).bind fun x10 =>
Option.bind (α := (((List UInt8) → Option (List UInt8)) × (List T_api_Kid)) ⊕ ((List UInt8) × ((List UInt8) → Option (List UInt8)) × Int)) (loopO (fun (s325 : ((List UInt8) → Option (List UInt8)) × (List T_api_Kid) × Int) => if s325.2.2 < ((x10).length : Int) then (Option.bind (α := (((List UInt8) → Option (List UInt8)) × (List T_api_Kid)) ⊕ ((List UInt8) × ((List UInt8) → Option (List UInt8)) × Int)) ((idxO x10 s325.2.2).bind fun x359 =>
Option.bind (α := ((List UInt8))) (if 0 < ((x359).length : Int) then ((idxO x359 0).bind fun x374 =>
some x374.1)
 else (some ([]))) fun r371 => (trPut s325.1 (0, x359, ([] : List T_api_Kid)) r371).bind fun x381 =>
if x381.2.1 = 0 then ((appO s325.2.1 ([x381.1])).bind fun x387 =>
some (.inl (x381.2.2, x387)))
 else (some (.inr (((List.replicate 32 0) : List UInt8), (fnil : (List UInt8) → Option (List UInt8)), x381.2.1)))) fun o357 => Sum.elim (fun r357 => some (.inl (r357.1, r357.2, IntKind.i64.wrap (s325.2.2 + 1)))) (fun rv => some (.inr (.inr rv))) o357)
 else (some (.inr (.inl (s325.1, s325.2.1))))) ((fnil : (List UInt8) → Option (List UInt8)), [], 0)) fun o199 => Sum.elim (fun r199 => Option.bind (α := (((List UInt8) → Option (List UInt8)) × (List T_api_Kid)) ⊕ ((List UInt8) × ((List UInt8) → Option (List UInt8)) × Int)) (loopO (fun (s1396 : ((List UInt8) → Option (List UInt8)) × (List T_api_Kid) × Int) => if 1 < ((s1396.2.1).length : Int) then (if s1396.2.2 = 16 then (some (.inr (.inr (((List.replicate 32 0) : List UInt8), (fnil : (List UInt8) → Option (List UInt8)), 23))))
 else (Option.bind (α := ((List (List UInt8)))) (loopO (fun (s1463 : (List (List UInt8)) × Int) => if s1463.2 < ((s1396.2.1).length : Int) then ((idxO s1396.2.1 s1463.2).bind fun x1466 =>
(appO s1463.1 ([x1466.1])).bind fun x1475 =>
some (.inl (x1475, IntKind.i64.wrap (s1463.2 + 1))))
 else (some (.inr s1463.1))) ([], 0)) fun r1437 => (m_shape_Inner r1437 s1396.2.2).bind fun x1476 =>
(m_tree_cut_api_Kid_ s1396.2.1 x1476).bind fun x1478 =>
Option.bind (α := (((List UInt8) → Option (List UInt8)) × (List T_api_Kid)) ⊕ ((List UInt8) × ((List UInt8) → Option (List UInt8)) × Int)) (loopO (fun (s1578 : ((List UInt8) → Option (List UInt8)) × (List T_api_Kid) × Int) => if s1578.2.2 < ((x1478).length : Int) then ((idxO x1478 s1578.2.2).bind fun x1581 =>
(idxO x1581 0).bind fun x1585 =>
(trPut s1578.1 (s1396.2.2, ([] : List T_api_Pair), x1581) x1585.1).bind fun x1591 =>
if x1591.2.1 = 0 then ((appO s1578.2.1 ([x1591.1])).bind fun x1597 =>
some (.inl (x1591.2.2, x1597, IntKind.i64.wrap (s1578.2.2 + 1))))
 else (some (.inr (.inr (((List.replicate 32 0) : List UInt8), (fnil : (List UInt8) → Option (List UInt8)), x1591.2.1)))))
 else (some (.inr (.inl (s1578.1, s1578.2.1))))) (s1396.1, [], 0)) fun o1538 => Sum.elim (fun r1538 => some (.inl (r1538.1, r1538.2, IntKind.i64.wrap (s1396.2.2 + 1)))) (fun rv => some (.inr (.inr rv))) o1538))
 else (some (.inr (.inl (s1396.1, s1396.2.1))))) (r199.1, r199.2, 1)) fun o992 => Sum.elim (fun r992 => (idxO r992.2 0).bind fun x1598 =>
some (x1598.2, r992.1, 0)) (fun rv => some rv) o992) (fun rv => some rv) o199)
noncomputable def trFollows (w_ : T_tree_walker_o) (list : List T_api_Pair) (root : Bool) : Option Bool :=
if ((list).length : Int) = 0 then (some root)
 else (if ((w_).length : Int) = 0 then (some true)
 else ((idxO w_ (IntKind.i64.wrap (((w_).length : Int) - 1))).bind fun x6 =>
(idxO list 0).bind fun x9 =>
(m_tree_compare x6 x9).bind fun x12 =>
some (decide (x12 < 0))))
noncomputable def trWalkS (rec_ : (((List UInt8) → Option (List UInt8)) × (List T_api_Pair)) → (List UInt8) → Int → Option (Int × T_tree_walker_o)) (w_ : ((List UInt8) → Option (List UInt8)) × (List T_api_Pair)) (h : List UInt8) (level : Int) : Option (Int × T_tree_walker_o) :=
if (!((w_.1 h).isSome)) = true then (some (51, w_.2))
 else ((shaSum ((w_.1 h).getD [])).bind fun x8 =>
if x8 = h then ((ndRead ((w_.1 h).getD [])).bind fun x11 =>
Option.bind (α := ((List T_api_Pair) × Bool)) (if x11.2 = 0 then (if 0 ≤ level then (if x11.1.1 = level then (if x11.1.1 = 0 then ((trFollows w_.2 x11.1.2.1 (decide (level < 0))).bind fun x28 =>
some (x11.1.2.1, !x28))
 else (some (x11.1.2.1, false)))
 else (some (x11.1.2.1, true)))
 else (if x11.1.1 = 0 then ((trFollows w_.2 x11.1.2.1 (decide (level < 0))).bind fun x30 =>
some (x11.1.2.1, !x30))
 else (some (x11.1.2.1, false))))
 else (some (x11.1.2.1, true))) fun r22 => if r22.2 = true then (some (22, w_.2))
 else ((appO w_.2 r22.1).bind fun x35 =>
Option.bind (α := (T_tree_walker_o) ⊕ (Int × T_tree_walker_o)) (loopO (fun (s88 : T_tree_walker_o × Int) => if s88.2 < ((x11.1.2.2).length : Int) then ((idxO x11.1.2.2 s88.2).bind fun x90 =>
(rec_ (w_.1, s88.1) x90.2 (IntKind.i64.wrap (x11.1.1 - 1))).bind fun x97 =>
if x97.1 = 0 then (some (.inl (x97.2, IntKind.i64.wrap (s88.2 + 1))))
 else (some (.inr (.inr (x97.1, x97.2)))))
 else (some (.inr (.inl s88.1)))) (x35, 0)) fun o67 => Sum.elim (fun r67 => some (0, r67)) (fun rv => some rv) o67))
 else (some (51, w_.2)))
noncomputable def trWalkF : Nat → (((List UInt8) → Option (List UInt8)) × (List T_api_Pair)) → (List UInt8) → Int → Option (Int × T_tree_walker_o)
  | 0, _, _, _ => none
  | n_ + 1, w_, h, level => trWalkS (trWalkF n_) w_ h level
noncomputable def trWalk (w_ : ((List UInt8) → Option (List UInt8)) × (List T_api_Pair)) (h : List UInt8) (level : Int) : Option (Int × T_tree_walker_o) := trWalkF 20 w_ h level
noncomputable def trWhole (bag : (List UInt8) → Option (List UInt8)) (root : List UInt8) : Option ((List T_api_Pair) × ((List UInt8) → Option (List UInt8)) × Int) :=
(trWalk (bag, ([] : List T_api_Pair)) root (-1)).bind fun x7 =>
if x7.1 = 0 then ((trBuild x7.2).bind fun x11 =>
if x11.2.2 = 0 then (if x11.1 = root then (some (x7.2, x11.2.1, 0))
 else (some (([] : List T_api_Pair), (fnil : (List UInt8) → Option (List UInt8)), 22)))
 else (some (([] : List T_api_Pair), (fnil : (List UInt8) → Option (List UInt8)), 22)))
 else (some (([] : List T_api_Pair), (fnil : (List UInt8) → Option (List UInt8)), x7.1))
noncomputable def trAll (bag : (List UInt8) → Option (List UInt8)) (root : List UInt8) : Option ((List T_api_Pair) × Int) :=
(trWhole bag root).bind fun x5 =>
some (x5.1, x5.2.2)
noncomputable def bsPair (xs : List T_api_Pair) (t_ : T_api_Pair) : Option (Int × Bool) :=
Option.bind (α := (Int)) (loopO (fun (s86 : Int × Int) => if s86.1 < s86.2 then (Option.bind (α := (Int × Int)) ((idxO xs (IntKind.i64.wrap (shrI .u64 (IntKind.u64.wrap (IntKind.i64.wrap (s86.1 + s86.2))) 1))).bind fun x96 =>
(m_tree_compare x96 t_).bind fun x99 =>
Option.bind (α := (Int × Int)) (if x99 < 0 then (some (IntKind.i64.wrap ((IntKind.i64.wrap (shrI .u64 (IntKind.u64.wrap (IntKind.i64.wrap (s86.1 + s86.2))) 1)) + 1), s86.2))
 else (some (s86.1, IntKind.i64.wrap (shrI .u64 (IntKind.u64.wrap (IntKind.i64.wrap (s86.1 + s86.2))) 1)))) fun r101 => some (r101.1, r101.2)) fun r95 => some (.inl (r95.1, r95.2)))
 else (some (.inr s86.1))) (0, ((xs).length : Int))) fun r53 => if r53 < ((xs).length : Int) then ((idxO xs r53).bind fun x104 =>
(m_tree_compare x104 t_).bind fun x107 =>
some (r53, decide (x107 = 0)))
 else (some (r53, false))
noncomputable def trGet (bag : (List UInt8) → Option (List UInt8)) (root : List UInt8) (key : List UInt8) : Option ((List UInt8) × Bool × Int) :=
(trAll bag root).bind fun x6 =>
(bsPair x6.1 (key, ([] : List UInt8))).bind fun x8 =>
if (!x8.2) = true then (some (([] : List UInt8), false, x6.2))
 else ((idxO x6.1 x8.1).bind fun x10 =>
some (x10.2, true, x6.2))
noncomputable def cloneP (s : List T_api_Pair) : Option (List T_api_Pair) :=
(appO ([] : List T_api_Pair) s).bind fun x5 =>
some x5
noncomputable def trRange (bag : (List UInt8) → Option (List UInt8)) (root : List UInt8) (frm : List UInt8) (most : Int) : Option ((List T_api_Pair) × Int) :=
(trAll bag root).bind fun x6 =>
(bsPair x6.1 (frm, ([] : List UInt8))).bind fun x8 =>
(slcO x6.1 x8.1 ((x6.1).length : Int)).bind fun x10 =>
(slcO x10 0 (max 0 (min most ((x10).length : Int)))).bind fun x12 =>
(cloneP x12).bind fun x13 =>
some (x13, x6.2)
noncomputable def trHashes (bag : (List UInt8) → Option (List UInt8)) (root : List UInt8) : Option ((List (List UInt8)) × Int) :=
(trWhole bag root).bind fun x5 =>
(sortKeysO x5.2.1).bind fun x10 =>
some (x10, x5.2.2)
noncomputable def lSpeaks  : Option Bool :=
(trBuild ([] : List T_api_Pair)).bind fun x1 =>
if x1.2.2 = 0 then (if ((flen x1.2.1 : Nat) : Int) = 1 then (if ((x1.2.1 x1.1).getD []) = ([84, 0, 0]) then ((u8O 84).bind fun x12 =>
(u8O 0).bind fun x13 =>
(u8O 0).bind fun x14 =>
(rSum ([x12, x13, x14])).bind fun x15 =>
some (decide (x1.1 = x15)))
 else (some false))
 else (some false))
 else (some false)
noncomputable def lReads (bag : (List UInt8) → Option (List UInt8)) (root : List UInt8) (q : T_triremelaw08_Query) : Option Bool :=
(lSpeaks).bind fun x6 =>
if (!x6) = true then (some false)
 else ((rGreatBag bag).bind fun x8 =>
if x8 = true then (some true)
 else (if 300 < ((q.1).length : Int) then (some true)
 else ((rCopyBag bag).bind fun x13 =>
(trAll x13 root).bind fun x15 =>
(rAll bag root).bind fun x17 =>
(appO ([] : List UInt8) q.1).bind fun x21 =>
(trGet x13 root x21).bind fun x22 =>
(appO ([] : List UInt8) q.1).bind fun x26 =>
(trRange x13 root x26 q.2).bind fun x27 =>
(trHashes x13 root).bind fun x29 =>
if x15.2 = x17.2 then (if x22.2.2 = x17.2 then (if x27.2 = x17.2 then (if x29.2 = x17.2 then ((m_triremeref06_SamePairs x15.1 x17.1).bind fun x35 =>
if (!x35) = true then (some false)
 else ((rSameBag x13 bag).bind fun x37 =>
if (!x37) = true then (some false)
 else (if x17.2 = 0 then ((m_triremeref08_From x17.1 q.1 1).bind fun x43 =>
if 0 < ((x43).length : Int) then ((idxO x43 0).bind fun x46 =>
if (x22.2.1) = (decide (x46.1 = q.1)) then (if x46.1 = q.1 then ((idxO x43 0).bind fun x55 =>
if x22.1 = x55.2 then ((m_triremeref08_From x17.1 q.1 q.2).bind fun x62 =>
(m_triremeref06_SamePairs x27.1 x62).bind fun x64 =>
if (!x64) = true then (some false)
 else ((m_triremeref08_Build x17.1).bind fun x66 =>
(m_triremeref05_Sorted x66.2.1.1).bind fun x75 =>
(m_triremeref05_Same x29.1 x75).bind fun x77 =>
if x77 = true then ((rSameBag x13 bag).bind fun x79 =>
some x79)
 else (some false)))
 else (some false))
 else ((m_triremeref08_From x17.1 q.1 q.2).bind fun x80 =>
(m_triremeref06_SamePairs x27.1 x80).bind fun x82 =>
if (!x82) = true then (some false)
 else ((m_triremeref08_Build x17.1).bind fun x84 =>
(m_triremeref05_Sorted x84.2.1.1).bind fun x93 =>
(m_triremeref05_Same x29.1 x93).bind fun x95 =>
if x95 = true then ((rSameBag x13 bag).bind fun x97 =>
some x97)
 else (some false))))
 else (some false))
 else (if (x22.2.1) = (false) then ((m_triremeref08_From x17.1 q.1 q.2).bind fun x99 =>
(m_triremeref06_SamePairs x27.1 x99).bind fun x101 =>
if (!x101) = true then (some false)
 else ((m_triremeref08_Build x17.1).bind fun x103 =>
(m_triremeref05_Sorted x103.2.1.1).bind fun x112 =>
(m_triremeref05_Same x29.1 x112).bind fun x114 =>
if x114 = true then ((rSameBag x13 bag).bind fun x116 =>
some x116)
 else (some false)))
 else (some false)))
 else (if (!x22.2.1) = true then (if ((x22.1).length : Int) = 0 then (if ((x27.1).length : Int) = 0 then (some (decide (((x29.1).length : Int) = 0)))
 else (some false))
 else (some false))
 else (some false)))))
 else (some false))
 else (some false))
 else (some false))
 else (some false))))
end Go.Proofs.YtnjemlkcamdbfaaGreatDoor
