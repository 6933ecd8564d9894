/- Texts Mod, Oq, Os, Cm. -/
import Derived.Test.YtapllcabobickaaGreatDoorQ4
import GoSem.ClaimJoined
import Derived.ChangeMaps5
set_option linter.unusedSimpArgs false
set_option linter.unusedVariables false
namespace Go.Proofs.YtapllcabobickaaGreatDoor
open Go.RowKit Go.Tri
def shaStart:List Int:=[0x6a09e667,0xbb67ae85,0x3c6ef372,0xa54ff53a,0x510e527f,0x9b05688c,0x1f83d9ab,0x5be0cd19]
theorem shaStart_len:shaStart.length=8:=rfl
def shaRounds:List Int:=[0x428a2f98,0x71374491,0xb5c0fbcf,0xe9b5dba5,0x3956c25b,0x59f111f1,0x923f82a4,0xab1c5ed5,0xd807aa98,0x12835b01,0x243185be,0x550c7dc3,0x72be5d74,0x80deb1fe,0x9bdc06a7,0xc19bf174,0xe49b69c1,0xefbe4786,0x0fc19dc6,0x240ca1cc,0x2de92c6f,0x4a7484aa,0x5cb0a9dc,0x76f988da,0x983e5152,0xa831c66d,0xb00327c8,0xbf597fc7,0xc6e00bf3,0xd5a79147,0x06ca6351,0x14292967,0x27b70a85,0x2e1b2138,0x4d2c6dfc,0x53380d13,0x650a7354,0x766a0abb,0x81c2c92e,0x92722c85,0xa2bfe8a1,0xa81a664b,0xc24b8b70,0xc76c51a3,0xd192e819,0xd6990624,0xf40e3585,0x106aa070,0x19a4c116,0x1e376c08,0x2748774c,0x34b0bcb5,0x391c0cb3,0x4ed8aa4a,0x5b9cca4f,0x682e6ff3,0x748f82ee,0x78a5636f,0x84c87814,0x8cc70208,0x90befffa,0xa4506ceb,0xbef9a3f7,0xc67178f2]
theorem shaRounds_len:shaRounds.length=64:=by kernel_rfl
abbrev T_sha_Hasher_o:Type:=(List Int)×(List UInt8)×Int
def O_sha_Hasher (b:Nat) (x:T_sha_Hasher_o):HP:=HP.ex fun (i:(Option Addr)×Nat)=>[HP.fact ((x.1).length=8),HP.blk b (icells .u32 x.1++([Value.slice i.1 (x.2.1).length i.2,Value.int .u64 (x.2.2)])) 233,HP.ow rByte 5 i.1 i.2 x.2.1]
theorem O_sha_Hasher_o {w0 w:World} {l:List HP} {b:Nat} {x:T_sha_Hasher_o} (H:St w0 w (O_sha_Hasher b x::l)):∃ (i2:Option Addr) (c2:Nat),((x.1).length=8)∧St w0 w (HP.blk b (icells .u32 x.1++([Value.slice i2 (x.2.1).length c2,Value.int .u64 (x.2.2)])) 233::HP.ow rByte 5 i2 c2 x.2.1::l):=by
 obtain ⟨⟨i2,c2⟩,H⟩:=H.exOpen
 exact ⟨i2,c2,H.factP 0 rfl,H.keep 0 1⟩
theorem O_sha_Hasher_s {w0 w:World} {l:List HP} {b:Nat} {i2:Option Addr} {c2:Nat} {x0:List Int} {x1:List UInt8} {x2:Int} (h0:(x0).length=8) (H:St w0 w (HP.blk b (icells .u32 (x0)++([Value.slice i2 (x1).length c2,Value.int .u64 (x2)])) 233::HP.ow rByte 5 i2 c2 (x1)::l)):St w0 w (O_sha_Hasher b (x0,x1,x2)::l):=by
 unfold O_sha_Hasher
 exact St.exShut (i2,c2) (H.addFact h0)
def O_sha_Hasher_1 (b:Nat) (x:T_sha_Hasher_o):HP:=HP.ex fun (i:(Option Addr)×Nat)=>[HP.fact ((x.1).length=8),HP.blk b (icells .u32 x.1++([Value.slice i.1 (x.2.1).length i.2,Value.int .u64 (x.2.2)])) 233,HP.sl rByte i.1 i.2 x.2.1]
theorem O_sha_Hasher_1_o {w0 w:World} {l:List HP} {b:Nat} {x:T_sha_Hasher_o} (H:St w0 w (O_sha_Hasher_1 b x::l)):∃ (i2:Option Addr) (c2:Nat),((x.1).length=8)∧St w0 w (HP.blk b (icells .u32 x.1++([Value.slice i2 (x.2.1).length c2,Value.int .u64 (x.2.2)])) 233::HP.sl rByte i2 c2 x.2.1::l):=by
 obtain ⟨⟨i2,c2⟩,H⟩:=H.exOpen
 exact ⟨i2,c2,H.factP 0 rfl,H.keep 0 1⟩
theorem O_sha_Hasher_1_s {w0 w:World} {l:List HP} {b:Nat} {i2:Option Addr} {c2:Nat} {x0:List Int} {x1:List UInt8} {x2:Int} (h0:(x0).length=8) (H:St w0 w (HP.blk b (icells .u32 (x0)++([Value.slice i2 (x1).length c2,Value.int .u64 (x2)])) 233::HP.sl rByte i2 c2 (x1)::l)):St w0 w (O_sha_Hasher_1 b (x0,x1,x2)::l):=by
 unfold O_sha_Hasher_1
 exact St.exShut (i2,c2) (H.addFact h0)
abbrev T_pack_Pen_o:Type:=(List UInt8)
def O_pack_Pen (b:Nat) (x:T_pack_Pen_o):HP:=HP.ex fun (i:(Option Addr)×Nat)=>[HP.blk b ([.slice i.1 (x).length i.2]) 74,HP.ow rByte 5 i.1 i.2 x]
theorem O_pack_Pen_o {w0 w:World} {l:List HP} {b:Nat} {x:T_pack_Pen_o} (H:St w0 w (O_pack_Pen b x::l)):∃ (i1:Option Addr) (c1:Nat),St w0 w (HP.blk b ([.slice i1 (x).length c1]) 74::HP.ow rByte 5 i1 c1 x::l):=by
 obtain ⟨⟨i1,c1⟩,H⟩:=H.exOpen
 exact ⟨i1,c1,H⟩
theorem O_pack_Pen_s {w0 w:World} {l:List HP} {b:Nat} {i1:Option Addr} {c1:Nat} {x0:List UInt8}  (H:St w0 w (HP.blk b ([.slice i1 (x0).length c1]) 74::HP.ow rByte 5 i1 c1 x0::l)):St w0 w (O_pack_Pen b x0::l):=by
 unfold O_pack_Pen
 exact St.exShut (i1,c1) H
def O_pack_Pen_1 (b:Nat) (x:T_pack_Pen_o):HP:=HP.ex fun (i:(Option Addr)×Nat)=>[HP.blk b ([.slice i.1 (x).length i.2]) 74,HP.sl rByte i.1 i.2 x]
theorem O_pack_Pen_1_s {w0 w:World} {l:List HP} {b:Nat} {i1:Option Addr} {c1:Nat} {x0:List UInt8}  (H:St w0 w (HP.blk b ([.slice i1 (x0).length c1]) 74::HP.sl rByte i1 c1 x0::l)):St w0 w (O_pack_Pen_1 b x0::l):=by
 unfold O_pack_Pen_1
 exact St.exShut (i1,c1) H
abbrev T_pack_Eye_o:Type:=(List UInt8)
def O_pack_Eye (b:Nat) (x:T_pack_Eye_o):HP:=HP.ex fun (i:(Option Addr)×Nat)=>[HP.blk b ([.slice i.1 (x).length i.2]) 140,HP.sl rByte i.1 i.2 x]
theorem O_pack_Eye_o {w0 w:World} {l:List HP} {b:Nat} {x:T_pack_Eye_o} (H:St w0 w (O_pack_Eye b x::l)):∃ (i1:Option Addr) (c1:Nat),St w0 w (HP.blk b ([.slice i1 (x).length c1]) 140::HP.sl rByte i1 c1 x::l):=by
 obtain ⟨⟨i1,c1⟩,H⟩:=H.exOpen
 exact ⟨i1,c1,H⟩
theorem O_pack_Eye_s {w0 w:World} {l:List HP} {b:Nat} {i1:Option Addr} {c1:Nat} {x0:List UInt8}  (H:St w0 w (HP.blk b ([.slice i1 (x0).length c1]) 140::HP.sl rByte i1 c1 x0::l)):St w0 w (O_pack_Eye b x0::l):=by
 unfold O_pack_Eye
 exact St.exShut (i1,c1) H
abbrev T_api_Pair:Type:=(List UInt8)×(List UInt8)
abbrev R_api_Pair:Rp T_api_Pair:=(rPair (rSl rByte) (rSl rByte))
theorem rc_api_Pair {w0 w:World} {l:List HP} {cs:List Value} {x:T_api_Pair} (H:St w0 w (HP.rc R_api_Pair cs x::l)):∃ (p2:Option Addr) (c2:Nat) (p3:Option Addr) (c3:Nat),cs=[.slice p2 (x.1).length c2,.slice p3 (x.2).length c3]∧St w0 w (HP.sl rByte p2 c2 x.1::HP.sl rByte p3 c3 x.2::l):=by
 obtain ⟨u1,v1,rfl,H⟩:=H.rcPair 0 rfl
 replace H:=H.dp 2 rfl
 obtain ⟨p2,c2,rfl,H⟩:=H.rcSl 0 rfl
 replace H:=H.dp 1 rfl
 obtain ⟨p3,c3,rfl,H⟩:=H.rcSl 1 rfl
 replace H:=H.dp 2 rfl
 exact ⟨p2,c2,p3,c3,rfl,(H.pm 2 [1,0] rfl:)⟩
abbrev T_api_Kid:Type:=(List UInt8)×(List UInt8)
abbrev T_api_Node:Type:=Int×(List T_api_Pair)×(List T_api_Kid)
abbrev R_api_Kid:Rp T_api_Kid:=(rPair (rSl rByte) (rBytesN 32))
abbrev R_api_Node:Rp T_api_Node:=(rPair (rInt .i64) (rPair (rSl R_api_Pair) (rSl R_api_Kid)))
theorem rc_api_Node {w0 w:World} {l:List HP} {cs:List Value} {x:T_api_Node} (H:St w0 w (HP.rc R_api_Node cs x::l)):∃ (p3:Option Addr) (c3:Nat) (p4:Option Addr) (c4:Nat),cs=[.int .i64 (x.1),.slice p3 (x.2.1).length c3,.slice p4 (x.2.2).length c4]∧St w0 w (HP.sl R_api_Pair p3 c3 x.2.1::HP.sl R_api_Kid p4 c4 x.2.2::l):=by
 obtain ⟨u1,v1,rfl,H⟩:=H.rcPair 0 rfl
 replace H:=H.dp 2 rfl
 obtain rfl:=H.rcI 0 rfl
 replace H:=H.dp 0 rfl
 obtain ⟨u2,v2,rfl,H⟩:=H.rcPair 0 rfl
 replace H:=H.dp 2 rfl
 obtain ⟨p3,c3,rfl,H⟩:=H.rcSl 0 rfl
 replace H:=H.dp 1 rfl
 obtain ⟨p4,c4,rfl,H⟩:=H.rcSl 1 rfl
 replace H:=H.dp 2 rfl
 exact ⟨p3,c3,p4,c4,rfl,(H.pm 2 [1,0] rfl:)⟩
def O_pack_Eye_1 (b:Nat) (x:T_pack_Eye_o):HP:=HP.ex fun (i:(Option Addr)×Nat)=>[HP.blk b ([.slice i.1 (x).length i.2]) 140,HP.sl rByte i.1 i.2 x]
theorem mk_api_Node {w0 w:World} {l:List HP} (H:St w0 w l) (s0:Int) {p1:Option Addr} {c1:Nat} {x1:List T_api_Pair} {p2:Option Addr} {c2:Nat} {x2:List T_api_Kid} (i1:Nat) (h1:l[i1]?=some (HP.sl R_api_Pair p1 c1 x1)) (i2:Nat) (h2:l[i2]?=some (HP.sl R_api_Kid p2 c2 x2)):St w0 w (HP.rc R_api_Node [.int .i64 s0,.slice p1 x1.length c1,.slice p2 x2.length c2] (s0,x1,x2)::l):=H.mkRc (fun gg=>⟨_,_,rfl,rfl,⟨_,_,rfl,⟨_,_,rfl,(gg i1 _ h1).choose_spec⟩,⟨_,_,rfl,(gg i2 _ h2).choose_spec⟩⟩⟩)
def O_t220 (b:Nat) (x:(List Int)):HP:=HP.ex fun (i:(Option Addr)×Nat)=>[HP.blk b ([.slice i.1 (x).length i.2]) 220,HP.ow (rInt .i64) 3 i.1 i.2 x]
theorem O_t220_o {w0 w:World} {l:List HP} {b:Nat} {x:(List Int)} (H:St w0 w (O_t220 b x::l)):∃ (i1:Option Addr) (c1:Nat),St w0 w (HP.blk b ([.slice i1 (x).length c1]) 220::HP.ow (rInt .i64) 3 i1 c1 x::l):=by
 obtain ⟨⟨i1,c1⟩,H⟩:=H.exOpen
 exact ⟨i1,c1,H⟩
theorem O_t220_s {w0 w:World} {l:List HP} {b:Nat} {i1:Option Addr} {c1:Nat} {x0:List Int}  (H:St w0 w (HP.blk b ([.slice i1 (x0).length c1]) 220::HP.ow (rInt .i64) 3 i1 c1 x0::l)):St w0 w (O_t220 b x0::l):=by
 unfold O_t220
 exact St.exShut (i1,c1) H
def O_int (b:Nat) (x:Int):HP:=HP.ex fun (i:Unit)=>[HP.blk b ([.int .i64 (x)]) 3]
theorem O_int_o {w0 w:World} {l:List HP} {b:Nat} {x:Int} (H:St w0 w (O_int b x::l)):St w0 w (HP.blk b ([.int .i64 (x)]) 3::l):=by
 obtain ⟨_,H⟩:=H.exOpen
 exact H
theorem O_int_s {w0 w:World} {l:List HP} {b:Nat} {x0:Int}  (H:St w0 w (HP.blk b ([.int .i64 (x0)]) 3::l)):St w0 w (O_int b x0::l):=by
 unfold O_int
 exact St.exShut () H
theorem rc_api_Kid {w0 w:World} {l:List HP} {cs:List Value} {x:T_api_Kid} (H:St w0 w (HP.rc R_api_Kid cs x::l)):∃ (p2:Option Addr) (c2:Nat),((x.2).length=32)∧cs=[Value.slice p2 (x.1).length c2]++(bcells x.2)∧St w0 w (HP.sl rByte p2 c2 x.1::l):=by
 obtain ⟨u1,v1,rfl,H⟩:=H.rcPair 0 rfl
 replace H:=H.dp 2 rfl
 obtain ⟨p2,c2,rfl,H⟩:=H.rcSl 0 rfl
 replace H:=H.dp 1 rfl
 obtain ⟨rfl,hl3⟩:=H.rcBN 1 rfl
 replace H:=H.dp 1 rfl
 exact ⟨p2,c2,hl3,rfl,H⟩
abbrev T_tree_walker_o:Type:=(List T_api_Pair)
def O_tree_walker (n0:Nat) (b:Nat) (k0:Option Nat) (x:T_tree_walker_o):HP:=HP.ex fun (i:(Option Addr)×Nat)=>[HP.blk b ([.map k0,.slice i.1 (x).length i.2]) 256,HP.ow (rP2N n0) 129 i.1 i.2 x]
theorem O_tree_walker_o {w0 w:World} {l:List HP} {b:Nat} {k0:Option Nat} {x:T_tree_walker_o} (H:St w0 w (O_tree_walker w0.heap.size b k0 x::l)):∃ (i1:Option Addr) (c1:Nat),St w0 w (HP.blk b ([.map k0,.slice i1 (x).length c1]) 256::HP.ow (rP2N w0.heap.size) 129 i1 c1 x::l):=by
 obtain ⟨⟨i1,c1⟩,H⟩:=H.exOpen
 exact ⟨i1,c1,H⟩
theorem O_tree_walker_s {w0 w:World} {l:List HP} {b:Nat} {k0:Option Nat} {i1:Option Addr} {c1:Nat} {x1:List T_api_Pair}  (H:St w0 w (HP.blk b ([.map k0,.slice i1 (x1).length c1]) 256::HP.ow (rP2N w0.heap.size) 129 i1 c1 x1::l)):St w0 w (O_tree_walker w0.heap.size b k0 x1::l):=by
 unfold O_tree_walker
 exact St.exShut (i1,c1) H
abbrev T_files_file:Type:=Bool×(List UInt8)
abbrev R_files_file:Rp T_files_file:=(rPair rBool (rSl rByte))
theorem rc_files_file {w0 w:World} {l:List HP} {cs:List Value} {x:T_files_file} (H:St w0 w (HP.rc R_files_file cs x::l)):∃ (p2:Option Addr) (c2:Nat),cs=[.bool (x.1),.slice p2 (x.2).length c2]∧St w0 w (HP.sl rByte p2 c2 x.2::l):=by
 obtain ⟨u1,v1,rfl,H⟩:=H.rcPair 0 rfl
 replace H:=H.dp 2 rfl
 obtain rfl:=H.rcBool 0 rfl
 replace H:=H.dp 0 rfl
 obtain ⟨p2,c2,rfl,H⟩:=H.rcSl 0 rfl
 replace H:=H.dp 1 rfl
 exact ⟨p2,c2,rfl,H⟩
abbrev T_api_Op:Type:=Int×(List UInt8)×(List UInt8)×Int×Int×(List UInt8)
abbrev R_api_Op:Rp T_api_Op:=(rPair (rInt .i64) (rPair rStr (rPair rStr (rPair (rInt .i64) (rPair (rInt .i64) (rSl rByte))))))
abbrev T_api_Answer:Type:=Int×Int×(List UInt8)×(List (List UInt8))
abbrev R_api_Answer:Rp T_api_Answer:=(rPair (rInt .i64) (rPair (rInt .i64) (rPair (rSl rByte) (rSl rStr))))
theorem rc_api_Op {w0 w:World} {l:List HP} {cs:List Value} {x:T_api_Op} (H:St w0 w (HP.rc R_api_Op cs x::l)):∃ (p6:Option Addr) (c6:Nat),cs=[.int .i64 (x.1),.string (txb (x.2.1)),.string (txb (x.2.2.1)),.int .i64 (x.2.2.2.1),.int .i64 (x.2.2.2.2.1),.slice p6 (x.2.2.2.2.2).length c6]∧St w0 w (HP.sl rByte p6 c6 x.2.2.2.2.2::l):=by
 obtain ⟨u1,v1,rfl,H⟩:=H.rcPair 0 rfl
 replace H:=H.dp 2 rfl
 obtain rfl:=H.rcI 0 rfl
 replace H:=H.dp 0 rfl
 obtain ⟨u2,v2,rfl,H⟩:=H.rcPair 0 rfl
 replace H:=H.dp 2 rfl
 obtain rfl:=H.rcStr 0 rfl
 replace H:=H.dp 0 rfl
 obtain ⟨u3,v3,rfl,H⟩:=H.rcPair 0 rfl
 replace H:=H.dp 2 rfl
 obtain rfl:=H.rcStr 0 rfl
 replace H:=H.dp 0 rfl
 obtain ⟨u4,v4,rfl,H⟩:=H.rcPair 0 rfl
 replace H:=H.dp 2 rfl
 obtain rfl:=H.rcI 0 rfl
 replace H:=H.dp 0 rfl
 obtain ⟨u5,v5,rfl,H⟩:=H.rcPair 0 rfl
 replace H:=H.dp 2 rfl
 obtain rfl:=H.rcI 0 rfl
 replace H:=H.dp 0 rfl
 obtain ⟨p6,c6,rfl,H⟩:=H.rcSl 0 rfl
 replace H:=H.dp 1 rfl
 exact ⟨p6,c6,rfl,H⟩
theorem mk_api_Answer {w0 w:World} {l:List HP} (H:St w0 w l) (s0:Int) (s1:Int) {p2:Option Addr} {c2:Nat} {x2:List UInt8} {p3:Option Addr} {c3:Nat} {x3:List (List UInt8)} (i2:Nat) (h2:l[i2]?=some (HP.sl rByte p2 c2 x2)) (i3:Nat) (h3:l[i3]?=some (HP.sl rStr p3 c3 x3)):St w0 w (HP.rc R_api_Answer [.int .i64 s0,.int .i64 s1,.slice p2 x2.length c2,.slice p3 x3.length c3] (s0,s1,x2,x3)::l):=H.mkRc (fun gg=>⟨_,_,rfl,rfl,⟨_,_,rfl,rfl,⟨_,_,rfl,⟨_,_,rfl,(gg i2 _ h2).choose_spec⟩,⟨_,_,rfl,(gg i3 _ h3).choose_spec⟩⟩⟩⟩)
theorem rc_api_Answer {w0 w:World} {l:List HP} {cs:List Value} {x:T_api_Answer} (H:St w0 w (HP.rc R_api_Answer cs x::l)):∃ (p4:Option Addr) (c4:Nat) (p5:Option Addr) (c5:Nat),cs=[.int .i64 (x.1),.int .i64 (x.2.1),.slice p4 (x.2.2.1).length c4,.slice p5 (x.2.2.2).length c5]∧St w0 w (HP.sl rByte p4 c4 x.2.2.1::HP.sl rStr p5 c5 x.2.2.2::l):=by
 obtain ⟨u1,v1,rfl,H⟩:=H.rcPair 0 rfl
 replace H:=H.dp 2 rfl
 obtain rfl:=H.rcI 0 rfl
 replace H:=H.dp 0 rfl
 obtain ⟨u2,v2,rfl,H⟩:=H.rcPair 0 rfl
 replace H:=H.dp 2 rfl
 obtain rfl:=H.rcI 0 rfl
 replace H:=H.dp 0 rfl
 obtain ⟨u3,v3,rfl,H⟩:=H.rcPair 0 rfl
 replace H:=H.dp 2 rfl
 obtain ⟨p4,c4,rfl,H⟩:=H.rcSl 0 rfl
 replace H:=H.dp 1 rfl
 obtain ⟨p5,c5,rfl,H⟩:=H.rcSl 1 rfl
 replace H:=H.dp 2 rfl
 exact ⟨p4,c4,p5,c5,rfl,(H.pm 2 [1,0] rfl:)⟩
abbrev T_api_Snap:Type:=(List UInt8)×Int×(List T_api_Pair)
abbrev T_api_State:Type:=(List T_api_Pair)×(List T_api_Snap)
abbrev R_api_Snap:Rp T_api_Snap:=(rPair rStr (rPair (rInt .u64) (rSl R_api_Pair)))
abbrev R_api_State:Rp T_api_State:=(rPair (rSl R_api_Pair) (rSl R_api_Snap))
theorem rc_api_State {w0 w:World} {l:List HP} {cs:List Value} {x:T_api_State} (H:St w0 w (HP.rc R_api_State cs x::l)):∃ (p2:Option Addr) (c2:Nat) (p3:Option Addr) (c3:Nat),cs=[.slice p2 (x.1).length c2,.slice p3 (x.2).length c3]∧St w0 w (HP.sl R_api_Pair p2 c2 x.1::HP.sl R_api_Snap p3 c3 x.2::l):=by
 obtain ⟨u1,v1,rfl,H⟩:=H.rcPair 0 rfl
 replace H:=H.dp 2 rfl
 obtain ⟨p2,c2,rfl,H⟩:=H.rcSl 0 rfl
 replace H:=H.dp 1 rfl
 obtain ⟨p3,c3,rfl,H⟩:=H.rcSl 1 rfl
 replace H:=H.dp 2 rfl
 exact ⟨p2,c2,p3,c3,rfl,(H.pm 2 [1,0] rfl:)⟩
abbrev T_api_State_o:Type:=(List T_api_Pair)×(List T_api_Snap)
def O_api_State (b:Nat) (x:T_api_State_o):HP:=HP.ex fun (i:(Option Addr)×Nat×(Option Addr)×Nat)=>[HP.blk b ([.slice i.1 (x.1).length i.2.1,.slice i.2.2.1 (x.2).length i.2.2.2]) 64,HP.sl R_api_Pair i.1 i.2.1 x.1,HP.ow R_api_Snap 131 i.2.2.1 i.2.2.2 x.2]
theorem O_api_State_o {w0 w:World} {l:List HP} {b:Nat} {x:T_api_State_o} (H:St w0 w (O_api_State b x::l)):∃ (i1:Option Addr) (c1:Nat) (i2:Option Addr) (c2:Nat),St w0 w (HP.blk b ([.slice i1 (x.1).length c1,.slice i2 (x.2).length c2]) 64::HP.sl R_api_Pair i1 c1 x.1::HP.ow R_api_Snap 131 i2 c2 x.2::l):=by
 obtain ⟨⟨i1,c1,i2,c2⟩,H⟩:=H.exOpen
 exact ⟨i1,c1,i2,c2,H⟩
theorem O_api_State_s {w0 w:World} {l:List HP} {b:Nat} {i1:Option Addr} {c1:Nat} {i2:Option Addr} {c2:Nat} {x0:List T_api_Pair} {x1:List T_api_Snap}  (H:St w0 w (HP.blk b ([.slice i1 (x0).length c1,.slice i2 (x1).length c2]) 64::HP.sl R_api_Pair i1 c1 (x0)::HP.ow R_api_Snap 131 i2 c2 (x1)::l)):St w0 w (O_api_State b (x0,x1)::l):=by
 unfold O_api_State
 exact St.exShut (i1,c1,i2,c2) H
theorem mk_api_State {w0 w:World} {l:List HP} (H:St w0 w l) {p0:Option Addr} {c0:Nat} {x0:List T_api_Pair} {p1:Option Addr} {c1:Nat} {x1:List T_api_Snap} (i0:Nat) (h0:l[i0]?=some (HP.sl R_api_Pair p0 c0 x0)) (i1:Nat) (h1:l[i1]?=some (HP.sl R_api_Snap p1 c1 x1)):St w0 w (HP.rc R_api_State [.slice p0 x0.length c0,.slice p1 x1.length c1] (x0,x1)::l):=H.mkRc (fun gg=>⟨_,_,rfl,⟨_,_,rfl,(gg i0 _ h0).choose_spec⟩,⟨_,_,rfl,(gg i1 _ h1).choose_spec⟩⟩)
theorem mk_api_Op {w0 w:World} {l:List HP} (H:St w0 w l) (s0:Int) (s1:List UInt8) (s2:List UInt8) (s3:Int) (s4:Int) {p5:Option Addr} {c5:Nat} {x5:List UInt8} (i5:Nat) (h5:l[i5]?=some (HP.sl rByte p5 c5 x5)):St w0 w (HP.rc R_api_Op [.int .i64 s0,.string (txb s1),.string (txb s2),.int .i64 s3,.int .i64 s4,.slice p5 x5.length c5] (s0,s1,s2,s3,s4,x5)::l):=H.mkRc (fun gg=>⟨_,_,rfl,rfl,⟨_,_,rfl,rfl,⟨_,_,rfl,rfl,⟨_,_,rfl,rfl,⟨_,_,rfl,rfl,⟨_,_,rfl,(gg i5 _ h5).choose_spec⟩⟩⟩⟩⟩⟩)
abbrev T_api_Seat:Type:=Int×Int×T_api_Answer
abbrev R_api_Seat:Rp T_api_Seat:=(rPair (rInt .i64) (rPair (rInt .u64) R_api_Answer))
theorem rc_api_Seat {w0 w:World} {l:List HP} {cs:List Value} {x:T_api_Seat} (H:St w0 w (HP.rc R_api_Seat cs x::l)):∃ (v2:List Value),cs=[Value.int .i64 (x.1),Value.int .u64 (x.2.1)]++(v2)∧St w0 w (HP.rc R_api_Answer v2 x.2.2::l):=by
 obtain ⟨u1,v1,rfl,H⟩:=H.rcPair 0 rfl
 replace H:=H.dp 2 rfl
 obtain rfl:=H.rcI 0 rfl
 replace H:=H.dp 0 rfl
 obtain ⟨u2,v2,rfl,H⟩:=H.rcPair 0 rfl
 replace H:=H.dp 2 rfl
 obtain rfl:=H.rcI 0 rfl
 replace H:=H.dp 0 rfl
 exact ⟨v2,rfl,H⟩
abbrev T_api_Whole:Type:=T_api_State×(List T_api_Seat)
abbrev R_api_Whole:Rp T_api_Whole:=(rPair R_api_State (rSl R_api_Seat))
theorem rc_api_Whole {w0 w:World} {l:List HP} {cs:List Value} {x:T_api_Whole} (H:St w0 w (HP.rc R_api_Whole cs x::l)):∃ (u1:List Value) (p2:Option Addr) (c2:Nat),cs=u1++([Value.slice p2 (x.2).length c2])∧St w0 w (HP.rc R_api_State u1 x.1::HP.sl R_api_Seat p2 c2 x.2::l):=by
 obtain ⟨u1,v1,rfl,H⟩:=H.rcPair 0 rfl
 replace H:=H.dp 2 rfl
 obtain ⟨p2,c2,rfl,H⟩:=H.rcSl 1 rfl
 replace H:=H.dp 2 rfl
 exact ⟨u1,p2,c2,rfl,(H.pm 2 [1,0] rfl:)⟩
abbrev T_api_Call:Type:=Int×Int×T_api_Op
abbrev R_api_Call:Rp T_api_Call:=(rPair (rInt .i64) (rPair (rInt .u64) R_api_Op))
theorem rc_api_Call {w0 w:World} {l:List HP} {cs:List Value} {x:T_api_Call} (H:St w0 w (HP.rc R_api_Call cs x::l)):∃ (v2:List Value),cs=[Value.int .i64 (x.1),Value.int .u64 (x.2.1)]++(v2)∧St w0 w (HP.rc R_api_Op v2 x.2.2::l):=by
 obtain ⟨u1,v1,rfl,H⟩:=H.rcPair 0 rfl
 replace H:=H.dp 2 rfl
 obtain rfl:=H.rcI 0 rfl
 replace H:=H.dp 0 rfl
 obtain ⟨u2,v2,rfl,H⟩:=H.rcPair 0 rfl
 replace H:=H.dp 2 rfl
 obtain rfl:=H.rcI 0 rfl
 replace H:=H.dp 0 rfl
 exact ⟨v2,rfl,H⟩
abbrev T_api_Record:Type:=Int×Int×(List UInt8)×(List UInt8)×(List UInt8)×(List UInt8)×T_api_Call
abbrev R_api_Record:Rp T_api_Record:=(rPair (rInt .u64) (rPair (rInt .u64) (rPair (rBytesN 32) (rPair (rBytesN 32) (rPair (rBytesN 32) (rPair (rBytesN 32) R_api_Call))))))
theorem rc_api_Record {w0 w:World} {l:List HP} {cs:List Value} {x:T_api_Record} (H:St w0 w (HP.rc R_api_Record cs x::l)):∃ (v9:List Value),((x.2.2.1).length=32)∧((x.2.2.2.1).length=32)∧((x.2.2.2.2.1).length=32)∧((x.2.2.2.2.2.1).length=32)∧cs=[Value.int .u64 (x.1),Value.int .u64 (x.2.1)]++(bcells x.2.2.1++(bcells x.2.2.2.1++(bcells x.2.2.2.2.1++(bcells x.2.2.2.2.2.1++(v9)))))∧St w0 w (HP.rc R_api_Call v9 x.2.2.2.2.2.2::l):=by
 obtain ⟨u1,v1,rfl,H⟩:=H.rcPair 0 rfl
 replace H:=H.dp 2 rfl
 obtain rfl:=H.rcI 0 rfl
 replace H:=H.dp 0 rfl
 obtain ⟨u2,v2,rfl,H⟩:=H.rcPair 0 rfl
 replace H:=H.dp 2 rfl
 obtain rfl:=H.rcI 0 rfl
 replace H:=H.dp 0 rfl
 obtain ⟨u3,v3,rfl,H⟩:=H.rcPair 0 rfl
 replace H:=H.dp 2 rfl
 obtain ⟨rfl,hl4⟩:=H.rcBN 0 rfl
 replace H:=H.dp 0 rfl
 obtain ⟨u5,v5,rfl,H⟩:=H.rcPair 0 rfl
 replace H:=H.dp 2 rfl
 obtain ⟨rfl,hl6⟩:=H.rcBN 0 rfl
 replace H:=H.dp 0 rfl
 obtain ⟨u7,v7,rfl,H⟩:=H.rcPair 0 rfl
 replace H:=H.dp 2 rfl
 obtain ⟨rfl,hl8⟩:=H.rcBN 0 rfl
 replace H:=H.dp 0 rfl
 obtain ⟨u9,v9,rfl,H⟩:=H.rcPair 0 rfl
 replace H:=H.dp 2 rfl
 obtain ⟨rfl,hl10⟩:=H.rcBN 0 rfl
 replace H:=H.dp 0 rfl
 exact ⟨v9,hl4,hl6,hl8,hl10,rfl,H⟩
def O_commit_loader (b:Nat) (k0:Option Nat) (x:Int):HP:=HP.ex fun (i:Unit)=>[HP.blk b ([.map k0,.int .i64 (x)]) 126]
theorem O_commit_loader_o {w0 w:World} {l:List HP} {b:Nat} {k0:Option Nat} {x:Int} (H:St w0 w (O_commit_loader b k0 x::l)):St w0 w (HP.blk b ([.map k0,.int .i64 (x)]) 126::l):=by
 obtain ⟨_,H⟩:=H.exOpen
 exact H
theorem O_commit_loader_s {w0 w:World} {l:List HP} {b:Nat} {k0:Option Nat} {x1:Int}  (H:St w0 w (HP.blk b ([.map k0,.int .i64 (x1)]) 126::l)):St w0 w (O_commit_loader b k0 x1::l):=by
 unfold O_commit_loader
 exact St.exShut () H
def O_commit_loader_1 (b:Nat) (k0:Option Nat) (x:Int):HP:=HP.ex fun (i:Unit)=>[HP.blk b ([.map k0,.int .i64 (x)]) 126]
theorem O_commit_loader_1_o {w0 w:World} {l:List HP} {b:Nat} {k0:Option Nat} {x:Int} (H:St w0 w (O_commit_loader_1 b k0 x::l)):St w0 w (HP.blk b ([.map k0,.int .i64 (x)]) 126::l):=by
 obtain ⟨_,H⟩:=H.exOpen
 exact H
theorem O_commit_loader_1_s {w0 w:World} {l:List HP} {b:Nat} {k0:Option Nat} {x1:Int}  (H:St w0 w (HP.blk b ([.map k0,.int .i64 (x1)]) 126::l)):St w0 w (O_commit_loader_1 b k0 x1::l):=by
 unfold O_commit_loader_1
 exact St.exShut () H
abbrev T_triremeref02_Eye_o:Type:=(List UInt8)×Int
def O_triremeref02_Eye (b:Nat) (x:T_triremeref02_Eye_o):HP:=HP.ex fun (i:(Option Addr)×Nat)=>[HP.blk b ([.slice i.1 (x.1).length i.2,.int .i64 (x.2)]) 148,HP.sl rByte i.1 i.2 x.1]
theorem O_triremeref02_Eye_o {w0 w:World} {l:List HP} {b:Nat} {x:T_triremeref02_Eye_o} (H:St w0 w (O_triremeref02_Eye b x::l)):∃ (i1:Option Addr) (c1:Nat),St w0 w (HP.blk b ([.slice i1 (x.1).length c1,.int .i64 (x.2)]) 148::HP.sl rByte i1 c1 x.1::l):=by
 obtain ⟨⟨i1,c1⟩,H⟩:=H.exOpen
 exact ⟨i1,c1,H⟩
theorem O_triremeref02_Eye_s {w0 w:World} {l:List HP} {b:Nat} {i1:Option Addr} {c1:Nat} {x0:List UInt8} {x1:Int}  (H:St w0 w (HP.blk b ([.slice i1 (x0).length c1,.int .i64 (x1)]) 148::HP.sl rByte i1 c1 (x0)::l)):St w0 w (O_triremeref02_Eye b (x0,x1)::l):=by
 unfold O_triremeref02_Eye
 exact St.exShut (i1,c1) H
def O_api_Bag (b:Nat) (k0:Option Nat) (x:Unit):HP:=HP.ex fun (i:Unit)=>[HP.blk b ([.map k0]) 46]
theorem O_api_Bag_o {w0 w:World} {l:List HP} {b:Nat} {k0:Option Nat} {x:Unit} (H:St w0 w (O_api_Bag b k0 x::l)):St w0 w (HP.blk b ([.map k0]) 46::l):=by
 obtain ⟨_,H⟩:=H.exOpen
 exact H
theorem O_api_Bag_s {w0 w:World} {l:List HP} {b:Nat} {k0:Option Nat}  (H:St w0 w (HP.blk b ([.map k0]) 46::l)):St w0 w (O_api_Bag b k0 ()::l):=by
 unfold O_api_Bag
 exact St.exShut () H
noncomputable def rotL32 (x:Int) (k:Int):Option Int :=
(shlO .u32 x (andI .u64 (IntKind.u64.wrap (k)) 31)).bind fun x1 =>
(shrO .u32 x (IntKind.u64.wrap (32 - (andI .u64 (IntKind.u64.wrap (k)) 31)))).bind fun x2 =>
some (orI .u32 x1 x2)
noncomputable def turn (x:Int) (a_:Int) (b_:Int) (c_:Int) (sh:Bool):Option Int :=
(rotL32 x (IntKind.i64.wrap (0 - c_))).bind fun x1 =>
Option.bind (α:=(Int)) (if sh=true then ((shrO .u32 x c_).bind fun x6 =>
some x6)
 else (some x1)) fun r4=>(rotL32 x (IntKind.i64.wrap (0 - a_))).bind fun x7 =>
(rotL32 x (IntKind.i64.wrap (0 - b_))).bind fun x8 =>
some (xorI .u32 (xorI .u32 x7 x8) r4)
noncomputable def shaNew :Option T_sha_Hasher_o :=
some (shaStart,([]:List UInt8),0)
noncomputable def mix (state:List Int) (p:List UInt8):Option (List Int) :=
Option.bind (α:=((List Int))) (loopO (fun (s651:(List Int)×Int)=>if s651.2<64 then (Option.bind (α:=((List Int))) (if s651.2<16 then ((slcO p (IntKind.i64.wrap (4 * s651.2)) (IntKind.i64.wrap (4 * (IntKind.i64.wrap (s651.2+1))))).bind fun x719 =>
Option.bind (α:=((List Int))) (loopO (fun (s763:(List Int)×Int)=>if s763.2<((x719).length:Int) then ((idxO x719 s763.2).bind fun x766 =>
(idxO s763.1 s651.2).bind fun x769 =>
(idxO s763.1 s651.2).bind fun x770 =>
some (.inl ((s763.1).set (s651.2:Int).toNat (orI .u32 (shlI .u32 x769 8) (IntKind.u32.wrap (((x766).toNat:Int)))),IntKind.i64.wrap (s763.2+1))))
 else (some (.inr s763.1))) (s651.1,0)) fun r745=>some r745)
 else ((idxO s651.1 (IntKind.i64.wrap (s651.2 - 2))).bind fun x772 =>
(idxO s651.1 (IntKind.i64.wrap (s651.2 - 7))).bind fun x773 =>
(idxO s651.1 (IntKind.i64.wrap (s651.2 - 15))).bind fun x774 =>
(idxO s651.1 (IntKind.i64.wrap (s651.2 - 16))).bind fun x775 =>
(turn x772 17 19 10 true).bind fun x776 =>
(turn x774 7 18 3 true).bind fun x777 =>
(idxO s651.1 s651.2).bind fun x778 =>
some ((s651.1).set (s651.2:Int).toNat (IntKind.u32.wrap ((IntKind.u32.wrap ((IntKind.u32.wrap (x776+x773))+x777))+x775))))) fun r716=>some (.inl (r716,IntKind.i64.wrap (s651.2+1))))
 else (some (.inr s651.1))) ((List.replicate 64 0),0)) fun r393=>Option.bind (α:=((List Int))) (loopO (fun (s899:(List Int)×Int)=>if s899.2<64 then ((idxO shaRounds s899.2).bind fun x902 =>
(idxO s899.1 0).bind fun x903 =>
(idxO s899.1 4).bind fun x904 =>
(idxO s899.1 5).bind fun x905 =>
(idxO s899.1 6).bind fun x906 =>
(idxO s899.1 1).bind fun x907 =>
(idxO s899.1 2).bind fun x908 =>
(idxO s899.1 1).bind fun x909 =>
(idxO s899.1 2).bind fun x910 =>
(idxO s899.1 7).bind fun x911 =>
(turn x904 6 11 25 false).bind fun x912 =>
(idxO r393 s899.2).bind fun x913 =>
(slcO s899.1 1 ((s899.1).length:Int)).bind fun x914 =>
(slcO s899.1 0 7).bind fun x915 =>
(idxO (putAt s899.1 (1:Int).toNat ((x915).take (x914).length)) 4).bind fun x917 =>
(idxO (putAt s899.1 (1:Int).toNat ((x915).take (x914).length)) 4).bind fun x918 =>
(turn x903 2 13 22 false).bind fun x920 =>
(idxO ((putAt s899.1 (1:Int).toNat ((x915).take (x914).length)).set (4:Int).toNat (IntKind.u32.wrap (x917+(IntKind.u32.wrap ((IntKind.u32.wrap ((IntKind.u32.wrap ((IntKind.u32.wrap (x911+x912))+(xorI .u32 (andI .u32 x904 x905) (andI .u32 (notI .u32 x904) x906))))+x902))+x913))))) 0).bind fun x921 =>
some (.inl (((putAt s899.1 (1:Int).toNat ((x915).take (x914).length)).set (4:Int).toNat (IntKind.u32.wrap (x917+(IntKind.u32.wrap ((IntKind.u32.wrap ((IntKind.u32.wrap ((IntKind.u32.wrap (x911+x912))+(xorI .u32 (andI .u32 x904 x905) (andI .u32 (notI .u32 x904) x906))))+x902))+x913))))).set (0:Int).toNat (IntKind.u32.wrap ((IntKind.u32.wrap ((IntKind.u32.wrap ((IntKind.u32.wrap ((IntKind.u32.wrap ((IntKind.u32.wrap (x911+x912))+(xorI .u32 (andI .u32 x904 x905) (andI .u32 (notI .u32 x904) x906))))+x902))+x913))+x920))+(xorI .u32 (xorI .u32 (andI .u32 x903 x907) (andI .u32 x903 x908)) (andI .u32 x909 x910)))),IntKind.i64.wrap (s899.2+1))))
 else (some (.inr s899.1))) (state,0)) fun r851=>Option.bind (α:=((List Int))) (loopO (fun (s956:(List Int)×Int)=>if s956.2<8 then ((idxO state s956.2).bind fun x959 =>
(idxO s956.1 s956.2).bind fun x960 =>
(idxO s956.1 s956.2).bind fun x961 =>
some (.inl ((s956.1).set (s956.2:Int).toNat (IntKind.u32.wrap (x960+x959)),IntKind.i64.wrap (s956.2+1))))
 else (some (.inr s956.1))) (r851,0)) fun r942=>some r942
noncomputable def shaAdd (h:T_sha_Hasher_o) (b:List UInt8):Option T_sha_Hasher_o :=
(appO h.2.1 b).bind fun x6 =>
Option.bind (α:=(((List Int)×(List UInt8)))) (loopO (fun (s118:((List Int)×(List UInt8)))=>if 64≤((s118.2).length:Int) then ((slcO s118.2 0 64).bind fun x123 =>
(arrO 64 x123).bind fun x125 =>
(mix s118.1 x123).bind fun x126 =>
(slcO s118.2 64 ((s118.2).length:Int)).bind fun x129 =>
some (.inl (x126,x129)))
 else (some (.inr (s118.1,s118.2)))) ((h.1,x6,IntKind.u64.wrap (h.2.2+(IntKind.u64.wrap (((b).length:Int))))).1,((h.1,x6,IntKind.u64.wrap (h.2.2+(IntKind.u64.wrap (((b).length:Int))))).2).1)) fun r93=>some (r93.1,r93.2,((h.1,x6,IntKind.u64.wrap (h.2.2+(IntKind.u64.wrap (((b).length:Int))))).2).2)
noncomputable def shaHSum (h:T_sha_Hasher_o):Option ((List UInt8)×T_sha_Hasher_o) :=
Option.bind (α:=((List UInt8))) ((appO ([]:List UInt8) h.2.1).bind fun x26 =>
some x26) fun r17=>(u8O 128).bind fun x36 =>
Option.bind (α:=((List UInt8))) (loopO (fun (s90:(List UInt8))=>(remO (IntKind.i64.wrap ((IntKind.i64.wrap (((h.2.1).length:Int)+((s90).length:Int)))+8)) 64).bind fun x95 =>
if x95=0 then (some (.inr s90))
 else ((u8O 0).bind fun x98 =>
(appO s90 ([x98])).bind fun x100 =>
some (.inl x100))) ([x36])) fun r68=>Option.bind (α:=((List UInt8))) (loopO (fun (s142:(List UInt8)×Int)=>if 0≤s142.2 then ((shrO .u64 (IntKind.u64.wrap (h.2.2 * 8)) (IntKind.i64.wrap (8 * s142.2))).bind fun x145 =>
(u8O (IntKind.u8.wrap (x145))).bind fun x147 =>
(appO s142.1 ([x147])).bind fun x149 =>
some (.inl (x149,IntKind.i64.wrap (s142.2 - 1))))
 else (some (.inr s142.1))) (r68,7)) fun r126=>(shaAdd (h.1,r17,0) r126).bind fun x150 =>
Option.bind (α:=((List UInt8))) (loopO (fun (s372:(List UInt8)×Int)=>if s372.2<8 then ((idxO x150.1 s372.2).bind fun x375 =>
Option.bind (α:=((List UInt8))) (loopO (fun (s409:(List UInt8)×Int)=>if s409.2<4 then ((shrO .u32 x375 (IntKind.i64.wrap (8 * (IntKind.i64.wrap (3 - s409.2))))).bind fun x412 =>
(idxO s409.1 (IntKind.i64.wrap ((IntKind.i64.wrap (4 * s372.2))+s409.2))).bind fun x413 =>
(u8O (IntKind.u8.wrap (x412))).bind fun x415 =>
some (.inl ((s409.1).set (IntKind.i64.wrap ((IntKind.i64.wrap (4 * s372.2))+s409.2):Int).toNat x415,IntKind.i64.wrap (s409.2+1))))
 else (some (.inr s409.1))) (s372.1,0)) fun r395=>some (.inl (r395,IntKind.i64.wrap (s372.2+1))))
 else (some (.inr s372.1))) ((List.replicate 32 0),0)) fun r284=>some (r284,h)
noncomputable def shaSum (b:List UInt8):Option (List UInt8) :=
(shaNew).bind fun x4 =>
(shaAdd x4 b).bind fun x6 =>
(shaHSum x6).bind fun x7 =>
some x7.1
noncomputable def cloneB (s:List UInt8):Option (List UInt8) :=
(appO ([]:List UInt8) s).bind fun x5 =>
some x5
noncomputable def penRaw (p:T_pack_Pen_o) (b:List UInt8):Option T_pack_Pen_o :=
(appO p b).bind fun x5 =>
some x5
noncomputable def penUint (p:T_pack_Pen_o) (n:Int) (size:Int):Option (Int×T_pack_Pen_o) :=
if size<1 then (some (1,p))
 else (if 8<size then (some (1,p))
 else (if size<8 then ((shrO .u64 n (IntKind.i64.wrap (8 * size))).bind fun x4 =>
if 0<x4 then (some (1,p))
 else (Option.bind (α:=(T_pack_Pen_o)) (loopO (fun (s48:T_pack_Pen_o×Int)=>if 0≤s48.2 then ((shrO .u64 n (IntKind.i64.wrap (8 * s48.2))).bind fun x52 =>
(u8O (IntKind.u8.wrap (x52))).bind fun x54 =>
(appO s48.1 ([x54])).bind fun x56 =>
some (.inl (x56,IntKind.i64.wrap (s48.2 - 1))))
 else (some (.inr s48.1))) (p,IntKind.i64.wrap (size - 1))) fun r31=>some (0,r31)))
 else (Option.bind (α:=(T_pack_Pen_o)) (loopO (fun (s99:T_pack_Pen_o×Int)=>if 0≤s99.2 then ((shrO .u64 n (IntKind.i64.wrap (8 * s99.2))).bind fun x103 =>
(u8O (IntKind.u8.wrap (x103))).bind fun x105 =>
(appO s99.1 ([x105])).bind fun x107 =>
some (.inl (x107,IntKind.i64.wrap (s99.2 - 1))))
 else (some (.inr s99.1))) (p,IntKind.i64.wrap (size - 1))) fun r82=>some (0,r82))))
noncomputable def penText (p:T_pack_Pen_o) (b:List UInt8):Option (Int×T_pack_Pen_o) :=
(penUint p (IntKind.u64.wrap (((b).length:Int))) 2).bind fun x2 =>
if x2.1=0 then ((penRaw x2.2 b).bind fun x4 =>
some (0,x4))
 else (some (23,x2.2))
noncomputable def penData (p:T_pack_Pen_o):Option ((List UInt8)×T_pack_Pen_o) :=
(cloneB p).bind fun x4 =>
some (x4,p)
noncomputable def newEye (data:List UInt8):Option T_pack_Eye_o :=
(cloneB data).bind fun x3 =>
some x3
noncomputable def eyeRaw (e:T_pack_Eye_o) (n:Int):Option ((List UInt8)×Int×T_pack_Eye_o) :=
if n<0 then (some (([]:List UInt8),1,e))
 else (if ((e).length:Int)<n then (some (([]:List UInt8),20,e))
 else ((slcO e 0 n).bind fun x7 =>
(cloneB x7).bind fun x8 =>
(slcO e n ((e).length:Int)).bind fun x11 =>
some (x8,0,x11)))
noncomputable def eyeUint (e:T_pack_Eye_o) (size:Int):Option (Int×Int×T_pack_Eye_o) :=
if size<1 then (some (0,1,e))
 else (if 8<size then (some (0,1,e))
 else ((eyeRaw e size).bind fun x3 =>
Option.bind (α:=(Int)) (loopO (fun (s27:Int×Int)=>if s27.2<((x3.1).length:Int) then ((idxO x3.1 s27.2).bind fun x29 =>
some (.inl (orI .u64 (shlI .u64 s27.1 8) (IntKind.u64.wrap (((x29).toNat:Int))),IntKind.i64.wrap (s27.2+1))))
 else (some (.inr s27.1))) (0,0)) fun r18=>some (r18,x3.2.1,x3.2.2)))
noncomputable def eyeText (e:T_pack_Eye_o):Option ((List UInt8)×Int×T_pack_Eye_o) :=
(eyeUint e 2).bind fun x4 =>
if x4.2.1=0 then ((eyeRaw x4.2.2 (IntKind.i64.wrap (x4.1))).bind fun x6 =>
Option.bind (α:=(T_pack_Eye_o)) (if x6.2.1=0 then (some x6.2.2)
 else (some e)) fun r11=>some (x6.1,x6.2.1,r11))
 else (some (([]:List UInt8),x4.2.1,x4.2.2))
noncomputable def m_node_right_1 (x0_:T_api_Pair):Option (List UInt8) :=
some x0_.1
noncomputable def cmpB (a:List UInt8) (b:List UInt8):Option Int:=some (Lib.compareBytes a b)
noncomputable def riseP (list:List T_api_Pair):Option Bool :=
Option.bind (α:=(Unit) ⊕ Bool) (loopO (fun (s64:Int)=>if s64<((list).length:Int) then ((idxO list (IntKind.i64.wrap (s64 - 1))).bind fun x66 =>
(idxO list s64).bind fun x69 =>
(m_node_right_1 x66).bind fun x71 =>
(m_node_right_1 x69).bind fun x73 =>
(cmpB x71 x73).bind fun x75 =>
if 0≤x75 then (some (.inr (.inr false)))
 else (some (.inl (IntKind.i64.wrap (s64+1)))))
 else (some (.inr (.inl ())))) 1) fun o39=>Sum.elim (fun r39=>some true) (fun rv=>some rv) o39
noncomputable def m_node_right (x0_:T_api_Node):Option Bool :=
if x0_.1<0 then (none)
 else (if 16≤x0_.1 then (none)
 else (if x0_.1=0 then (if ((x0_.2.2).length:Int)=0 then (if ((x0_.2.1).length:Int)≤255 then ((riseP x0_.2.1).bind fun x12 =>
some x12)
 else (some false))
 else (some false))
 else (none)))
noncomputable def ndWrite (n:T_api_Node):Option ((List UInt8)×Int) :=
(m_node_right n).bind fun x4 =>
if (!x4)=true then (none)
 else ((u8O 84).bind fun x12 =>
(u8O (IntKind.u8.wrap (n.1))).bind fun x13 =>
(u8O (IntKind.u8.wrap (IntKind.i64.wrap (((n.2.1).length:Int)+((n.2.2).length:Int))))).bind fun x14 =>
(penRaw ([]:List UInt8) ([x12,x13,x14])).bind fun x15 =>
Option.bind (α:=(T_pack_Pen_o) ⊕ ((List UInt8)×Int)) (loopO (fun (s83:T_pack_Pen_o×Int)=>if s83.2<((n.2.1).length:Int) then ((idxO n.2.1 s83.2).bind fun x85 =>
(penText s83.1 x85.1).bind fun x93 =>
if x93.1=0 then ((penText x93.2 x85.2).bind fun x95 =>
if x95.1=0 then (some (.inl (x95.2,IntKind.i64.wrap (s83.2+1))))
 else (none))
 else (none))
 else (some (.inr (.inl s83.1)))) (x15,0)) fun o56=>Sum.elim (fun r56=>Option.bind (α:=(Unit) ⊕ ((List UInt8)×Int)) (loopO (fun (s124:Unit)=>if 0<((n.2.2).length:Int) then ((idxO n.2.2 0).bind fun x126 =>
none)
 else (some (.inr (.inl ())))) ()) fun o113=>Sum.elim (fun r113=>(penData r56).bind fun x130 =>
if 470<((x130.1).length:Int) then (none)
 else (some (x130.1,0))) (fun rv=>some rv) o113) (fun rv=>some rv) o56)
noncomputable def equalB (x:List UInt8) (y:List UInt8):Option Bool :=
if ((x).length:Int)=((y).length:Int) then (Option.bind (α:=(Unit) ⊕ Bool) (loopO (fun (s46:Int)=>if s46<((x).length:Int) then ((idxO x s46).bind fun x48 =>
(idxO y s46).bind fun x51 =>
if ((x48).toNat:Int)=((x51).toNat:Int) then (some (.inl (IntKind.i64.wrap (s46+1))))
 else (some (.inr (.inr false))))
 else (some (.inr (.inl ())))) 0) fun o29=>Sum.elim (fun r29=>some true) (fun rv=>some rv) o29)
 else (some false)
noncomputable def ndRead (block:List UInt8):Option (T_api_Node×Int) :=
(newEye block).bind fun x5 =>
(eyeUint x5 1).bind fun x7 =>
(eyeUint x7.2.2 1).bind fun x8 =>
(eyeUint x8.2.2 1).bind fun x9 =>
Option.bind (α:=((List T_api_Pair)×T_pack_Eye_o)) (loopO (fun (s114:(List T_api_Pair)×T_pack_Eye_o×Int)=>if s114.2.2<x9.1 then (Option.bind (α:=((List T_api_Pair)×T_pack_Eye_o)) ((eyeText s114.2.1).bind fun x127 =>
if x8.1=0 then ((eyeText x127.2.2).bind fun x130 =>
(appO s114.1 ([(x127.1,x130.1)])).bind fun x134 =>
some (x134,x130.2.2))
 else (none)) fun r125=>some (.inl (r125.1,r125.2,IntKind.u64.wrap (s114.2.2+1))))
 else (some (.inr (s114.1,s114.2.1)))) (([]:List T_api_Pair),x9.2.2,0)) fun r72=>(ndWrite (IntKind.i64.wrap (x8.1),r72.1,([]:List T_api_Kid))).bind fun x135 =>
if x135.2=0 then ((equalB x135.1 block).bind fun x138 =>
if (!x138)=true then (none)
 else (some ((IntKind.i64.wrap (x8.1),r72.1,([]:List T_api_Kid)),0)))
 else (none)
noncomputable def m_shape_Mark (x0_:List UInt8) (x1_:Int):Option Bool :=
if x1_<0 then (some false)
 else (if 16≤x1_ then (some false)
 else (Option.bind (α:=(Int)) (loopO (fun (s26:Int×Int)=>if s26.2<((x0_).length:Int) then ((idxO x0_ s26.2).bind fun x28 =>
some (.inl (IntKind.u32.wrap ((xorI .u32 s26.1 (IntKind.u32.wrap (((x28).toNat:Int)))) * 16777619),IntKind.i64.wrap (s26.2+1))))
 else (some (.inr s26.1))) (2166136261,0)) fun r17=>(shrO .u32 r17 (IntKind.i64.wrap (2 * x1_))).bind fun x31 =>
some (decide ((andI .u32 x31 3)=0))))
noncomputable def lvEnd (o:(List Int)) (c:Int) (s:Int):Option ((List Int)×Int×Int) :=
(appO o ([c])).bind fun x5 =>
some (x5,0,0)
noncomputable def m_shape_Leaves (x0_:List T_api_Pair):Option (List Int) :=
Option.bind (α:=(Int×Int×(List Int))) (loopO (fun (s439:Int×Int×(List Int)×Int)=>if s439.2.2.2<((x0_).length:Int) then (Option.bind (α:=(Int×Int×(List Int))) ((idxO x0_ s439.2.2.2).bind fun x485 =>
if 0<s439.2.1 then (Option.bind (α:=(Int×Int×(List Int))) (if 200<(IntKind.i64.wrap (s439.1+(IntKind.i64.wrap ((IntKind.i64.wrap (4+((x485.1).length:Int)))+((x485.2).length:Int))))) then ((lvEnd s439.2.2.1 s439.2.1 s439.1).bind fun x501 =>
some (x501.2.2,x501.2.1,x501.1))
 else (some (s439.1,s439.2.1,s439.2.2.1))) fun r498=>(m_shape_Mark x485.1 0).bind fun x504 =>
Option.bind (α:=(Int×Int×(List Int))) (if x504=true then ((lvEnd r498.2.2 (IntKind.i64.wrap (r498.2.1+1)) (IntKind.i64.wrap (r498.1+(IntKind.i64.wrap ((IntKind.i64.wrap (4+((x485.1).length:Int)))+((x485.2).length:Int)))))).bind fun x512 =>
some (x512.2.2,x512.2.1,x512.1))
 else (some (IntKind.i64.wrap (r498.1+(IntKind.i64.wrap ((IntKind.i64.wrap (4+((x485.1).length:Int)))+((x485.2).length:Int)))),IntKind.i64.wrap (r498.2.1+1),r498.2.2))) fun r509=>some (r509.1,r509.2.1,r509.2.2))
 else ((m_shape_Mark x485.1 0).bind fun x515 =>
Option.bind (α:=(Int×Int×(List Int))) (if x515=true then ((lvEnd s439.2.2.1 (IntKind.i64.wrap (s439.2.1+1)) (IntKind.i64.wrap (s439.1+(IntKind.i64.wrap ((IntKind.i64.wrap (4+((x485.1).length:Int)))+((x485.2).length:Int)))))).bind fun x523 =>
some (x523.2.2,x523.2.1,x523.1))
 else (some (IntKind.i64.wrap (s439.1+(IntKind.i64.wrap ((IntKind.i64.wrap (4+((x485.1).length:Int)))+((x485.2).length:Int)))),IntKind.i64.wrap (s439.2.1+1),s439.2.2.1))) fun r520=>some (r520.1,r520.2.1,r520.2.2))) fun r483=>some (.inl (r483.1,r483.2.1,r483.2.2,IntKind.i64.wrap (s439.2.2.2+1))))
 else (some (.inr (s439.1,s439.2.1,s439.2.2.1)))) (0,0,([]:List Int),0)) fun r265=>if 0<r265.2.1 then ((lvEnd r265.2.2 r265.2.1 r265.1).bind fun x527 =>
some x527.1)
 else (Option.bind (α:=(Int×Int×(List Int))) (if ((r265.2.2).length:Int)=0 then ((lvEnd r265.2.2 r265.2.1 r265.1).bind fun x537 =>
some (x537.2.2,x537.2.1,x537.1))
 else (some (r265.1,r265.2.1,r265.2.2))) fun r534=>some r534.2.2)
noncomputable def m_tree_compare (x0_:T_api_Pair) (x1_:T_api_Pair):Option Int :=
(cmpB x0_.1 x1_.1).bind fun x13 =>
some x13
noncomputable def m_tree_rises (x0_:List T_api_Pair):Option Bool :=
Option.bind (α:=(Unit) ⊕ Bool) (loopO (fun (s44:Int)=>if s44<((x0_).length:Int) then ((idxO x0_ (IntKind.i64.wrap (s44 - 1))).bind fun x46 =>
(idxO x0_ s44).bind fun x49 =>
(m_tree_compare x46 x49).bind fun x51 =>
if 0≤x51 then (none)
 else (some (.inl (IntKind.i64.wrap (s44+1)))))
 else (some (.inr (.inl ())))) 1) fun o27=>Sum.elim (fun r27=>some true) (fun rv=>some rv) o27
noncomputable def m_tree_cut_api_Pair_ (x0_:List T_api_Pair) (x1_:List Int):Option (List (List T_api_Pair)) :=
Option.bind (α:=((List (List T_api_Pair)))) (loopO (fun (s72:(List T_api_Pair)×(List (List T_api_Pair))×Int)=>if s72.2.2<((x1_).length:Int) then ((idxO x1_ s72.2.2).bind fun x76 =>
(slcO s72.1 0 x76).bind fun x80 =>
(appO s72.2.1 ([x80])).bind fun x83 =>
(slcO s72.1 x76 ((s72.1).length:Int)).bind fun x85 =>
some (.inl (x85,x83,IntKind.i64.wrap (s72.2.2+1))))
 else (some (.inr s72.2.1))) (x0_,[],0)) fun r44=>some r44
noncomputable def trPut (bag:(List UInt8)→Option (List UInt8)) (n:T_api_Node) (first:List UInt8):Option (T_api_Kid×Int×((List UInt8)→Option (List UInt8))) :=
(ndWrite n).bind fun x7 =>
if x7.2=0 then ((shaSum x7.1).bind fun x10 =>
some ((first,x10),0,fset x10 x7.1 bag))
 else (none)
noncomputable def trBuild (pairs:List T_api_Pair):Option ((List UInt8)×((List UInt8)→Option (List UInt8))×Int) :=
(m_tree_rises pairs).bind fun x5 =>
if (!x5)=true then (none)
 else ((m_shape_Leaves pairs).bind fun x8 =>
(m_tree_cut_api_Pair_ pairs x8).bind fun x10 =>
Option.bind (α:=(((List UInt8)→Option (List UInt8))×(List T_api_Kid)) ⊕ ((List UInt8)×((List UInt8)→Option (List UInt8))×Int)) (loopO (fun (s325:((List UInt8)→Option (List UInt8))×(List T_api_Kid)×Int)=>if s325.2.2<((x10).length:Int) then (Option.bind (α:=(((List UInt8)→Option (List UInt8))×(List T_api_Kid)) ⊕ ((List UInt8)×((List UInt8)→Option (List UInt8))×Int)) ((idxO x10 s325.2.2).bind fun x359 =>
Option.bind (α:=((List UInt8))) (if 0<((x359).length:Int) then ((idxO x359 0).bind fun x374 =>
some x374.1)
 else (some ([]))) fun r371=>(trPut s325.1 (0,x359,([]:List T_api_Kid)) r371).bind fun x381 =>
if x381.2.1=0 then ((appO s325.2.1 ([x381.1])).bind fun x387 =>
some (.inl (x381.2.2,x387)))
 else (none)) fun o357=>Sum.elim (fun r357=>some (.inl (r357.1,r357.2,IntKind.i64.wrap (s325.2.2+1)))) (fun rv=>some (.inr (.inr rv))) o357)
 else (some (.inr (.inl (s325.1,s325.2.1))))) ((fnil:(List UInt8)→Option (List UInt8)),[],0)) fun o199=>Sum.elim (fun r199=>Option.bind (α:=(Unit) ⊕ ((List UInt8)×((List UInt8)→Option (List UInt8))×Int)) (loopO (fun (s395:Unit)=>if 1<((r199.2).length:Int) then (none)
 else (some (.inr (.inl ())))) ()) fun o392=>Sum.elim (fun r392=>(idxO r199.2 0).bind fun x397 =>
some (x397.2,r199.1,0)) (fun rv=>some rv) o392) (fun rv=>some rv) o199)
noncomputable def trFollows (w_:T_tree_walker_o) (list:List T_api_Pair) (root:Bool):Option Bool :=
if ((list).length:Int)=0 then (some root)
 else (if ((w_).length:Int)=0 then (some true)
 else ((idxO w_ (IntKind.i64.wrap (((w_).length:Int) - 1))).bind fun x6 =>
(idxO list 0).bind fun x9 =>
(m_tree_compare x6 x9).bind fun x12 =>
some (decide (x12<0))))
noncomputable def trWalk (w_:((List UInt8)→Option (List UInt8))×(List T_api_Pair)) (h:List UInt8) (level:Int):Option (Int×T_tree_walker_o) :=
if (!((w_.1 h).isSome))=true then (none)
 else ((shaSum ((w_.1 h).getD [])).bind fun x8 =>
if x8=h then ((ndRead ((w_.1 h).getD [])).bind fun x11 =>
Option.bind (α:=((List T_api_Pair)×Bool)) (if x11.2=0 then (if 0≤level then (if x11.1.1=level then (if x11.1.1=0 then ((trFollows w_.2 x11.1.2.1 (decide (level<0))).bind fun x28 =>
some (x11.1.2.1,!x28))
 else (some (x11.1.2.1,false)))
 else (some (x11.1.2.1,true)))
 else (if x11.1.1=0 then ((trFollows w_.2 x11.1.2.1 (decide (level<0))).bind fun x30 =>
some (x11.1.2.1,!x30))
 else (some (x11.1.2.1,false))))
 else (some (x11.1.2.1,true))) fun r22=>if r22.2=true then (none)
 else ((appO w_.2 r22.1).bind fun x35 =>
Option.bind (α:=(Unit) ⊕ (Int×T_tree_walker_o)) (loopO (fun (s63:Unit)=>if 0<((x11.1.2.2).length:Int) then ((idxO x11.1.2.2 0).bind fun x65 =>
none)
 else (some (.inr (.inl ())))) ()) fun o52=>Sum.elim (fun r52=>some (0,x35)) (fun rv=>some rv) o52))
 else (none))
noncomputable def trWhole (bag:(List UInt8)→Option (List UInt8)) (root:List UInt8):Option ((List T_api_Pair)×((List UInt8)→Option (List UInt8))×Int) :=
(trWalk (bag,([]:List T_api_Pair)) root (-1)).bind fun x7 =>
if x7.1=0 then ((trBuild x7.2).bind fun x11 =>
if x11.2.2=0 then (if x11.1=root then (some (x7.2,x11.2.1,0))
 else (none))
 else (none))
 else (none)
noncomputable def trAll (bag:(List UInt8)→Option (List UInt8)) (root:List UInt8):Option ((List T_api_Pair)×Int) :=
(trWhole bag root).bind fun x5 =>
some (x5.1,x5.2.2)
noncomputable def cutPre (s:List UInt8) (p:List UInt8):Option ((List UInt8)×Bool):=some (Lib.trimPrefix s p,Lib.hasPrefix s p)
noncomputable def genSplit (s:List UInt8) (sep:List UInt8) (sv:Int) (n:Int):Option (List (List UInt8)):=splitO s sep sv n
noncomputable def strJoin (xs:List (List UInt8)) (sep:List UInt8):Option (List UInt8):=joinO xs sep
noncomputable def strSplit (s:List UInt8) (sep:List UInt8):Option (List (List UInt8)) :=
(genSplit s sep 0 (-1)).bind fun x2 =>
some x2
noncomputable def m_path_Name (x0_:List UInt8):Option Bool :=
Option.bind (α:=(Unit) ⊕ Bool) (loopO (fun (s38:Int)=>if s38<((x0_).length:Int) then ((idxO x0_ s38).bind fun x40 =>
if ((x40).toNat:Int)<33 then (none)
 else ((idxO x0_ s38).bind fun x42 =>
if 126<((x42).toNat:Int) then (none)
 else ((idxO x0_ s38).bind fun x44 =>
if ((x44).toNat:Int)=47 then (none)
 else (some (.inl (IntKind.i64.wrap (s38+1)))))))
 else (some (.inr (.inl ())))) 0) fun o23=>Sum.elim (fun r23=>if x0_=([]) then (some false)
 else (some (decide (((x0_).length:Int)≤8)))) (fun rv=>some rv) o23
noncomputable def m_path_names_1 (x0_:List UInt8):Option Bool :=
(m_path_Name x0_).bind fun x1 =>
some (!x1)
noncomputable def ixName (s:List (List UInt8)):Option Int :=
Option.bind (α:=(Unit) ⊕ Int) (loopO (fun (s34:Int)=>if s34<((s).length:Int) then ((idxO s s34).bind fun x36 =>
(m_path_names_1 x36).bind fun x39 =>
if x39=true then (some (.inr (.inr s34)))
 else (some (.inl (IntKind.i64.wrap (s34+1)))))
 else (some (.inr (.inl ())))) 0) fun o21=>Sum.elim (fun r21=>some (-1)) (fun rv=>some rv) o21
noncomputable def anyBad (s:List (List UInt8)):Option Bool :=
(ixName s).bind fun x2 =>
some (decide (0≤x2))
noncomputable def pNames (p:List UInt8):Option ((List (List UInt8))×Bool) :=
if p=([47]) then (some (([]:List (List UInt8)),true))
 else ((cutPre p ([47])).bind fun x3 =>
(strSplit x3.1 ([47])).bind fun x4 =>
if (!x3.2)=true then (none)
 else (if 24<((p).length:Int) then (none)
 else ((anyBad x4).bind fun x8 =>
if x8=true then (none)
 else (some (x4,true)))))
noncomputable def m_path_join (x0_:List (List UInt8)):Option (List UInt8) :=
(strJoin x0_ ([47])).bind fun x2 =>
(appO ([47]) x2).bind fun x3 =>
some x3
noncomputable def m_path_Check (x0_:List UInt8):Option Int :=
(pNames x0_).bind fun x1 =>
if (!x1.2)=true then (none)
 else (some 0)
noncomputable def m_path_Parent (x0_:List UInt8):Option (List UInt8) :=
(pNames x0_).bind fun x1 =>
if ((x1.1).length:Int)=0 then (none)
 else ((slcO x1.1 0 (IntKind.i64.wrap (((x1.1).length:Int) - 1))).bind fun x5 =>
(m_path_join x5).bind fun x6 =>
some x6)
noncomputable def m_path_Ancestors (x0_:List UInt8):Option (List (List UInt8)) :=
(pNames x0_).bind fun x2 =>
Option.bind (α:=((List (List UInt8)))) (loopO (fun (s47:(List (List UInt8))×Int)=>if s47.2<((x2.1).length:Int) then ((slcO x2.1 0 s47.2).bind fun x51 =>
(m_path_join x51).bind fun x52 =>
(appO s47.1 ([x52])).bind fun x55 =>
some (.inl (x55,IntKind.i64.wrap (s47.2+1))))
 else (some (.inr s47.1))) ([],0)) fun r29=>some r29
noncomputable def sortPs (xs:List T_api_Pair):Option (List T_api_Pair):=sortPO xs
noncomputable def sLook (s:(List UInt8)→Option T_files_file) (p:List UInt8):Option (T_files_file×Int) :=
(m_path_Check p).bind fun x4 =>
if x4=0 then ((m_path_Ancestors p).bind fun x6 =>
Option.bind (α:=(Unit) ⊕ (T_files_file×Int)) (loopO (fun (s65:Int)=>if s65<((x6).length:Int) then ((idxO x6 s65).bind fun x67 =>
if (!((s x67).isSome))=true then (none)
 else (if (!(((s x67).getD (false,[])).1))=true then (none)
 else (some (.inl (IntKind.i64.wrap (s65+1))))))
 else (some (.inr (.inl ())))) 0) fun o42=>Sum.elim (fun r42=>if (!((s p).isSome))=true then (none)
 else (some (((s p).getD (false,[])),0))) (fun rv=>some rv) o42)
 else (none)
noncomputable def sRoom (s:(List UInt8)→Option T_files_file) (p:List UInt8):Option Int :=
(m_path_Check p).bind fun x2 =>
if x2=0 then (if p=([47]) then (none)
 else ((m_path_Parent p).bind fun x5 =>
(sLook s x5).bind fun x6 =>
if x6.2=0 then (if (!x6.1.1)=true then (none)
 else (if ((s p).isSome)=true then (none)
 else (some 0)))
 else (none)))
 else (none)
noncomputable def sSound (s:(List UInt8)→Option T_files_file):Option Bool :=
detM s (fun l39=>(foldO (fun (s39:Unit) (x39:(List UInt8)×T_files_file)=>(m_path_Check x39.1).bind fun x47 =>
if x47=0 then (if 192<((x39.2.2).length:Int) then (none)
 else (if x39.1=([47]) then (some (.inl ()))
 else ((m_path_Parent x39.1).bind fun x53 =>
if (!(((s x53).getD (false,[])).1))=true then (none)
 else (some (.inl ())))))
 else (none)) () l39).bind (Sum.elim (fun (s39:Unit)=>some (((s ([47])).getD (false,[])).1)) some))
noncomputable def sDo (s:(List UInt8)→Option T_files_file) (o:T_api_Op):Option (T_api_Answer×((List UInt8)→Option T_files_file)) :=
Option.bind (α:=(Int×((List UInt8)→Option T_files_file)) ⊕ (T_api_Answer×((List UInt8)→Option T_files_file))) (Option.bind (α:=(Bool)) (if o.1=1 then (some (decide (o.1=1)))
 else (some (decide (o.1=2)))) fun r24=>Option.bind (α:=(Int×((List UInt8)→Option T_files_file)) ⊕ (T_api_Answer×((List UInt8)→Option T_files_file))) (if r24=true then ((sRoom s o.2.1).bind fun x33 =>
Option.bind (α:=(((List UInt8)→Option T_files_file))) (if x33=0 then (some (fset o.2.1 (decide (o.1=2),([]:List UInt8)) s))
 else (some s)) fun r35=>some (.inl (x33,r35)))
 else (none)) fun o31=>Sum.elim (fun r31=>some (.inl (r31.1,r31.2))) (fun rv=>some (.inr rv)) o31) fun o22=>Sum.elim (fun r22=>some ((r22.1,0,([]:List UInt8),([]:List (List UInt8))),r22.2)) (fun rv=>some rv) o22
noncomputable def fRead (list:List T_api_Pair):Option ((List UInt8)→Option T_files_file) :=
Option.bind (α:=(((List UInt8)→Option T_files_file))) (loopO (fun (s717:((List UInt8)→Option T_files_file)×Int)=>if s717.2<((list).length:Int) then (Option.bind (α:=(((List UInt8)→Option T_files_file))) ((idxO list s717.2).bind fun x790 =>
Option.bind (α:=((List UInt8)×(List UInt8))) (if 0<((x790.1).length:Int) then ((slcO x790.1 0 1).bind fun x806 =>
(slcO x790.1 1 ((x790.1).length:Int)).bind fun x808 =>
some (x806,x808))
 else (some ([],[]))) fun r803=>Option.bind (α:=(((List UInt8)→Option T_files_file))) (Option.bind (α:=(((List UInt8)→Option T_files_file))) (if r803.1=([99]) then (none)
 else (Option.bind (α:=(((List UInt8)→Option T_files_file))) (if r803.1=([110]) then (if ((x790.2).length:Int)=1 then ((idxO x790.2 0).bind fun x857 =>
some (fset r803.2 (decide (((x857).toNat:Int)=100),([]:List UInt8)) s717.1))
 else (some (fset r803.2 (false,([]:List UInt8)) s717.1)))
 else (some s717.1)) fun r854=>some r854)) fun r847=>some r847) fun r834=>some r834) fun r789=>some (.inl (r789,IntKind.i64.wrap (s717.2+1))))
 else (some (.inr s717.1))) ((fnil:(List UInt8)→Option T_files_file),0)) fun r432=>detM r432 (fun l917=>(foldO (fun (s917:((List UInt8)→Option T_files_file)) (x917:(List UInt8)×T_files_file)=>Option.bind (α:=(((List UInt8)→Option T_files_file))) (Option.bind (α:=(((List UInt8)→Option T_files_file))) (if (!x917.2.1)=true then (some (fset x917.1 (false,(((fnil:(List UInt8)→Option (List UInt8)) x917.1).getD [])) s917))
 else (some s917)) fun r941=>some r941) fun r932=>some (.inl r932)) r432 l917).bind (Sum.elim (fun (s917:((List UInt8)→Option T_files_file))=>some s917) some))
noncomputable def sPairs (s:(List UInt8)→Option T_files_file):Option (List T_api_Pair) :=
detM s (fun l145=>(foldO (fun (s145:(List T_api_Pair)) (x145:(List UInt8)×T_files_file)=>Option.bind (α:=((List T_api_Pair))) ((appO ([110]) x145.1).bind fun x188 =>
if x145.2.1=true then ((u8O 100).bind fun x194 =>
(appO s145 ([(x188,[x194])])).bind fun x197 =>
some x197)
 else ((u8O 102).bind fun x200 =>
(penRaw ([]:List UInt8) ([x200])).bind fun x201 =>
(penUint x201 (IntKind.u64.wrap (((x145.2.2).length:Int))) 2).bind fun x202 =>
(penData x202.2).bind fun x203 =>
(appO s145 ([(x188,x203.1)])).bind fun x207 =>
(chunkN 64 (x145.2.2).length).bind fun x210 =>
Option.bind (α:=(Unit) ⊕ Empty) (foldO (fun (s214:Unit) (x214:List UInt8)=>none) () (chunkL x210 x145.2.2)) fun o214=>Sum.elim (fun s214=>some x207) (fun r214=>none) o214)) fun r182=>some (.inl r182)) ([]:List T_api_Pair) l145).bind (Sum.elim (fun (s145:(List T_api_Pair))=>(sortPs s145).bind fun x149 =>
some x149) some))
noncomputable def mClone (s:(List UInt8)→Option T_files_file):Option ((List UInt8)→Option T_files_file):=some s
noncomputable def fDo (files:List T_api_Pair) (o:T_api_Op):Option ((List T_api_Pair)×T_api_Answer) :=
(fRead files).bind fun x7 =>
(mClone x7).bind fun x9 =>
(sDo x7 o).bind fun x11 =>
if x11.1.1=0 then ((sPairs x11.2).bind fun x19 =>
some (x19,(x11.1.1,x11.1.2.1,x11.1.2.2.1,x11.1.2.2.2)))
 else (none)
noncomputable def bEqual (xs:List UInt8) (ys:List UInt8):Option Bool :=
some (decide (xs=ys))
noncomputable def m_files_same (x0_:T_api_Pair) (x1_:T_api_Pair):Option Bool :=
(bEqual x0_.1 x1_.1).bind fun x13 =>
if x13=true then ((bEqual x0_.2 x1_.2).bind fun x15 =>
some x15)
 else (some false)
noncomputable def eqPairs (xs:List T_api_Pair) (ys:List T_api_Pair):Option Bool :=
if ((xs).length:Int)=((ys).length:Int) then (Option.bind (α:=(Unit) ⊕ Bool) (loopO (fun (s61:Int)=>if s61<((xs).length:Int) then ((idxO xs s61).bind fun x63 =>
(idxO ys s61).bind fun x67 =>
(m_files_same x63 x67).bind fun x71 =>
if (!x71)=true then (some (.inr (.inr false)))
 else (some (.inl (IntKind.i64.wrap (s61+1)))))
 else (some (.inr (.inl ())))) 0) fun o38=>Sum.elim (fun r38=>some true) (fun rv=>some rv) o38)
 else (some false)
noncomputable def fCheck (files:List T_api_Pair):Option Int :=
(fRead files).bind fun x2 =>
(sSound x2).bind fun x4 =>
if (!x4)=true then (none)
 else ((sPairs x2).bind fun x6 =>
(eqPairs x6 files).bind fun x8 =>
if (!x8)=true then (none)
 else (some 0))
noncomputable def fNew :Option (List T_api_Pair) :=
(sPairs (fset ([47]) (true,([]:List UInt8)) (fnil:(List UInt8)→Option T_files_file))).bind fun x3 =>
some x3
noncomputable def cloneBy (s:List UInt8):Option (List UInt8) :=
(appO ([]:List UInt8) s).bind fun x5 =>
some x5
noncomputable def nPairs (list:List T_api_Pair):Option (List T_api_Pair) :=
Option.bind (α:=((List T_api_Pair))) (loopO (fun (s91:(List T_api_Pair)×Int)=>if s91.2<((list).length:Int) then ((idxO list s91.2).bind fun x94 =>
(cloneBy x94.1).bind fun x102 =>
(cloneBy x94.2).bind fun x104 =>
(appO s91.1 ([(x102,x104)])).bind fun x108 =>
some (.inl (x108,IntKind.i64.wrap (s91.2+1))))
 else (some (.inr s91.1))) ([],0)) fun r55=>some r55
noncomputable def nCopied (s:T_api_State):Option T_api_State :=
(nPairs s.1).bind fun x10 =>
Option.bind (α:=(Unit)) (loopO (fun (s40:Unit)=>if 0<((s.2).length:Int) then ((idxO s.2 0).bind fun x42 =>
none)
 else (some (.inr ()))) ()) fun r29=>some ((x10,([]:List T_api_Snap)).1,(x10,([]:List T_api_Snap)).2)
noncomputable def nNew :Option T_api_State :=
(fNew).bind fun x3 =>
some (x3,([]:List T_api_Snap))
noncomputable def nUnits (s:T_api_State):Option Int :=
Option.bind (α:=(Unit)) (loopO (fun (s34:Unit)=>if 0<((s.2).length:Int) then ((idxO s.2 0).bind fun x36 =>
none)
 else (some (.inr ()))) ()) fun r23=>some ((s.1).length:Int)
noncomputable def nCheck (s:T_api_State):Option Int :=
(fCheck s.1).bind fun x7 =>
if x7=0 then ((nUnits (s.1,s.2)).bind fun x9 =>
Option.bind (α:=(Unit)) (loopO (fun (s37:Unit)=>if 0<((s.2).length:Int) then ((idxO s.2 0).bind fun x39 =>
none)
 else (some (.inr ()))) ()) fun r26=>if 48<x9 then (none)
 else (some 0))
 else (Option.bind (α:=(Unit)) (loopO (fun (s71:Unit)=>if 0<((s.2).length:Int) then ((idxO s.2 0).bind fun x73 =>
none)
 else (some (.inr ()))) ()) fun r60=>none)
noncomputable def nDo (s:T_api_State) (o:T_api_Op) (gen:Int):Option (T_api_State×T_api_Answer) :=
(nCopied s).bind fun x9 =>
Option.bind (α:=(T_api_State_o×T_api_Answer×T_api_State)) (Option.bind (α:=(Bool)) (if o.1=10 then (some (decide (o.1=10)))
 else (Option.bind (α:=(Bool)) (if o.1=11 then (some (decide (o.1=11)))
 else (some (decide (o.1=12)))) fun r48=>some r48)) fun r45=>if r45=true then (none)
 else (if o.1=13 then (none)
 else ((fDo s.1 (o.1,o.2.1,o.2.2.1,o.2.2.2.1,o.2.2.2.2.1,o.2.2.2.2.2)).bind fun x56 =>
some ((x56.1,(x9.1,x9.2).2),x56.2,(s.1,s.2))))) fun r38=>if r38.2.1.1=0 then ((nUnits (r38.1.1,r38.1.2)).bind fun x72 =>
if 48<x72 then (none)
 else (if r38.2.1.1=0 then (some ((r38.1.1,r38.1.2),(r38.2.1.1,r38.2.1.2.1,r38.2.1.2.2.1,r38.2.1.2.2.2)))
 else (none)))
 else (if r38.2.1.1=0 then (some ((r38.1.1,r38.1.2),(r38.2.1.1,r38.2.1.2.1,r38.2.1.2.2.1,r38.2.1.2.2.2)))
 else (none))
noncomputable def isNaNi (x:Int):Option Bool :=
some (!decide (x=x))
noncomputable def cmpInt (x:Int) (y:Int):Option Int :=
(isNaNi x).bind fun x1 =>
(isNaNi y).bind fun x2 =>
if x1=true then (if x2=true then (some 0)
 else (some (-1)))
 else (if x2=true then (some 1)
 else (if x<y then (some (-1))
 else (if y<x then (some 1)
 else (some 0))))
noncomputable def tCompare (a_:T_api_Seat) (b_:T_api_Seat):Option Int :=
(cmpInt a_.1 b_.1).bind fun x7 =>
some x7
noncomputable def bsSeatO (xs:List T_api_Seat) (t_:T_api_Seat):Option (Int×Bool) :=
Option.bind (α:=(Int)) (loopO (fun (s86:Int×Int)=>if s86.1<s86.2 then (Option.bind (α:=(Int×Int)) ((idxO xs (IntKind.i64.wrap (shrI .u64 (IntKind.u64.wrap (IntKind.i64.wrap (s86.1+s86.2))) 1))).bind fun x96 =>
(tCompare x96 t_).bind fun x99 =>
Option.bind (α:=(Int×Int)) (if x99<0 then (some (IntKind.i64.wrap ((IntKind.i64.wrap (shrI .u64 (IntKind.u64.wrap (IntKind.i64.wrap (s86.1+s86.2))) 1))+1),s86.2))
 else (some (s86.1,IntKind.i64.wrap (shrI .u64 (IntKind.u64.wrap (IntKind.i64.wrap (s86.1+s86.2))) 1)))) fun r101=>some (r101.1,r101.2)) fun r95=>some (.inl (r95.1,r95.2)))
 else (some (.inr s86.1))) (0,((xs).length:Int))) fun r53=>if r53<((xs).length:Int) then ((idxO xs r53).bind fun x104 =>
(tCompare x104 t_).bind fun x107 =>
some (r53,decide (x107=0)))
 else (some (r53,false))
noncomputable def tFindO (seats:List T_api_Seat) (client:Int):Option (Int×Bool) :=
(bsSeatO seats (client,0,(0,0,([]:List UInt8),([]:List (List UInt8))))).bind fun x2 =>
some (x2.1,x2.2)
noncomputable def oShort (n:Int):Option Bool :=
if 0≤n then (some (decide (n≤65535)))
 else (some false)
noncomputable def oWrong (s:List UInt8):Option Bool :=
if s=([]) then (some true)
 else (some (decide (8<((s).length:Int))))
noncomputable def ixWrong (s:List (List UInt8)):Option Int :=
Option.bind (α:=(Unit) ⊕ Int) (loopO (fun (s34:Int)=>if s34<((s).length:Int) then ((idxO s s34).bind fun x36 =>
(oWrong x36).bind fun x39 =>
if x39=true then (some (.inr (.inr s34)))
 else (some (.inl (IntKind.i64.wrap (s34+1)))))
 else (some (.inr (.inl ())))) 0) fun o21=>Sum.elim (fun r21=>some (-1)) (fun rv=>some rv) o21
noncomputable def anyWrong (s:List (List UInt8)):Option Bool :=
(ixWrong s).bind fun x2 =>
some (decide (0≤x2))
noncomputable def oWriteA (a_:T_api_Answer):Option ((List UInt8)×Int) :=
(oShort a_.1).bind fun x8 =>
if (!x8)=true then (some (([]:List UInt8),1))
 else ((oShort a_.2.1).bind fun x10 =>
if (!x10)=true then (some (([]:List UInt8),1))
 else (if 64<((a_.2.2.1).length:Int) then (some (([]:List UInt8),1))
 else (if 6<((a_.2.2.2).length:Int) then (some (([]:List UInt8),1))
 else ((anyWrong a_.2.2.2).bind fun x14 =>
if x14=true then (some (([]:List UInt8),1))
 else ((penUint ([]:List UInt8) (IntKind.u64.wrap (a_.1)) 2).bind fun x17 =>
(penUint x17.2 (IntKind.u64.wrap (a_.2.1)) 2).bind fun x18 =>
(penText x18.2 a_.2.2.1).bind fun x19 =>
(penUint x19.2 (IntKind.u64.wrap (((a_.2.2.2).length:Int))) 1).bind fun x20 =>
Option.bind (α:=(T_pack_Pen_o)) (loopO (fun (s53:T_pack_Pen_o×Int)=>if s53.2<((a_.2.2.2).length:Int) then ((idxO a_.2.2.2 s53.2).bind fun x55 =>
(penText s53.1 x55).bind fun x59 =>
some (.inl (x59.2,IntKind.i64.wrap (s53.2+1))))
 else (some (.inr s53.1))) (x20.2,0)) fun r40=>(penData r40).bind fun x60 =>
some (x60.1,0))))))
noncomputable def insSeat (s:List T_api_Seat) (i_:Int) (v:List T_api_Seat):Option (List T_api_Seat):=insO s i_ v
noncomputable def cloneT (s:List (List UInt8)):Option (List (List UInt8)) :=
(appO ([]:List (List UInt8)) s).bind fun x5 =>
some x5
noncomputable def bsSeat (xs:List T_api_Seat) (t_:T_api_Seat):Option (Int×Bool) :=
Option.bind (α:=(Int)) (loopO (fun (s86:Int×Int)=>if s86.1<s86.2 then (Option.bind (α:=(Int×Int)) ((idxO xs (IntKind.i64.wrap (shrI .u64 (IntKind.u64.wrap (IntKind.i64.wrap (s86.1+s86.2))) 1))).bind fun x96 =>
(tCompare x96 t_).bind fun x99 =>
Option.bind (α:=(Int×Int)) (if x99<0 then (some (IntKind.i64.wrap ((IntKind.i64.wrap (shrI .u64 (IntKind.u64.wrap (IntKind.i64.wrap (s86.1+s86.2))) 1))+1),s86.2))
 else (some (s86.1,IntKind.i64.wrap (shrI .u64 (IntKind.u64.wrap (IntKind.i64.wrap (s86.1+s86.2))) 1)))) fun r101=>some (r101.1,r101.2)) fun r95=>some (.inl (r95.1,r95.2)))
 else (some (.inr s86.1))) (0,((xs).length:Int))) fun r53=>if r53<((xs).length:Int) then ((idxO xs r53).bind fun x104 =>
(tCompare x104 t_).bind fun x107 =>
some (r53,decide (x107=0)))
 else (some (r53,false))
noncomputable def tFind (seats:List T_api_Seat) (client:Int):Option (Int×Bool) :=
(bsSeat seats (client,0,(0,0,([]:List UInt8),([]:List (List UInt8))))).bind fun x2 =>
some (x2.1,x2.2)
noncomputable def tAnswer (a_:T_api_Answer):Option T_api_Answer :=
(cloneBy a_.2.2.1).bind fun x9 =>
(cloneT a_.2.2.2).bind fun x11 =>
some (a_.1,a_.2.1,x9,x11)
noncomputable def tCopied (seats:List T_api_Seat):Option (List T_api_Seat) :=
Option.bind (α:=(Unit)) (loopO (fun (s55:Unit)=>if 0<((seats).length:Int) then ((idxO seats 0).bind fun x57 =>
none)
 else (some (.inr ()))) ()) fun r34=>some ([]:List T_api_Seat)
noncomputable def tLook (seats:List T_api_Seat) (client:Int) (number:Int):Option (Int×T_api_Answer) :=
(tFind seats client).bind fun x4 =>
if x4.2=true then (none)
 else (if 0<number then (some (0,(0,0,([]:List UInt8),([]:List (List UInt8)))))
 else (if x4.2=true then (if number=0 then (none)
 else (none))
 else (none)))
noncomputable def tPut (seats:List T_api_Seat) (s:T_api_Seat):Option (List T_api_Seat) :=
(tCopied seats).bind fun x10 =>
(tAnswer (s.2.2.1,s.2.2.2.1,s.2.2.2.2.1,s.2.2.2.2.2)).bind fun x12 =>
(tFindO x10 s.1).bind fun x18 =>
if x18.2=true then (none)
 else ((insSeat x10 x18.1 ([(s.1,s.2.1,(x12.1,x12.2.1,x12.2.2.1,x12.2.2.2))])).bind fun x21 =>
some x21)
noncomputable def tNew :Option T_api_Whole :=
(nNew).bind fun x3 =>
some ((x3.1,x3.2),([]:List T_api_Seat))
noncomputable def tValid (client:Int):Option Bool :=
if 0≤client then (some (decide (client<4)))
 else (some false)
noncomputable def tCheck (w_:T_api_Whole):Option Int :=
(nCheck (w_.1.1,w_.1.2)).bind fun x10 =>
Option.bind (α:=(Bool)) (loopO (fun (s118:Bool×Int)=>if s118.2<((w_.2).length:Int) then ((idxO w_.2 s118.2).bind fun x120 =>
(oWriteA (x120.2.2.1,x120.2.2.2.1,x120.2.2.2.2.1,x120.2.2.2.2.2)).bind fun x129 =>
if s118.1=true then (some (.inl (true,IntKind.i64.wrap (s118.2+1))))
 else (if x129.2=0 then ((tValid x120.1).bind fun x133 =>
if (!x133)=true then (some (.inl (true,IntKind.i64.wrap (s118.2+1))))
 else (if x120.2.1=0 then (some (.inl (true,IntKind.i64.wrap (s118.2+1))))
 else (if 0<s118.2 then ((idxO w_.2 (IntKind.i64.wrap (s118.2 - 1))).bind fun x137 =>
(tCompare x137 (x120.1,x120.2.1,(x120.2.2.1,x120.2.2.2.1,x120.2.2.2.2.1,x120.2.2.2.2.2))).bind fun x139 =>
some (.inl (decide (0≤x139),IntKind.i64.wrap (s118.2+1))))
 else (some (.inl (false,IntKind.i64.wrap (s118.2+1)))))))
 else (some (.inl (true,IntKind.i64.wrap (s118.2+1))))))
 else (some (.inr s118.1))) (!decide (x10=0),0)) fun r75=>if r75=true then (none)
 else (some 0)
noncomputable def tDo (w_:T_api_Whole) (c:T_api_Call) (gen:Int):Option (T_api_Whole×T_api_Answer×Int) :=
(tValid c.1).bind fun x19 =>
if (!x19)=true then (none)
 else ((tLook w_.2 c.1 c.2.1).bind fun x21 =>
if x21.1=0 then ((nDo (w_.1.1,w_.1.2) (c.2.2.1,c.2.2.2.1,c.2.2.2.2.1,c.2.2.2.2.2.1,c.2.2.2.2.2.2.1,c.2.2.2.2.2.2.2) gen).bind fun x29 =>
(tPut w_.2 (c.1,c.2.1,(x29.2.1,x29.2.2.1,x29.2.2.2.1,x29.2.2.2.2))).bind fun x41 =>
some (((x29.1.1,x29.1.2),x41),(x29.2.1,x29.2.2.1,x29.2.2.2.1,x29.2.2.2.2),x21.1))
 else (none))
noncomputable def oWrite (o:T_api_Op):Option ((List UInt8)×Int) :=
if o.1<1 then (some (([]:List UInt8),1))
 else (if 13<o.1 then (some (([]:List UInt8),1))
 else (if 32<((o.2.1).length:Int) then (some (([]:List UInt8),1))
 else (if 32<((o.2.2.1).length:Int) then (some (([]:List UInt8),1))
 else ((oShort o.2.2.2.1).bind fun x10 =>
if (!x10)=true then (some (([]:List UInt8),1))
 else ((oShort o.2.2.2.2.1).bind fun x12 =>
if (!x12)=true then (some (([]:List UInt8),1))
 else (if 64<((o.2.2.2.2.2).length:Int) then (some (([]:List UInt8),1))
 else ((penUint ([]:List UInt8) (IntKind.u64.wrap (o.1)) 1).bind fun x16 =>
(penUint x16.2 (IntKind.u64.wrap (o.2.2.2.1)) 2).bind fun x17 =>
(penUint x17.2 (IntKind.u64.wrap (o.2.2.2.2.1)) 2).bind fun x18 =>
(penText x18.2 o.2.1).bind fun x21 =>
(penText x21.2 o.2.2.1).bind fun x22 =>
(penText x22.2 o.2.2.2.2.2).bind fun x23 =>
(penData x23.2).bind fun x24 =>
some (x24.1,0))))))))
noncomputable def rdNum (r_:T_pack_Eye_o) (size:Int):Option (Int×T_pack_Eye_o) :=
(eyeUint r_ size).bind fun x2 =>
some (IntKind.i64.wrap (x2.1),x2.2.2)
noncomputable def rdText (r_:T_pack_Eye_o):Option ((List UInt8)×T_pack_Eye_o) :=
(eyeText r_).bind fun x3 =>
some (x3.1,x3.2.2)
noncomputable def m_oper_exactly (x0_:List UInt8) (x1_:List UInt8) (x2_:Int):Option Bool :=
if x2_=0 then ((equalB x0_ x1_).bind fun x4 =>
some x4)
 else (some false)
noncomputable def oRead (b:List UInt8):Option (T_api_Op×Int) :=
(newEye b).bind fun x4 =>
Option.bind (α:=(T_pack_Eye_o×(Int×Int×Int×(List UInt8)))) ((rdNum x4 1).bind fun x23 =>
(rdNum x23.2 2).bind fun x24 =>
(rdNum x24.2 2).bind fun x25 =>
some (x25.2,(x23.1,x24.1,x25.1,([]:List UInt8)))) fun r20=>Option.bind (α:=(T_pack_Eye_o×((List UInt8)×(List UInt8)×(List UInt8)))) ((rdText r20.1).bind fun x58 =>
(rdText x58.2).bind fun x60 =>
(rdText x60.2).bind fun x62 =>
some (x62.2,(x58.1,x60.1,x62.1))) fun r56=>(oWrite (r20.2.1,r56.2.1,r56.2.2.1,r20.2.2.1,r20.2.2.2.1,r56.2.2.2)).bind fun x78 =>
(m_oper_exactly b x78.1 x78.2).bind fun x80 =>
if (!x80)=true then (some ((0,[],[],0,0,([]:List UInt8)),22))
 else (some ((r20.2.1,r56.2.1,r56.2.2.1,r20.2.2.1,r20.2.2.2.1,r56.2.2.2),0))
noncomputable def oReadA (b:List UInt8):Option (T_api_Answer×Int) :=
(newEye b).bind fun x4 =>
Option.bind (α:=(T_pack_Eye_o×(Int×Int×(List UInt8)×(List (List UInt8))))) ((rdNum x4 2).bind fun x28 =>
(rdNum x28.2 2).bind fun x29 =>
(rdText x29.2).bind fun x30 =>
some (x30.2,(x28.1,x29.1,x30.1,([]:List (List UInt8))))) fun r24=>(rdNum r24.1 1).bind fun x45 =>
Option.bind (α:=(T_pack_Eye_o×(List (List UInt8)))) (loopO (fun (s84:T_pack_Eye_o×(List (List UInt8))×Int)=>if s84.2.2<(min x45.1 7) then ((rdText s84.1).bind fun x87 =>
(appO s84.2.1 ([x87.1])).bind fun x91 =>
some (.inl (x87.2,x91,IntKind.i64.wrap (s84.2.2+1))))
 else (some (.inr (s84.1,s84.2.1)))) (x45.2,r24.2.2.2.2,0)) fun r68=>(oWriteA (r24.2.1,r24.2.2.1,r24.2.2.2.1,r68.2)).bind fun x92 =>
(m_oper_exactly b x92.1 x92.2).bind fun x94 =>
if (!x94)=true then (some ((0,0,([]:List UInt8),([]:List (List UInt8))),22))
 else (some ((r24.2.1,r24.2.2.1,r24.2.2.2.1,r68.2),0))
noncomputable def cRight (r_:T_api_Record):Option ((List UInt8)×Bool) :=
if r_.1=0 then (Option.bind (α:=(T_api_Call×T_api_Op×T_api_Op)) (some ((r_.2.2.2.2.2.2.1,r_.2.2.2.2.2.2.2.1,r_.2.2.2.2.2.2.2.2),r_.2.2.2.2.2.2.2.2,r_.2.2.2.2.2.2.2.2)) fun r15=>if r15.2.1.1=0 then (if r15.2.1.2.1=([]) then (if r15.2.1.2.2.1=([]) then (if r15.2.1.2.2.2.1=0 then (if r15.2.1.2.2.2.2.1=0 then (if ((r15.2.1.2.2.2.2.2).length:Int)=0 then (if r_.2.1=0 then (if r_.2.2.1=((List.replicate 32 0):List UInt8) then (if r_.2.2.2.2.2.2.1=0 then (some (([]:List UInt8),decide (r_.2.2.2.2.2.2.2.1=0)))
 else (some (([]:List UInt8),false)))
 else (some (([]:List UInt8),false)))
 else (some (([]:List UInt8),false)))
 else (some (([]:List UInt8),false)))
 else (some (([]:List UInt8),false)))
 else (some (([]:List UInt8),false)))
 else (some (([]:List UInt8),false)))
 else (some (([]:List UInt8),false)))
 else (some (([]:List UInt8),false)))
 else ((oWrite r_.2.2.2.2.2.2.2.2).bind fun x42 =>
if x42.2=0 then (if 0≤r_.2.2.2.2.2.2.1 then (if r_.2.2.2.2.2.2.1<4 then (some (x42.1,decide (0<r_.2.2.2.2.2.2.2.1)))
 else (some (x42.1,false)))
 else (some (x42.1,false)))
 else (some (x42.1,false)))
noncomputable def cWrite (r_:T_api_Record):Option ((List UInt8)×Int) :=
(cRight r_).bind fun x4 =>
if (!x4.2)=true then (some (([]:List UInt8),1))
 else ((u8O 82).bind fun x9 =>
(penRaw ([]:List UInt8) ([x9])).bind fun x10 =>
(penUint x10 r_.1 8).bind fun x16 =>
(penUint x16.2 r_.2.1 8).bind fun x17 =>
(penRaw x17.2 r_.2.2.1).bind fun x19 =>
(penRaw x19 r_.2.2.2.1).bind fun x21 =>
(penRaw x21 r_.2.2.2.2.1).bind fun x23 =>
(penRaw x23 r_.2.2.2.2.2.1).bind fun x25 =>
(penUint x25 (IntKind.u64.wrap (r_.2.2.2.2.2.2.1)) 1).bind fun x27 =>
(penUint x27.2 r_.2.2.2.2.2.2.2.1 8).bind fun x28 =>
(penText x28.2 x4.1).bind fun x29 =>
(penData x29.2).bind fun x30 =>
some (x30.1,0))
noncomputable def cRead (block:List UInt8):Option (T_api_Record×Int) :=
(newEye block).bind fun x4 =>
(eyeUint x4 1).bind fun x6 =>
(eyeUint x6.2.2 8).bind fun x7 =>
(eyeUint x7.2.2 8).bind fun x8 =>
(eyeRaw x8.2.2 32).bind fun x10 =>
(eyeRaw x10.2.2 32).bind fun x13 =>
(eyeRaw x13.2.2 32).bind fun x16 =>
(eyeRaw x16.2.2 32).bind fun x19 =>
(eyeUint x19.2.2 1).bind fun x22 =>
(eyeUint x22.2.2 8).bind fun x23 =>
(eyeText x23.2.2).bind fun x24 =>
Option.bind (α:=(T_api_Op)) (if 0<((x24.1).length:Int) then ((oRead x24.1).bind fun x36 =>
some x36.1)
 else (some (0,[],[],0,0,([]:List UInt8)))) fun r29=>(cWrite (x7.1,x8.1,putAt (List.replicate 32 0) 0 ((x10.1).take 32),putAt (List.replicate 32 0) 0 ((x13.1).take 32),putAt (List.replicate 32 0) 0 ((x16.1).take 32),putAt (List.replicate 32 0) 0 ((x19.1).take 32),(IntKind.i64.wrap (x22.1),x23.1,r29))).bind fun x38 =>
if x38.2=0 then ((equalB x38.1 block).bind fun x41 =>
if (!x41)=true then (some ((0,0,(List.replicate 32 0),(List.replicate 32 0),(List.replicate 32 0),(List.replicate 32 0),(0,0,(0,[],[],0,0,([]:List UInt8)))),22))
 else (some ((x7.1,x8.1,putAt (List.replicate 32 0) 0 ((x10.1).take 32),putAt (List.replicate 32 0) 0 ((x13.1).take 32),putAt (List.replicate 32 0) 0 ((x16.1).take 32),putAt (List.replicate 32 0) 0 ((x19.1).take 32),(IntKind.i64.wrap (x22.1),x23.1,r29)),0)))
 else (some ((0,0,(List.replicate 32 0),(List.replicate 32 0),(List.replicate 32 0),(List.replicate 32 0),(0,0,(0,[],[],0,0,([]:List UInt8)))),22))
noncomputable def mapCopy (dst:(List UInt8)→Option (List UInt8)) (src:(List UInt8)→Option (List UInt8)):Option ((List UInt8)→Option (List UInt8)) :=
Option.bind (α:=(((List UInt8)→Option (List UInt8)))) (detM src (fun l26=>(foldO (fun (s26:((List UInt8)→Option (List UInt8))) (x26:(List UInt8)×(List UInt8))=>some (.inl (fset x26.1 x26.2 s26))) dst l26).bind (Sum.elim (fun (s26:((List UInt8)→Option (List UInt8)))=>some s26) some))) fun r17=>some r17
noncomputable def mkTree (m_:(List UInt8)→Option (List UInt8)) (pairs:List T_api_Pair):Option ((List UInt8)×((List UInt8)→Option (List UInt8))) :=
(trBuild pairs).bind fun x6 =>
(mapCopy m_ x6.2.1).bind fun x10 =>
some (x6.1,x10)
noncomputable def mkWhole (m_:(List UInt8)→Option (List UInt8)) (r_:T_api_Record) (w_:T_api_Whole):Option ((List UInt8)×((List UInt8)→Option (List UInt8))) :=
Option.bind (α:=(Unit)) (loopO (fun (s43:Unit)=>if 0<((w_.1.2).length:Int) then ((idxO w_.1.2 0).bind fun x45 =>
none)
 else (some (.inr ()))) ()) fun r32=>Option.bind (α:=((List T_api_Pair))) (loopO (fun (s262:(List T_api_Pair)×Int)=>if s262.2<((w_.2).length:Int) then ((idxO w_.2 s262.2).bind fun x265 =>
(oWriteA x265.2.2).bind fun x271 =>
(penUint ([]:List UInt8) x265.2.1 8).bind fun x273 =>
(penRaw x273.2 x271.1).bind fun x274 =>
Option.bind (α:=(T_pack_Pen_o×(List T_api_Pair))) ((u8O (IntKind.u8.wrap (x265.1))).bind fun x292 =>
(penData x274).bind fun x293 =>
(appO s262.1 ([([x292],x293.1)])).bind fun x297 =>
some (x293.2,x297)) fun r289=>some (.inl (r289.2,IntKind.i64.wrap (s262.2+1))))
 else (some (.inr s262.1))) ([],0)) fun r176=>(mkTree m_ w_.1.1).bind fun x305 =>
(mkTree x305.2 ([]:List T_api_Pair)).bind fun x307 =>
(mkTree x307.2 r176).bind fun x309 =>
(cWrite (r_.1,r_.2.1,r_.2.2.1,x305.1,x307.1,x309.1,r_.2.2.2.2.2.2)).bind fun x316 =>
(shaSum x316.1).bind fun x318 =>
some (x318,fset x318 x316.1 x309.2)
noncomputable def cBegin :Option ((List UInt8)×((List UInt8)→Option (List UInt8))) :=
(tNew).bind fun x6 =>
(mkWhole (fnil:(List UInt8)→Option (List UInt8)) (0,0,(List.replicate 32 0),(List.replicate 32 0),(List.replicate 32 0),(List.replicate 32 0),(0,0,(0,[],[],0,0,([]:List UInt8)))) x6).bind fun x8 =>
some (x8.1,x8.2)
noncomputable def cRecord (bag:(List UInt8)→Option (List UInt8)) (h:List UInt8):Option (T_api_Record×Int) :=
if (!((bag h).isSome))=true then (none)
 else ((shaSum ((bag h).getD [])).bind fun x9 =>
if x9=h then ((cRead ((bag h).getD [])).bind fun x12 =>
some (x12.1,x12.2))
 else (none))
noncomputable def ldTree (l_:((List UInt8)→Option (List UInt8))×Int) (h:List UInt8):Option ((List T_api_Pair)×Int) :=
if l_.2=0 then ((trAll l_.1 h).bind fun x5 =>
some (x5.1,x5.2))
 else (none)
noncomputable def ldAsk (l_:Int) (ok_:Bool):Option (Bool×Int) :=
if l_=0 then (if (!ok_)=true then (none)
 else (some (decide (l_=0),l_)))
 else (some (decide (l_=0),l_))
noncomputable def ldSeat (l_:Int) (p_:T_api_Pair):Option (T_api_Seat×Int) :=
if ((p_.1).length:Int)=1 then ((ldAsk l_ (decide (8≤((p_.2).length:Int)))).bind fun x10 =>
Option.bind (α:=(Int×(Int×Int×T_api_Answer))) (if x10.1=true then ((idxO p_.1 0).bind fun x27 =>
(newEye p_.2).bind fun x30 =>
(eyeUint x30 8).bind fun x32 =>
(slcO p_.2 8 ((p_.2).length:Int)).bind fun x34 =>
(oReadA x34).bind fun x35 =>
(ldAsk x10.2 (decide (x35.2=0))).bind fun x38 =>
some (x38.2,(IntKind.i64.wrap (((x27).toNat:Int)),x32.1,x35.1)))
 else (some (x10.2,(0,0,(0,0,([]:List UInt8),([]:List (List UInt8))))))) fun r24=>some ((r24.2.1,r24.2.2.1,r24.2.2.2),r24.1))
 else ((ldAsk l_ false).bind fun x39 =>
Option.bind (α:=(Int×(Int×Int×T_api_Answer))) (if x39.1=true then ((idxO p_.1 0).bind fun x56 =>
(newEye p_.2).bind fun x59 =>
(eyeUint x59 8).bind fun x61 =>
(slcO p_.2 8 ((p_.2).length:Int)).bind fun x63 =>
(oReadA x63).bind fun x64 =>
(ldAsk x39.2 (decide (x64.2=0))).bind fun x67 =>
some (x67.2,(IntKind.i64.wrap (((x56).toNat:Int)),x61.1,x64.1)))
 else (some (x39.2,(0,0,(0,0,([]:List UInt8),([]:List (List UInt8))))))) fun r53=>some ((r53.2.1,r53.2.2.1,r53.2.2.2),r53.1))
noncomputable def cLoad (bag:(List UInt8)→Option (List UInt8)) (head:List UInt8):Option (T_api_Record×T_api_Whole×Int) :=
(cRecord bag head).bind fun x8 =>
if x8.2=0 then ((ldTree (bag,0) x8.1.2.2.2.1).bind fun x19 =>
(ldTree (bag,x19.2) x8.1.2.2.2.2.1).bind fun x21 =>
Option.bind (α:=(Unit)) (loopO (fun (s50:Unit)=>if 0<((x21.1).length:Int) then ((idxO x21.1 0).bind fun x52 =>
none)
 else (some (.inr ()))) ()) fun r39=>(ldTree (bag,x21.2) x8.1.2.2.2.2.2.1).bind fun x56 =>
Option.bind (α:=(Int×(List T_api_Seat))) (loopO (fun (s116:Int×(List T_api_Seat)×Int)=>if s116.2.2<((x56.1).length:Int) then ((idxO x56.1 s116.2.2).bind fun x119 =>
(ldSeat s116.1 x119).bind fun x123 =>
(appO s116.2.1 ([x123.1])).bind fun x127 =>
some (.inl (x123.2,x127,IntKind.i64.wrap (s116.2.2+1))))
 else (some (.inr (s116.1,s116.2.1)))) (x56.2,([]:List T_api_Seat),0)) fun r92=>(tCheck ((x19.1,([]:List T_api_Snap)),r92.2)).bind fun x128 =>
(ldAsk r92.1 (decide (x128=0))).bind fun x129 =>
if (!x129.1)=true then (none)
 else (some ((x8.1.1,x8.1.2.1,x8.1.2.2.1,x8.1.2.2.2.1,x8.1.2.2.2.2.1,x8.1.2.2.2.2.2.1,x8.1.2.2.2.2.2.2),((x19.1,([]:List T_api_Snap)),r92.2),0)))
 else (none)
noncomputable def rUint (n:Int) (size:Int):Option ((List UInt8)×Int) :=
if size<1 then (some (([]:List UInt8),1))
 else (if 8<size then (some (([]:List UInt8),1))
 else ((mkO size (0:UInt8)).bind fun x7 =>
Option.bind (α:=((List UInt8)×Int)) (loopO (fun (s51:(List UInt8)×Int×Int)=>if s51.2.2<size then ((remO s51.2.1 256).bind fun x54 =>
(idxO s51.1 (IntKind.i64.wrap ((IntKind.i64.wrap (size - 1)) - s51.2.2))).bind fun x55 =>
(u8O (IntKind.u8.wrap (x54))).bind fun x58 =>
(quoO .u64 s51.2.1 256).bind fun x59 =>
some (.inl ((s51.1).set (IntKind.i64.wrap ((IntKind.i64.wrap (size - 1)) - s51.2.2):Int).toNat x58,x59,IntKind.i64.wrap (s51.2.2+1))))
 else (some (.inr (s51.1,s51.2.1)))) (x7,n,0)) fun r33=>if 0<r33.2 then (some (([]:List UInt8),1))
 else (some (r33.1,0))))
noncomputable def rText (b:List UInt8):Option ((List UInt8)×Int) :=
(rUint (IntKind.u64.wrap (((b).length:Int))) 2).bind fun x3 =>
if x3.2=0 then ((appO x3.1 b).bind fun x8 =>
some (x8,0))
 else (some (([]:List UInt8),23))
noncomputable def m_triremeref02_Number (x0_:List UInt8):Option Int :=
Option.bind (α:=(Int)) (loopO (fun (s24:Int×Int)=>if s24.2<((x0_).length:Int) then ((idxO x0_ s24.2).bind fun x26 =>
some (.inl (IntKind.u64.wrap ((IntKind.u64.wrap (s24.1 * 256))+(IntKind.u64.wrap (((x26).toNat:Int)))),IntKind.i64.wrap (s24.2+1))))
 else (some (.inr s24.1))) (0,0)) fun r15=>some r15
noncomputable def reRaw (ey:T_triremeref02_Eye_o) (n:Int):Option ((List UInt8)×Int×T_triremeref02_Eye_o) :=
if n<0 then (some (([]:List UInt8),1,ey))
 else (if (IntKind.i64.wrap (((ey.1).length:Int) - ey.2))<n then (some (([]:List UInt8),20,ey))
 else ((slcO ey.1 (IntKind.i64.wrap ((IntKind.i64.wrap (ey.2+n)) - n)) (IntKind.i64.wrap (ey.2+n))).bind fun x9 =>
(appO ([]:List UInt8) x9).bind fun x12 =>
some (x12,0,(ey.1,IntKind.i64.wrap (ey.2+n)))))
noncomputable def reUint (ey:T_triremeref02_Eye_o) (n:Int):Option (Int×Int×T_triremeref02_Eye_o) :=
if n<1 then (some (0,1,ey))
 else (if 8<n then (some (0,1,ey))
 else ((reRaw ey n).bind fun x3 =>
(m_triremeref02_Number x3.1).bind fun x5 =>
some (x5,x3.2.1,x3.2.2)))
noncomputable def reText (ey:T_triremeref02_Eye_o):Option ((List UInt8)×Int×T_triremeref02_Eye_o) :=
if (IntKind.i64.wrap (((ey.1).length:Int) - ey.2))<2 then (some (([]:List UInt8),20,ey))
 else ((slcO ey.1 ey.2 (IntKind.i64.wrap (ey.2+2))).bind fun x7 =>
(m_triremeref02_Number x7).bind fun x8 =>
if (IntKind.i64.wrap ((IntKind.i64.wrap (((ey.1).length:Int) - ey.2)) - 2))<(IntKind.i64.wrap (x8)) then (some (([]:List UInt8),20,ey))
 else ((reRaw (ey.1,IntKind.i64.wrap (ey.2+2)) (IntKind.i64.wrap (x8))).bind fun x11 =>
some (x11.1,x11.2.1,x11.2.2)))
noncomputable def reEnd (ey:T_triremeref02_Eye_o):Option Int :=
if ey.2<((ey.1).length:Int) then (some 21)
 else (some 0)
noncomputable def rGreatOp (o:T_api_Op):Option Bool :=
if 400<((o.2.1).length:Int) then (some true)
 else (if 400<((o.2.2.1).length:Int) then (some true)
 else (some (decide (400<((o.2.2.2.2.2).length:Int)))))
noncomputable def rSameOp (a_:T_api_Op) (b_:T_api_Op):Option Bool :=
if a_.1=b_.1 then (if a_.2.1=b_.2.1 then (if a_.2.2.1=b_.2.2.1 then (if a_.2.2.2.1=b_.2.2.2.1 then (if a_.2.2.2.2.1=b_.2.2.2.2.1 then (some (decide (a_.2.2.2.2.2=b_.2.2.2.2.2)))
 else (some false))
 else (some false))
 else (some false))
 else (some false))
 else (some false)
noncomputable def rTwo (n:Int):Option (List UInt8) :=
(quoO .i64 n 256).bind fun x2 =>
(remO n 256).bind fun x3 =>
(u8O (IntKind.u8.wrap (x2))).bind fun x5 =>
(u8O (IntKind.u8.wrap (x3))).bind fun x6 =>
some ([x5,x6])
noncomputable def rTextS (s:List UInt8):Option (List UInt8) :=
(rText s).bind fun x3 =>
some x3.1
noncomputable def m_triremeref10_Right (x0_:T_api_Op):Option Bool :=
if 1≤x0_.1 then (if x0_.1≤13 then (if ((x0_.2.1).length:Int)≤32 then (if ((x0_.2.2.1).length:Int)≤32 then (if 0≤x0_.2.2.2.1 then (if x0_.2.2.2.1<65536 then (if 0≤x0_.2.2.2.2.1 then (if x0_.2.2.2.2.1<65536 then (some (decide (((x0_.2.2.2.2.2).length:Int)≤64)))
 else (some false))
 else (some false))
 else (some false))
 else (some false))
 else (some false))
 else (some false))
 else (some false))
 else (some false)
noncomputable def m_triremeref10_Write (x0_:T_api_Op):Option ((List UInt8)×Int) :=
(m_triremeref10_Right x0_).bind fun x4 =>
if (!x4)=true then (some (([]:List UInt8),1))
 else (Option.bind (α:=(T_api_Op×(List UInt8))) ((u8O (IntKind.u8.wrap (x0_.1))).bind fun x27 =>
(rTwo x0_.2.2.2.1).bind fun x28 =>
(appO ([x27]) x28).bind fun x31 =>
some ((x0_.1,x0_.2.1,x0_.2.2.1,x0_.2.2.2.1,x0_.2.2.2.2.1,x0_.2.2.2.2.2),x31)) fun r21=>(rTwo r21.1.2.2.2.2.1).bind fun x40 =>
(appO r21.2 x40).bind fun x43 =>
(rTextS r21.1.2.1).bind fun x45 =>
(appO x43 x45).bind fun x48 =>
(rTextS r21.1.2.2.1).bind fun x50 =>
(appO x48 x50).bind fun x53 =>
(rTextS r21.1.2.2.2.2.2).bind fun x54 =>
(appO x53 x54).bind fun x57 =>
some (x57,0))
noncomputable def m_triremeref10_Read (x0_:List UInt8):Option (T_api_Op×Int) :=
(reUint (x0_,0) 1).bind fun x5 =>
(reUint x5.2.2 2).bind fun x6 =>
(reUint x6.2.2 2).bind fun x7 =>
(reText x7.2.2).bind fun x8 =>
(reText x8.2.2).bind fun x10 =>
(reText x10.2.2).bind fun x12 =>
(reEnd x12.2.2).bind fun x15 =>
if (IntKind.i64.wrap ((IntKind.i64.wrap ((IntKind.i64.wrap ((IntKind.i64.wrap ((IntKind.i64.wrap ((IntKind.i64.wrap (x5.2.1+x6.2.1))+x7.2.1))+x8.2.1))+x10.2.1))+x12.2.1))+x15))=0 then ((m_triremeref10_Right (IntKind.i64.wrap (x5.1),x8.1,x10.1,IntKind.i64.wrap (x6.1),IntKind.i64.wrap (x7.1),x12.1)).bind fun x17 =>
if (!x17)=true then (some ((0,[],[],0,0,([]:List UInt8)),22))
 else (some ((IntKind.i64.wrap (x5.1),x8.1,x10.1,IntKind.i64.wrap (x6.1),IntKind.i64.wrap (x7.1),x12.1),0)))
 else (some ((0,[],[],0,0,([]:List UInt8)),22))
noncomputable def rEight (n:Int):Option (List UInt8) :=
(rUint n 8).bind fun x2 =>
some x2.1
noncomputable def m_triremeref14_Right (x0_:T_api_Record):Option Bool :=
if x0_.1=0 then (if x0_.2.1=0 then (if x0_.2.2.1=((List.replicate 32 0):List UInt8) then (if x0_.2.2.2.2.2.2.1=0 then (if x0_.2.2.2.2.2.2.2.1=0 then ((rSameOp x0_.2.2.2.2.2.2.2.2 (0,[],[],0,0,([]:List UInt8))).bind fun x14 =>
some x14)
 else (some false))
 else (some false))
 else (some false))
 else (some false))
 else (if 0≤x0_.2.2.2.2.2.2.1 then (if x0_.2.2.2.2.2.2.1≤3 then (if 0<x0_.2.2.2.2.2.2.2.1 then ((m_triremeref10_Right x0_.2.2.2.2.2.2.2.2).bind fun x19 =>
some x19)
 else (some false))
 else (some false))
 else (some false))
noncomputable def m_triremeref14_Write (x0_:T_api_Record):Option ((List UInt8)×Int) :=
(m_triremeref14_Right x0_).bind fun x4 =>
if (!x4)=true then (some (([]:List UInt8),1))
 else ((u8O 82).bind fun x8 =>
(rEight x0_.1).bind fun x14 =>
(appO ([x8]) x14).bind fun x17 =>
(rEight x0_.2.1).bind fun x18 =>
(appO x17 x18).bind fun x21 =>
(appO x21 x0_.2.2.1).bind fun x23 =>
(appO x23 x0_.2.2.2.1).bind fun x25 =>
(appO x25 x0_.2.2.2.2.1).bind fun x27 =>
(appO x27 x0_.2.2.2.2.2.1).bind fun x29 =>
(u8O (IntKind.u8.wrap (x0_.2.2.2.2.2.2.1))).bind fun x32 =>
(appO x29 ([x32])).bind fun x34 =>
(rEight x0_.2.2.2.2.2.2.2.1).bind fun x35 =>
(appO x34 x35).bind fun x38 =>
(m_triremeref10_Write x0_.2.2.2.2.2.2.2.2).bind fun x39 =>
(rText x39.1).bind fun x41 =>
(appO x38 x41.1).bind fun x44 =>
some (x44,0))
noncomputable def m_triremeref14_hash (x0_:List UInt8):Option (List UInt8) :=
Option.bind (α:=((List UInt8))) (loopO (fun (s48:(List UInt8)×Int)=>if s48.2<32 then ((idxO x0_ s48.2).bind fun x51 =>
(idxO s48.1 s48.2).bind fun x54 =>
(u8O ((x51).toNat:Int)).bind fun x56 =>
some (.inl ((s48.1).set (s48.2:Int).toNat x56,IntKind.i64.wrap (s48.2+1))))
 else (some (.inr s48.1))) (((List.replicate 32 0):List UInt8),0)) fun r30=>some r30
noncomputable def m_triremeref14_Read (x0_:List UInt8):Option (T_api_Record×Int) :=
if ((x0_).length:Int)<156 then (some ((0,0,(List.replicate 32 0),(List.replicate 32 0),(List.replicate 32 0),(List.replicate 32 0),(0,0,(0,[],[],0,0,([]:List UInt8)))),22))
 else ((idxO x0_ 0).bind fun x6 =>
if ((x6).toNat:Int)=82 then (Option.bind (α:=((Int×Int×(List UInt8)×(List UInt8)×(List UInt8)×(List UInt8)×(List UInt8)))) ((slcO x0_ 1 9).bind fun x86 =>
(slcO x0_ 9 17).bind fun x88 =>
(slcO x0_ 17 49).bind fun x90 =>
(slcO x0_ 49 81).bind fun x92 =>
(slcO x0_ 81 113).bind fun x94 =>
(slcO x0_ 113 145).bind fun x96 =>
(m_triremeref02_Number x86).bind fun x97 =>
(m_triremeref02_Number x88).bind fun x98 =>
(m_triremeref14_hash x90).bind fun x99 =>
(m_triremeref14_hash x92).bind fun x101 =>
(m_triremeref14_hash x94).bind fun x103 =>
(m_triremeref14_hash x96).bind fun x105 =>
some (x97,x98,x99,x101,x103,x105,([]:List UInt8))) fun r78=>(idxO x0_ 145).bind fun x153 =>
(slcO x0_ 146 154).bind fun x157 =>
(m_triremeref02_Number x157).bind fun x158 =>
(slcO x0_ 154 156).bind fun x160 =>
(m_triremeref02_Number x160).bind fun x161 =>
if (IntKind.i64.wrap (x161))=(IntKind.i64.wrap (((x0_).length:Int) - 156)) then (Option.bind (α:=(T_api_Op) ⊕ (T_api_Record×Int)) (if 0<(IntKind.i64.wrap (x161)) then ((slcO x0_ 156 ((x0_).length:Int)).bind fun x178 =>
(m_triremeref10_Read x178).bind fun x179 =>
if x179.2=0 then (some (.inl x179.1))
 else (some (.inr ((0,0,(List.replicate 32 0),(List.replicate 32 0),(List.replicate 32 0),(List.replicate 32 0),(0,0,(0,[],[],0,0,([]:List UInt8)))),22))))
 else (some (.inl (0,[],[],0,0,r78.2.2.2.2.2.2)))) fun o170=>Sum.elim (fun r170=>(m_triremeref14_Right (r78.1,r78.2.1,r78.2.2.1,r78.2.2.2.1,r78.2.2.2.2.1,r78.2.2.2.2.2.1,(IntKind.i64.wrap (((x153).toNat:Int)),x158,r170))).bind fun x183 =>
if (!x183)=true then (some ((0,0,(List.replicate 32 0),(List.replicate 32 0),(List.replicate 32 0),(List.replicate 32 0),(0,0,(0,[],[],0,0,([]:List UInt8)))),22))
 else (if (decide (r78.1=0))=(decide ((IntKind.i64.wrap (x161))=0)) then (some ((r78.1,r78.2.1,r78.2.2.1,r78.2.2.2.1,r78.2.2.2.2.1,r78.2.2.2.2.2.1,(IntKind.i64.wrap (((x153).toNat:Int)),x158,r170)),0))
 else (some ((0,0,(List.replicate 32 0),(List.replicate 32 0),(List.replicate 32 0),(List.replicate 32 0),(0,0,(0,[],[],0,0,([]:List UInt8)))),22)))) (fun rv=>some rv) o170)
 else (some ((0,0,(List.replicate 32 0),(List.replicate 32 0),(List.replicate 32 0),(List.replicate 32 0),(0,0,(0,[],[],0,0,([]:List UInt8)))),22)))
 else (some ((0,0,(List.replicate 32 0),(List.replicate 32 0),(List.replicate 32 0),(List.replicate 32 0),(0,0,(0,[],[],0,0,([]:List UInt8)))),22)))
noncomputable def m_triremeref14_SameCall (x0_:T_api_Call) (x1_:T_api_Call):Option Bool :=
if x0_.1=x1_.1 then (if x0_.2.1=x1_.2.1 then ((rSameOp x0_.2.2 x1_.2.2).bind fun x9 =>
some x9)
 else (some false))
 else (some false)
noncomputable def m_triremeref14_Same (x0_:T_api_Record) (x1_:T_api_Record):Option Bool :=
if x0_.1=x1_.1 then (if x0_.2.1=x1_.2.1 then (if x0_.2.2.1=x1_.2.2.1 then (if x0_.2.2.2.1=x1_.2.2.2.1 then (if x0_.2.2.2.2.1=x1_.2.2.2.2.1 then (if x0_.2.2.2.2.2.1=x1_.2.2.2.2.2.1 then ((m_triremeref14_SameCall x0_.2.2.2.2.2.2 x1_.2.2.2.2.2.2).bind fun x21 =>
some x21)
 else (some false))
 else (some false))
 else (some false))
 else (some false))
 else (some false))
 else (some false)
noncomputable def nxThere (h:List UInt8) (b:List UInt8) (bag:((List UInt8)→Option (List UInt8))):Option Bool :=
some ((bag h).isSome)
noncomputable def mapDel (m_:(List UInt8)→Option (List UInt8)) (bag:((List UInt8)→Option (List UInt8))):Option ((List UInt8)→Option (List UInt8)):=some (fun k_=>if (bag k_).isSome=true then none else m_ k_)
noncomputable def cNext (bag:(List UInt8)→Option (List UInt8)) (head:List UInt8) (view:Int) (c:T_api_Call):Option ((List UInt8)×((List UInt8)→Option (List UInt8))×(Int×Int)×Int) :=
(cLoad bag head).bind fun x13 =>
if x13.2.2=0 then ((oWrite c.2.2).bind fun x20 =>
(tDo x13.2.1 (c.1,c.2.1,c.2.2) (IntKind.u64.wrap (x13.1.1+1))).bind fun x27 =>
if x20.2=0 then (if x27.2.2=0 then (if x13.1.1=18446744073709551615 then (none)
 else ((cloneBy c.2.2.2.2.2.2.2).bind fun x37 =>
(mkWhole (fnil:(List UInt8)→Option (List UInt8)) (IntKind.u64.wrap (x13.1.1+1),view,head,(List.replicate 32 0),(List.replicate 32 0),(List.replicate 32 0),(c.1,c.2.1,(c.2.2.1,c.2.2.2.1,c.2.2.2.2.1,c.2.2.2.2.2.1,c.2.2.2.2.2.2.1,x37))) x27.1).bind fun x41 =>
(mapDel x41.2 (bag)).bind fun x44 =>
some (x41.1,x44,(x27.2.1.1,x27.2.1.2.1),0)))
 else (none))
 else (none))
 else (none)
noncomputable def lSpeaks :Option Bool :=
(cBegin).bind fun x1 =>
(cNext x1.2 x1.1 3 (0,1,(1,[47,97],[],0,0,([]:List UInt8)))).bind fun x5 =>
Option.bind (α:=(((List UInt8)→Option (List UInt8)))) (detM x5.2.1 (fun l35=>(foldO (fun (s35:((List UInt8)→Option (List UInt8))) (x35:(List UInt8)×(List UInt8))=>some (.inl (fset x35.1 x35.2 s35))) x1.2 l35).bind (Sum.elim (fun (s35:((List UInt8)→Option (List UInt8)))=>some s35) some))) fun r26=>(cLoad r26 x5.1).bind fun x40 =>
if 0<((flen x1.2:Nat):Int) then (if ((flen x1.2:Nat):Int)≤4 then (if x5.2.2.2=0 then (if x5.2.2.1.1=0 then (if x40.2.2=0 then (if x40.1.1=1 then (if x40.1.2.1=3 then (if x40.1.2.2.1=x1.1 then (some (decide (((x40.2.1.1.1).length:Int)=2)))
 else (some false))
 else (some false))
 else (some false))
 else (some false))
 else (some false))
 else (some false))
 else (some false))
 else (some false)
noncomputable def lRecords (r_:T_api_Record) (raw:List UInt8):Option Bool :=
(lSpeaks).bind fun x4 =>
if (!x4)=true then (some false)
 else ((rGreatOp r_.2.2.2.2.2.2.2.2).bind fun x12 =>
if x12=true then (some true)
 else (if 1000<((raw).length:Int) then (some true)
 else ((cWrite (r_.1,r_.2.1,r_.2.2.1,r_.2.2.2.1,r_.2.2.2.2.1,r_.2.2.2.2.2.1,(r_.2.2.2.2.2.2.1,r_.2.2.2.2.2.2.2.1,r_.2.2.2.2.2.2.2.2))).bind fun x15 =>
(m_triremeref14_Write (r_.1,r_.2.1,r_.2.2.1,r_.2.2.2.1,r_.2.2.2.2.1,r_.2.2.2.2.2.1,(r_.2.2.2.2.2.2.1,r_.2.2.2.2.2.2.2.1,r_.2.2.2.2.2.2.2.2))).bind fun x17 =>
(appO ([]:List UInt8) raw).bind fun x21 =>
(cRead x21).bind fun x22 =>
(m_triremeref14_Read raw).bind fun x25 =>
if x15.2=x17.2 then (if x15.1=x17.1 then (if x22.2=x25.2 then ((m_triremeref14_Same x22.1 x25.1).bind fun x31 =>
if (!x31)=true then (some false)
 else (if x21=raw then (if x15.2=0 then ((cRead x15.1).bind fun x35 =>
if x35.2=0 then ((m_triremeref14_Same x35.1 (r_.1,r_.2.1,r_.2.2.1,r_.2.2.2.1,r_.2.2.2.2.1,r_.2.2.2.2.2.1,(r_.2.2.2.2.2.2.1,r_.2.2.2.2.2.2.2.1,r_.2.2.2.2.2.2.2.2))).bind fun x39 =>
some x39)
 else (some false))
 else (some true))
 else (some false)))
 else (some false))
 else (some false))
 else (some false))))
end Go.Proofs.YtapllcabobickaaGreatDoor
namespace Go.Tri
open Go.RowKit Go.ChangeShapes Go.WideShapes Go.ChangeAt Go.Deep
section
variable {α β H:Type} (enc:TypeId×Value→H) (P:Program) (w:World) (base:Nat) (spare:Nat→Bool) (held:Bool)
def OpnW (R:Rp α) (e:TypeId) (p:α→Prop):Prop:=∀ (fuel:Nat) (cs:List Value) (x:DataW H×List MemPlace),DataW.trod enc P w base spare held fuel e cs=some x→(x.1.weights P e).all (·≤reachBytes)=true→∃ y,R.rd (baseOf w) cs y∧p y
end
section
variable {α β H:Type} {enc:TypeId×Value→H} {P:Program} {w:World} {base:Nat} {spare:Nat→Bool} {held:Bool} {R:Rp α} {Q:Rp β} {e t:TypeId} {p:α→Prop} {q:β→Prop}
theorem opnW_any (h:Opn enc P w base spare held R e):OpnW enc P w base spare held R e (fun _=>True):=fun fuel cs x hx _=>by
 obtain ⟨y,hy⟩:=h fuel cs x hx
 exact ⟨y,hy,trivial⟩
theorem opnW_u64 (ht:P.underlying t=some (.int .u64)):OpnW enc P w base spare held (rInt .u64) t (fun n=>0≤n∧n≤18446744073709551615):=fun fuel cs x h _=>by
 obtain ⟨n0,g0,_,w0⟩:=DataW.trod_int ht h
 refine ⟨n0,g0,?_⟩
 simp [Lit.wf,IntKind.min,IntKind.max,IntKind.signed,IntKind.bits] at w0
 omega
theorem all_mem {ns:List Nat} (h:ns.all (·≤reachBytes)=true) {n:Nat} (hn:n∈ns):n≤reachBytes:=by simpa using List.all_eq_true.1 h n hn
theorem weightsAll_mem:∀ {ds:List (DataW H)} {d:DataW H} {n:Nat},d∈ds→n∈d.weights P e→n∈DataW.weightsAll P e ds
 | c::ds,d,n,hd,hn=>by
  unfold DataW.weightsAll
  rcases List.mem_cons.1 hd with rfl | hd
  ·exact List.mem_append_left _ hn
  ·exact List.mem_append_right _ (weightsAll_mem hd hn)
theorem opnW_slice (hO:OpnW enc P w base spare held R e p) (ht:P.underlying t=some (.slice e)) (hC:P.cellsOf e=R.n) (hs:0<R.n) {fuel:Nat} {cs:List Value} {x:DataW H×List MemPlace} (h:DataW.trod enc P w base spare held fuel t cs=some x) (hw:(x.1.weights P t).all (·≤reachBytes)=true) :
  ∃ a xs cap,cs=[.slice a xs.length cap]∧(∀ (w':World) (S:Nat→Prop),(HP.sl R a cap xs).pr (baseOf w) w' S)∧(∀ x∈xs,p x)∧xs.length * P.bytesOf e≤reachBytes:=by
 rcases DataW.trod_slice ht h with ⟨rfl,rfl⟩ | ⟨a,len,cap,elems,rest,n,_,rfl,rfl,hb,hl,hm,hlen,hel,_,_⟩
 ·exact ⟨none,[],0,rfl,fun _ _=>⟨[],trivial,fun w' hw=>.inl ⟨rfl,rfl,rfl⟩⟩,(fun x hx=>absurd hx (by simp)),by simp⟩
 ·simp only [DataW.weights,ht] at hw
  have hw0:(elems.map (·.1)).length+(rest.map (·.1)).length=elems.length+rest.length:=by simp
  rw [hw0] at hw
  have hsz:(elems.length+rest.length) * P.bytesOf e≤reachBytes:=all_mem hw List.mem_cons_self
  have hwe:∀ y∈elems,(y.1.weights P e).all (·≤reachBytes)=true:=fun y hy=>List.all_eq_true.2 fun k hk=>by
   have:=all_mem hw (List.mem_cons_of_mem _ (List.mem_append_left _ (weightsAll_mem (List.mem_map_of_mem hy) hk)))
   simpa using this
  obtain ⟨css,hcl,hp⟩:=exists_list (p:=fun i (c:List Value)=>c.length=R.n∧(∃ y,R.rd (baseOf w) c y∧p y)∧∀ j u,c[j]?=some u→w.cell? ((a.add (i * R.n)).add j)=some u) len (fun i hin=>by
   have hi:=hel i hin
   rw [List.getElem?_eq_getElem (by omega:i<elems.length)] at hi
   obtain ⟨cs',hc,ht'⟩:=Option.bind_eq_some_iff.1 hi
   obtain ⟨y,hy,hpy⟩:=hO _ _ _ ht' (hwe _ (List.getElem_mem _))
   obtain ⟨_,hcl,hat⟩:=World.cells?_some hc
   have hln:=R.len hy
   refine ⟨cs',hln,⟨y,hy,hpy⟩,fun j u hj=>?_⟩
   rw [← hC,hat j (by rw [hC,← hln];exact (List.getElem?_eq_some_iff.1 hj).1)];exact hj)
  obtain ⟨xs,hxl,hx⟩:=exists_list (p:=fun i (y:α)=>p y∧∃ c,css[i]?=some c∧R.rd (baseOf w) c y) len (fun i hin=>by
   obtain ⟨c,hc⟩:∃ c,css[i]?=some c:=⟨_,List.getElem?_eq_getElem (by omega)⟩
   obtain ⟨_,⟨y,hy,hpy⟩,_⟩:=hp i c hc
   exact ⟨y,hpy,c,hc,hy⟩)
  have hrdl:RdL R (baseOf w) css xs:=rdl_of (by omega) fun i c y hc hy=>by
   obtain ⟨_,c',h1,h2⟩:=hx i y hy
   rw [hc] at h1
   injection h1 with h1
   rw [h1];exact h2
  have hsl:Sl w (.slice (some a) len cap) len css.flatten:=by
   by_cases h0:len=0
   ·obtain rfl:css=[]:=List.length_eq_zero_iff.1 (by omega)
    subst h0
    exact .inr (.inl ⟨a,cap,rfl,rfl,rfl⟩)
   ·obtain ⟨c0,hc0⟩:∃ c,css[0]?=some c:=⟨_,List.getElem?_eq_getElem (by omega)⟩
    obtain ⟨hl0,_,hq0⟩:=hp 0 c0 hc0
    obtain ⟨u0,hu0⟩:∃ u,c0[0]?=some u:=⟨_,List.getElem?_eq_getElem (by omega)⟩
    have hcell:=hq0 0 u0 hu0
    rw [Nat.zero_mul] at hcell
    obtain ⟨b,off,spot⟩:=a
    have hspot:spot=none:=by simpa [Addr.add] using World.cell?_spot hcell
    subst hspot
    refine .inr (.inr ⟨b,off,cap,rfl,by omega,?_⟩)
    have:=row_flat (w:=w) (fun c:List Value=>c) (ok:=fun c=>c.length=R.n) (fun c hc=>hc) css off (b:=b) (fun c hc=>by
     obtain ⟨i,hi,rfl⟩:=List.getElem_of_mem hc
     exact (hp i _ (List.getElem?_eq_getElem hi)).1) fun i c hc=>by
     intro j u hj
     have:=(hp i c hc).2.2 j u hj
     rw [add_none,add_none] at this;exact this
    rw [List.flatMap_id'] at this
    exact this
  subst hxl
  refine ⟨some a,xs,cap,rfl,fun _ _=>⟨css,hrdl,fun w' hw'=>sub_sl hw' hsl⟩,fun y hy=>?_,Nat.le_trans (Nat.mul_le_mul_right _ (by omega)) hsz⟩
  obtain ⟨i,hi,rfl⟩:=List.getElem_of_mem hy
  exact (hx i _ (List.getElem?_eq_getElem hi)).1
where
 rdl_of {α:Type} {R:Rp α} {B:Base}:∀ {css:List (List Value)} {xs:List α},css.length=xs.length→(∀ i c y,css[i]?=some c→xs[i]?=some y→R.rd B c y)→RdL R B css xs
  | [],[],_,_=>trivial
  | c::css,x::xs,hl,h=>⟨h 0 c x rfl rfl,rdl_of (by simpa using hl) fun i c' y h1 h2=>h (i+1) c' y (by simpa using h1) (by simpa using h2)⟩
theorem opnW_rSl (hO:OpnW enc P w base spare held R e p) (ht:P.underlying t=some (.slice e)) (hC:P.cellsOf e=R.n) (hs:0<R.n):OpnW enc P w base spare held (rSl R) t (fun xs=>(∀ x∈xs,p x)∧xs.length * P.bytesOf e≤reachBytes):=fun fuel cs x h hw=>by
 obtain ⟨a,xs,cap,e1,e2,e3,e4⟩:=opnW_slice hO ht hC hs h hw
 exact ⟨xs,⟨a,cap,e1,e2 _ _⟩,e3,e4⟩
def OpnFs (enc:TypeId×Value→H) (P:Program) (w:World) (base:Nat) (spare:Nat→Bool) (held:Bool) (R:Rp α) (off:Nat) (fs:List Field) (p:α→Prop):Prop :=
 ∀ (n:Nat) (cs:List Value) (xs:List (DataW H×List MemPlace)),xs.length=fs.length→(∀ (i:Nat) (f:Field),fs[i]?=some f→DataW.trod enc P w base spare held n f.type ((cs.drop f.offset).take (P.cellsOf f.type))=xs[i]?) →
  (DataW.weightsEach P (fs.map (·.type)) (xs.map (·.1))).all (·≤reachBytes)=true→∃ y,R.rd (baseOf w) ((cs.drop off).take R.n) y∧p y
theorem opnFs_one {f:Field} {off:Nat} (hO:OpnW enc P w base spare held R f.type p) (ho:f.offset=off) (hC:P.cellsOf f.type=R.n):OpnFs enc P w base spare held R off [f] p:=fun n cs xs hl hx hw=>by
 match xs,hl with
 | [x],_ =>
  have h:=hx 0 f rfl
  rw [ho,hC] at h
  refine hO _ _ _ h ?_
  simpa [DataW.weightsEach] using hw
theorem opnFs_cons {f:Field} {fs:List Field} {off:Nat} (hO:OpnW enc P w base spare held R f.type p) (ho:f.offset=off) (hC:P.cellsOf f.type=R.n) (hF:OpnFs enc P w base spare held Q (off+R.n) fs q):OpnFs enc P w base spare held (rPair R Q) off (f::fs) (fun y=>p y.1∧q y.2):=fun n cs xs hl hx hw=>by
 match xs,hl with
 | x::xs,hl =>
  have h:=hx 0 f rfl
  rw [ho,hC] at h
  simp only [List.map_cons,DataW.weightsEach,List.all_append,Bool.and_eq_true] at hw
  obtain ⟨y,hy,hpy⟩:=hO _ _ _ h hw.1
  obtain ⟨z,hz,hqz⟩:=hF n cs xs (by simpa using hl) (fun i g hg=>by simpa using hx (i+1) g (by simpa using hg)) hw.2
  refine ⟨(y,z),⟨_,_,?_,hy,hz⟩,hpy,hqz⟩
  show (cs.drop off).take (R.n+Q.n)=_
  rw [List.take_add,List.drop_drop]
theorem opnW_struct {fs:List Field} (ht:P.underlying t=some (.struct fs.toArray)) (hF:OpnFs enc P w base spare held R 0 fs p) (hC:P.cellsOf t=R.n):OpnW enc P w base spare held R t p:=fun fuel cs x h hw=>by
 obtain ⟨xs,n,_,rfl,hl,hxl,hx⟩:=DataW.trod_struct ht h
 simp only [DataW.weights,ht] at hw
 obtain ⟨y,hy,hp⟩:=hF n cs xs (by simpa using hxl) (fun i f hf=>hx i f (by simpa using hf)) (by simpa using hw)
 rw [List.drop_zero,List.take_of_length_le (by omega)] at hy
 exact ⟨y,hy,hp⟩
end
theorem opn_bytes {H:Type} {enc:TypeId×Value→H} {P:Program} {w:World} {base:Nat} {spare:Nat→Bool} {held:Bool} {t e:TypeId} {n:Nat} (ht:P.underlying t=some (.array n e)) (he:P.underlying e=some (.int .u8)) (hc:P.cellsOf e=1) (hC:P.cellsOf t=n):Opn enc P w base spare held (rBytesN n) t:=fun fuel cs x h=>by
 obtain ⟨l,h1,h2⟩:=open_bytes ht he hc hC h
 exact ⟨l,h2,h1⟩
section
variable {H:Type} {enc:TypeId×Value→H} {P:Program} {w:World} {base:Nat} {spare:Nat→Bool} {held:Bool} {t:TypeId}
theorem opn_str (ht:P.underlying t=some .string):Opn enc P w base spare held rStr t:=fun fuel cs x h=>by
 obtain ⟨s,h1,h2,h3⟩:=DataW.trod_string ht h
 exact ⟨s.data.toList,h1⟩
end
end Go.Tri
namespace Go.Tri
open Go.RowKit
section
variable {P:Program} {c:Code} {Q:Exit→Act→World→Prop}
def loopU (P:Program) (c:Code) (Q:Exit→Act→World→Prop):Nat→Act→World→Prop
 | 0,_,_=>False
 | n+1,a,w=>c.wp P (Exit.then (fun a w=>loopU P c Q n a w) Q) a w
theorem x_un {n:Nat} {a:Act} {w:World} (h:c.wp P (Exit.then (fun a w=>loopU P c Q n a w) Q) a w):loopU P c Q (n+1) a w:=h
open Classical in
theorem x_unroll {a:Act} {w:World} (n:Nat) (h:loopU P c Q n a w):(Code.loop c).wp P Q a w:=by
 have key:∀ a w,(∃ n,loopU P c Q n a w)→∃ n,loopU P c Q n a w∧∀ m,m<n→¬ loopU P c Q m a w:=by
  rintro a w ⟨n,h⟩
  induction n using Nat.strongRecOn with
  | _ n ih =>
   by_cases hx:∃ m,m<n∧loopU P c Q m a w
   ·obtain ⟨m,h1,h2⟩:=hx;exact ih m h1 h2
   ·exact ⟨n,h,fun m h1 h2=>hx ⟨m,h1,h2⟩⟩
 refine wp_loop (fun a w=>∃ n,loopU P c Q n a w) (fun a w=>if hx:∃ n,loopU P c Q n a w then Classical.choose (key a w hx) else 0) ⟨n,h⟩ ?_
 intro a w hx
 have hc:=Classical.choose_spec (key a w hx)
 have e:(if hx:∃ n,loopU P c Q n a w then Classical.choose (key a w hx) else 0)=Classical.choose (key a w hx):=dif_pos hx
 simp only [e]
 generalize Classical.choose (key a w hx)=k at hc ⊢
 obtain ⟨h1,h2⟩:=hc
 cases k with
 | zero=>exact h1.elim
 | succ k =>
  refine Code.wp_mono ?_ h1
  rintro (_ | _ | _ | _ | _ | _) a' w' hh
  case normal =>
   have hy:∃ n,loopU P c Q n a' w':=⟨k,hh⟩
   refine ⟨hy,?_⟩
   rw [dif_pos hy]
   have hd:=Classical.choose_spec (key a' w' hy)
   exact Nat.lt_of_not_le fun hle=>hd.2 k (by omega) hh
  all_goals exact hh
end
section
variable {P:Program} {o:Oper} {a:Act} {w:World} {N:Fs} {sl:List (Nat×Value)} {t e:TypeId} {x y:Operand} {k:IntKind} {zz A X C:List Value}
theorem y_idxG (F:Fr N a sl) {n size:Nat} (hA:ArrT P t e n size) (hG:AggT P e size zz) (ho:o.op=.index t x y) {i:Int} {cs:List Value} (hx:ev sl x=some (.agg cs.toArray)) (he:cs=A++(X++C)) (hy:ev sl y=some (.int k i)) (h0:0≤i∧i<n) (hl:A.length=i.toNat * size) (hX:X.length=size) :
  (execOp a.eval o).run P w=.ok (.value (.agg X.toArray)) w:=by
 subst he
 have h3:((A++(X++C)).toArray.extract (i.toNat * size) (i.toNat * size+size))=X.toArray:=by
  rw [← hl,← hX]
  simp
 have:(Instr.index t (.agg (A++(X++C)).toArray) (.int k i)).run P w=.ok (.agg X.toArray) w:=by
  unfold Instr.index
  simp only [asIntOf,Sem.run_bind,Sem.run_pure,Result.andThen_ok,Go.run_underlying hA.ht]
  rw [if_pos h0]
  simp only [Sem.run_bind,hA.run_size,Result.andThen_ok,part,hG.run_isAgg,if_true,hG.run_size,Sem.run_pure,h3]
 unfold execOp
 simp [ho,F.eval hx,F.eval hy,this]
theorem y_idxGE (F:Fr N a sl) {n size:Nat} (hA:ArrT P t e n size) (hG:AggT P e size zz) (ho:o.op=.index t x y) {i:Int} {cs:List Value} (hx:ev sl x=some (.agg cs.toArray)) (he:cs=A++X) (hy:ev sl y=some (.int k i)) (h0:0≤i∧i<n) (hl:A.length=i.toNat * size) (hX:X.length=size) :
  (execOp a.eval o).run P w=.ok (.value (.agg X.toArray)) w :=
 y_idxG (C:=[]) F hA hG ho hx (by rw [List.append_nil];exact he) hy h0 hl hX
end
section
theorem St.freezeB {w0 w:World} {l:List HP} {A:HP} (h:St w0 w (A::l)) {C:HP} (hC:∀ {B B':Base} (S:Nat→Prop),A.pr B w S→B.le B'→(∀ b o,S b→w.heap[b]?=some o→B' b=some o)→C.pr B' w (fun _=>False)):St w0 w (C::l):=by
 classical
 obtain ⟨hv,B,f,hs,h1,h2,h3⟩:=h
 let B':Base:=fun b=>if f 0 b then w.heap[b]? else B b
 have hle:B.le B':=by
  intro b o hb
  have:¬ f 0 b:=fun hf=>by have:=(h3 0 b (by simp) hf).2.1;rw [hb] at this;cases this
  show (if f 0 b then _ else _)=_
  rw [if_neg this];exact hb
 have hsub:Sub B' w:=by
  intro b o hb
  have hb':(if f 0 b then w.heap[b]? else B b)=some o:=hb
  split at hb'
  ·exact hb'
  ·exact hs b o hb'
 refine ⟨hv,B',fun i=>match i with | 0=>fun _=>False | i+1=>f (i+1),hsub,?_,?_,?_⟩
 ·intro i D hi
  cases i with
  | zero =>
   simp at hi;subst hi
   exact hC (f 0) (h1 0 A rfl) hle fun b o hf ho=>by show (if f 0 b then _ else _)=_;rw [if_pos hf];exact ho
  | succ i=>exact D.mono (h1 (i+1) D (by simpa using hi)) hle
 ·intro i j b hi hj hfi hfj
  cases i with
  | zero=>exact hfi.elim
  | succ i =>
   cases j with
   | zero=>exact hfj.elim
   | succ j=>exact h2 (i+1) (j+1) b hi hj hfi hfj
 ·intro i b hi hf
  cases i with
  | zero=>exact hf.elim
  | succ i =>
   have h4:=h3 (i+1) b hi hf
   refine ⟨h4.1,?_,h4.2.2⟩
   show (if f 0 b then _ else _)=_
   rw [if_neg fun hf0=>by have:=h2 0 (i+1) b (by simp) hi hf0 hf;omega]
   exact h4.2.1
variable {κ β:Type} [DecidableEq κ] {R:Rp β} {ek:κ→Value} {ok:κ→Prop} {agg:Bool} {w0 w:World} {p:Option Nat} {m:κ→Option β} {l:List HP}
theorem St.mmFm (H:St w0 w (HP.mm p ek agg R ok m::l)):St w0 w (HP.fm p ek agg R ok m::l) :=
 H.freezeB fun {B B'} S h hle hw=>by
  obtain ⟨es,h1,h2⟩:=h
  refine ⟨es,h1.mono hle,?_⟩
  cases p with
  | none=>exact h2
  | some b =>
   obtain ⟨⟨es',c,h3,h4,h5,h6⟩,h7⟩:=h2
   exact ⟨es',c,hw b _ h7 h3,h4,h5,h6⟩
end
theorem St.rcSlN {α:Type} {R:Rp α} {w0 w:World} {l:List HP} {n0:Nat} (H:St w0 w l) (i:Nat) {cs:List Value} {x:List α} (hi:l[i]?=some (HP.rc (rSlN n0 R) cs x)):∃ p cap,cs=[.slice p x.length cap]∧St w0 w (HP.nsl n0 R p cap x::l):=by
 obtain ⟨B,H⟩:=H.out
 obtain ⟨S,p,cap,h,h1⟩:=H.at hi
 exact ⟨p,cap,h,(H.more (A:=HP.nsl n0 R p cap x) h1).st⟩
theorem row_midA {w:World} {b off n:Nat} {cs A X C:List Value} (h:Row w b off cs) (he:cs=A++(X++C)) (hA:A.length=n):Row w b (off+n) X:=by
 subst he;exact row_mid h hA
theorem row_midAE {w:World} {b off n:Nat} {cs A X:List Value} (h:Row w b off cs) (he:cs=A++X) (hA:A.length=n):Row w b (off+n) X:=by
 subst he;exact row_midE h hA
theorem St.blkEq {w0 w:World} {l:List HP} {b u:Nat} {cs:List Value} (H:St w0 w l) (j:Nat) (hj:l[j]?=some (HP.blk b cs u)) (cs':List Value) (he:cs=cs'):St w0 w (l.set j (HP.blk b cs' u)):=by
 subst he
 have:l.set j (HP.blk b cs u)=l:=by
  apply List.ext_getElem?
  intro i
  rw [List.getElem?_set]
  split
  ·rename_i e;subst e;split
   ·exact hj.symm
   ·rename_i h;rw [List.getElem?_eq_none (by omega)]
  ·rfl
 rw [this];exact H
theorem flA {A B:List Value} (h:Flat A) (k:Flat B):Flat (A++B):=fun v hv=>(List.mem_append.1 hv).elim (h v) (k v)
section
variable {P:Program} {t:TypeId} {ops:Array Oper} {rest:List Oper} {o:Oper} {a:Act} {W:List Oper→Act→World→Prop} {N:Fs} {l:List (Nat×Value)} {x y:Operand} {w w0:World} {ls:List HP}
theorem s_stC {z1 v x0:Value} (k:Walk P ops W) (F:Fr N a l) (hg:o.guard=none) (hd:o.dst=none) (hz:Zero1 P t z1) (ho:o.op=.store t x y) {b q:Nat} (hx:ev l x=some (.pointer (some ⟨b,q,none⟩))) {old A C:List Value} {u:TypeId} (hy:ev l y=some v) (hv:v.cells=#[v]) (h1:v.oneCell'=true)
  (H:St w0 w ls) (i:Nat) (hi:ls[i]?=some (HP.blk b old u)) (he:old=A++([x0]++C)) (hq:A.length=q)
  (hk:∀ w',St w0 w' (ls.set i (HP.blk b (A++([v]++C)) u))→W rest a w'):W (o::rest) a w:=by
 refine s_store1 k F hg hd hz ho hx hy hv h1 H i hi (by subst he hq;simp) ?_
 intro w' h
 have e:old.set q v=A++([v]++C):=by subst he hq;simp
 rw [e] at h
 exact hk w' h
end
section
variable {P:Program} {fn:Func} {a:Act} {w:World} {l:List (Nat×Value)} {r s t q:ResultVar} {v u x y:Value}
theorem run_resC4 {M:Fs} (F:Fr M a l) (hr:fn.results=#[r,s,t,q]) (h:RV P l w r v) (k:RV P l w s u) (k3:RV P l w t x) (k4:RV P l w q y):(results fn a.tmps).run P w=.ok (.tuple [v,u,x,y].toArray) w:=by
 have h1:=h.run F
 have h2:=k.run F
 have h3:=k3.run F
 have h4:=k4.run F
 have:results fn a.tmps=(do let x←rvSem a.tmps r;let y←rvSem a.tmps s;let z←rvSem a.tmps t;let z'←rvSem a.tmps q;pure (.tuple #[x,y,z,z'])):=by
  unfold results;rw [hr];simp [rvSem];cases r<;>cases s<;>cases t<;>cases q<;>rfl
 rw [this,Sem.run_bind,h1]
 simp only [Result.andThen_ok]
 rw [Sem.run_bind,h2]
 simp only [Result.andThen_ok]
 rw [Sem.run_bind,h3]
 simp only [Result.andThen_ok]
 rw [Sem.run_bind,h4];rfl
theorem x_resC4 {R:Ending→World→Prop} {N:Nat} (F:Fr ⟨N,[]⟩ a l) (hr:fn.results=#[r,s,t,q]) (h1:RV P l w r v) (h2:RV P l w s u) (h3:RV P l w t x) (h4:RV P l w q y) (h:R (.returned (.tuple [v,u,x,y].toArray)) w):bodyPost P fn R .ret a w:=bodyPost_ret (run_resC4 F hr h1 h2 h3 h4) F.defers h
end
end Go.Tri
