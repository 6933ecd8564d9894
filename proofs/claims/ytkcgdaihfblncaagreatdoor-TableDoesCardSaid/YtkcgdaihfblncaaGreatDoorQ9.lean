/- Texts Fa, StrA, PathA, LibA, FilesA, FilesB, S2. -/
import Derived.Test.YtkcgdaihfblncaaGreatDoorQ6
import Derived.Test.YtkcgdaihfblncaaGreatDoorProg
import Derived.Test.YtkcgdaihfblncaaGreatDoorQ8
import Derived.Test.YtkcgdaihfblncaaGreatDoorQ5
import Derived.Test.YtkcgdaihfblncaaGreatDoorShelf
import Derived.Test.YtkcgdaihfblncaaGreatDoorFilL
import Derived.Test.YtkcgdaihfblncaaGreatDoorQ4
set_option linter.unusedSimpArgs false
set_option linter.unusedVariables false
namespace Go.Proofs.YtkcgdaihfblncaaGreatDoor
open Go.RowKit Go.Tri
variable {w0 w:World} {l:List HP}
theorem fG:type_of% Tryz.underlying138:=Tryz.underlying138
theorem jZ:type_of% Tryz.underlying142:=Tryz.underlying142
theorem u3:type_of% Tryz.underlying3:=Tryz.underlying3
theorem u30:type_of% Tryz.underlying30:=Tryz.underlying30
theorem u32:type_of% Tryz.underlying32:=Tryz.underlying32
theorem u45:type_of% Tryz.underlying45:=Tryz.underlying45
theorem u47:type_of% Tryz.underlying47:=Tryz.underlying47
theorem u5:type_of% Tryz.underlying5:=Tryz.underlying5
theorem u9:type_of% Tryz.underlying9:=Tryz.underlying9
set_option maxRecDepth 100000
instance:UndC Tryz.prog 2 (Go.TypeDesc.int Go.IntKind.i64) :=⟨Tryz.underlying2⟩
instance:UndC Tryz.prog 3 (Go.TypeDesc.int Go.IntKind.i64) :=⟨u3⟩
instance:UndC Tryz.prog 4 Go.TypeDesc.bool :=⟨Tryz.underlying4⟩
instance:UndC Tryz.prog 5 (Go.TypeDesc.int Go.IntKind.u8) :=⟨u5⟩
instance:UndC Tryz.prog 6 (Go.TypeDesc.int Go.IntKind.u8) :=⟨Tryz.underlying6⟩
instance:BldC Tryz.prog 7 [0,1,2,3]:=⟨trivial⟩
instance:BldC Tryz.prog 8 [0,1,2,3]:=⟨trivial⟩
instance:UndC Tryz.prog 9 Go.TypeDesc.string :=⟨u9⟩
instance:UndC Tryz.prog 10 Go.TypeDesc.string :=⟨Tryz.underlying10⟩
instance:UndC Tryz.prog 11 Go.TypeDesc.string :=⟨Tryz.underlying11⟩
instance:UndC Tryz.prog 12 (Go.TypeDesc.int Go.IntKind.u64) :=⟨Tryz.underlying12⟩
instance:BldC Tryz.prog 13 [0,1]:=⟨trivial⟩
instance:BldC Tryz.prog 14 [0,1]:=⟨trivial⟩
instance:UndC Tryz.prog 15 (Go.TypeDesc.pointer 248) :=⟨Tryz.underlying15⟩
instance:UndC Tryz.prog 16 (Go.TypeDesc.pointer 251) :=⟨Tryz.underlying16⟩
instance:UndC Tryz.prog 17 (Go.TypeDesc.pointer 259) :=⟨Tryz.underlying17⟩
instance:BldC Tryz.prog 18 [0]:=⟨trivial⟩
instance:BldC Tryz.prog 19 [0]:=⟨trivial⟩
instance:UndC Tryz.prog 20 (Go.TypeDesc.interface #[]) :=⟨Tryz.underlying20⟩
instance:UndC Tryz.prog 21 (Go.TypeDesc.int Go.IntKind.i32) :=⟨Tryz.underlying21⟩
instance:UndC Tryz.prog 22 (Go.TypeDesc.slice 126) :=⟨Tryz.underlying22⟩
instance:UndC Tryz.prog 23 (Go.TypeDesc.slice 90) :=⟨Tryz.underlying23⟩
instance:BldC Tryz.prog 24 [0,1]:=⟨trivial⟩
instance:BldC Tryz.prog 25 [0,1]:=⟨trivial⟩
instance:UndC Tryz.prog 26 (Go.TypeDesc.slice 49) :=⟨Tryz.underlying26⟩
instance:BldC Tryz.prog 27 [0,2]:=⟨trivial⟩
instance:BldC Tryz.prog 28 [0,2]:=⟨trivial⟩
instance:UndC Tryz.prog 29 (Go.TypeDesc.int Go.IntKind.u64) :=⟨Tryz.underlying29⟩
instance:UndC Tryz.prog 30 (Go.TypeDesc.slice 5) :=⟨u30⟩
instance:BldC Tryz.prog 31 [0,1,2,3,4,5]:=⟨trivial⟩
instance:BldC Tryz.prog 32 [0,1,2,3,4,5]:=⟨trivial⟩
instance:BldC Tryz.prog 33 [0,1,2]:=⟨trivial⟩
instance:BldC Tryz.prog 34 [0,1,2]:=⟨trivial⟩
instance:UndC Tryz.prog 40 (Go.TypeDesc.slice 128) :=⟨Tryz.underlying40⟩
instance:UndC Tryz.prog 41 (Go.TypeDesc.slice 96) :=⟨Tryz.underlying41⟩
instance:BldC Tryz.prog 42 [0,1]:=⟨trivial⟩
instance:BldC Tryz.prog 43 [0,1]:=⟨trivial⟩
instance:UndC Tryz.prog 44 (Go.TypeDesc.int Go.IntKind.i64) :=⟨Tryz.underlying44⟩
instance:UndC Tryz.prog 45 (Go.TypeDesc.slice 9) :=⟨u45⟩
instance:BldC Tryz.prog 46 [0,1,2,3]:=⟨trivial⟩
instance:BldC Tryz.prog 47 [0,1,2,3]:=⟨trivial⟩
instance:BldC Tryz.prog 48 [0,1,2]:=⟨trivial⟩
instance:BldC Tryz.prog 49 [0,1,2]:=⟨trivial⟩
instance:UndC Tryz.prog 50 (Go.TypeDesc.array 4 49) :=⟨Tryz.underlying50⟩
instance:BldC Tryz.prog 51 [0,2]:=⟨trivial⟩
instance:BldC Tryz.prog 52 [0,2]:=⟨trivial⟩
instance:BldC Tryz.prog 89 [0,1,2]:=⟨trivial⟩
instance:BldC Tryz.prog 90 [0,1,2]:=⟨trivial⟩
instance:BldC Tryz.prog 95 [0,1,2]:=⟨trivial⟩
instance:BldC Tryz.prog 96 [0,1,2]:=⟨trivial⟩
instance:UndC Tryz.prog 102 (Go.TypeDesc.pointer 25) :=⟨Tryz.underlying102⟩
instance:UndC Tryz.prog 111 (Go.TypeDesc.pointer 113) :=⟨Tryz.underlying111⟩
instance:BldC Tryz.prog 112 [0]:=⟨trivial⟩
instance:BldC Tryz.prog 113 [0]:=⟨trivial⟩
instance:BldC Tryz.prog 125 [0,1]:=⟨trivial⟩
instance:BldC Tryz.prog 126 [0,1]:=⟨trivial⟩
instance:BldC Tryz.prog 127 [0,1,2]:=⟨trivial⟩
instance:BldC Tryz.prog 128 [0,1,2]:=⟨trivial⟩
instance:UndC Tryz.prog 137 (Go.TypeDesc.map 9 142) :=⟨Tryz.underlying137⟩
instance:UndC Tryz.prog 138 (Go.TypeDesc.map 9 142) :=⟨fG⟩
instance:BldC Tryz.prog 141 [0,1]:=⟨trivial⟩
instance:BldC Tryz.prog 142 [0,1]:=⟨trivial⟩
instance:UndC Tryz.prog 159 (Go.TypeDesc.int Go.IntKind.u64) :=⟨Tryz.underlying159⟩
instance:UndC Tryz.prog 162 (Go.TypeDesc.map 9 30) :=⟨Tryz.underlying162⟩
instance:UndC Tryz.prog 181 (Go.TypeDesc.map 9 9) :=⟨Tryz.underlying181⟩
instance:UndC Tryz.prog 191 (Go.TypeDesc.int Go.IntKind.i64) :=⟨Tryz.underlying191⟩
instance:UndC Tryz.prog 198 (Go.TypeDesc.int Go.IntKind.u32) :=⟨Tryz.underlying198⟩
instance:UndC Tryz.prog 207 (Go.TypeDesc.int Go.IntKind.u64) :=⟨Tryz.underlying207⟩
instance:UndC Tryz.prog 211 (Go.TypeDesc.pointer 3) :=⟨Tryz.underlying211⟩
instance:UndC Tryz.prog 214 (Go.TypeDesc.pointer 216) :=⟨Tryz.underlying214⟩
instance:BldC Tryz.prog 215 [0,1]:=⟨trivial⟩
instance:BldC Tryz.prog 216 [0,1]:=⟨trivial⟩
instance : UndC Tryz.prog 218 (Go.TypeDesc.interface #[("Error", 222)])  := ⟨Tryz.underlying218⟩
instance : UndC Tryz.prog 219 (Go.TypeDesc.interface #[("Error", 222)])  := ⟨Tryz.underlying219⟩
instance:UndC Tryz.prog 230 (Go.TypeDesc.pointer 207) :=⟨Tryz.underlying230⟩
instance:UndC Tryz.prog 233 (Go.TypeDesc.pointer 5) :=⟨Tryz.underlying233⟩
instance:UndC Tryz.prog 239 Go.TypeDesc.unsafePointer :=⟨Tryz.underlying239⟩
instance:UndC Tryz.prog 243 (Go.TypeDesc.array 256 5) :=⟨Tryz.underlying243⟩
instance:BldC Tryz.prog 244 [0,1]:=⟨trivial⟩
instance:BldC Tryz.prog 245 [0,1]:=⟨trivial⟩
instance:UndC Tryz.prog 246 (Go.TypeDesc.array 16 245) :=⟨Tryz.underlying246⟩
instance:BldC Tryz.prog 247 [0,1,2,3]:=⟨trivial⟩
instance:BldC Tryz.prog 248 [0,1,2,3]:=⟨trivial⟩
instance:UndC Tryz.prog 249 (Go.TypeDesc.array 0 16) :=⟨Tryz.underlying249⟩
instance:BldC Tryz.prog 250 [0]:=⟨trivial⟩
instance:BldC Tryz.prog 251 [0]:=⟨trivial⟩
instance:UndC Tryz.prog 253 (Go.TypeDesc.int Go.IntKind.u8) :=⟨Tryz.underlying253⟩
instance:UndC Tryz.prog 254 (Go.TypeDesc.int Go.IntKind.u8) :=⟨Tryz.underlying254⟩
instance:UndC Tryz.prog 256 (Go.TypeDesc.int Go.IntKind.i32) :=⟨Tryz.underlying256⟩
instance:UndC Tryz.prog 257 (Go.TypeDesc.int Go.IntKind.i32) :=⟨Tryz.underlying257⟩
instance:BldC Tryz.prog 258 [0,1,2,3,4,5,6,7,8,9,10]:=⟨trivial⟩
instance:BldC Tryz.prog 259 [0,1,2,3,4,5,6,7,8,9,10]:=⟨trivial⟩
instance:RpC Tryz.prog 22 (R_api_Pair):=⟨trivial⟩
instance:RpC Tryz.prog 23 (R_api_Snap):=⟨trivial⟩
instance:RpC Tryz.prog 26 (R_api_Seat):=⟨trivial⟩
instance:RpC Tryz.prog 30 (rByte):=⟨trivial⟩
instance:RpC Tryz.prog 40 (R_triremeref11_Node):=⟨trivial⟩
instance:RpC Tryz.prog 41 (R_triremeref12_Snap):=⟨trivial⟩
instance:RpC Tryz.prog 45 (rStr):=⟨trivial⟩
instance:MapT Tryz.prog 137 inferInstance aU true (aO) (fun _=>True):=⟨trivial⟩
instance:MapT Tryz.prog 138 inferInstance aU true (aO) (fun _=>True):=⟨trivial⟩
instance:MapT Tryz.prog 162 inferInstance aU false ((rSl rByte)) (fun _=>True):=⟨trivial⟩
instance:MapT Tryz.prog 181 inferInstance aU false (rStr) (fun _=>True):=⟨trivial⟩
instance:ZzC Tryz.prog 7 [.int .i64 0,.int .i64 0,.bool false,.int .u8 0]:=⟨trivial⟩
instance:ZzC Tryz.prog 8 [.int .i64 0,.int .i64 0,.bool false,.int .u8 0]:=⟨trivial⟩
instance:ZzC Tryz.prog 13 [.string .empty,.int .u64 0]:=⟨trivial⟩
instance:ZzC Tryz.prog 14 [.string .empty,.int .u64 0]:=⟨trivial⟩
instance:ZzC Tryz.prog 18 [.pointer none]:=⟨trivial⟩
instance:ZzC Tryz.prog 19 [.pointer none]:=⟨trivial⟩
instance:ZzC Tryz.prog 24 [.slice none 0 0,.slice none 0 0]:=⟨trivial⟩
instance:ZzC Tryz.prog 27 [.slice none 0 0,.slice none 0 0,.slice none 0 0]:=⟨trivial⟩
instance:ZzC Tryz.prog 31 [.int .i64 0,.string .empty,.string .empty,.int .i64 0,.int .i64 0,.slice none 0 0]:=⟨trivial⟩
instance:ZzC Tryz.prog 33 [.int .i64 0,.int .u64 0,.int .i64 0,.string .empty,.string .empty,.int .i64 0,.int .i64 0,.slice none 0 0]:=⟨trivial⟩
instance:ZzC Tryz.prog 42 [.slice none 0 0,.slice none 0 0]:=⟨trivial⟩
instance:ZzC Tryz.prog 46 [.int .i64 0,.int .i64 0,.slice none 0 0,.slice none 0 0]:=⟨trivial⟩
instance:ZzC Tryz.prog 48 [.int .i64 0,.int .u64 0,.int .i64 0,.int .i64 0,.slice none 0 0,.slice none 0 0]:=⟨trivial⟩
instance:ZzC Tryz.prog 89 [.string .empty,.int .u64 0,.slice none 0 0]:=⟨trivial⟩
instance:ZzC Tryz.prog 95 [.string .empty,.int .u64 0,.slice none 0 0]:=⟨trivial⟩
instance:ZzC Tryz.prog 112 [.slice none 0 0]:=⟨trivial⟩
instance:ZzC Tryz.prog 113 [.slice none 0 0]:=⟨trivial⟩
instance:ZzC Tryz.prog 125 [.slice none 0 0,.slice none 0 0]:=⟨trivial⟩
instance:ZzC Tryz.prog 127 [.string .empty,.bool false,.slice none 0 0]:=⟨trivial⟩
instance:ZzC Tryz.prog 141 [.bool false,.slice none 0 0]:=⟨trivial⟩
instance:ZzC Tryz.prog 215 [.pointer none,.slice none 0 0]:=⟨trivial⟩
instance:ZzC Tryz.prog 216 [.pointer none,.slice none 0 0]:=⟨trivial⟩
instance:ZzC Tryz.prog 244 [.int .u8 0,.int .u8 0]:=⟨trivial⟩
instance:ZzC Tryz.prog 245 [.int .u8 0,.int .u8 0]:=⟨trivial⟩
instance:ZzC Tryz.prog 247 [.pointer none,.pointer none,.pointer none,.string .empty]:=⟨trivial⟩
instance:ZzC Tryz.prog 248 [.pointer none,.pointer none,.pointer none,.string .empty]:=⟨trivial⟩
instance:ZzC Tryz.prog 250 []:=⟨trivial⟩
instance:ZzC Tryz.prog 251 []:=⟨trivial⟩
instance {α:Type} {R:Rp α} {n m:Nat} [A:RnC R m]:RnC (cW R n) (n*m):=⟨by show n*R.n=_;rw [A.pf]⟩
instance {b:Nat} {x:T_pack_Pen_o}:OpX (O_pack_Pen b x) ((Option Addr)×Nat) (fun i l=>HP.blk b ([.slice i.1 (x).length i.2]) 113::HP.ow rByte 5 i.1 i.2 x::l):=⟨fun H=>opx (fun _ _=>rfl) H⟩
instance {b:Nat} {x:T_pack_Pen_o} {q0:(Option Addr)} {q1:Nat} {l r0 r1:List HP} [h0:HasB l b [.slice q0 (x).length q1] 113 r0] [h1:Has r0 (HP.ow rByte 5 q0 q1 x) r1]:Has l (O_pack_Pen b x) r1:=⟨shx (q0,q1) (Sel.trans h0.pf (Sel.cons (h1.pf)))⟩
instance {b:Nat} {x:T_pack_Pen_o}:OpX (O_pack_Pen_1 b x) ((Option Addr)×Nat) (fun i l=>HP.blk b ([.slice i.1 (x).length i.2]) 113::HP.sl rByte i.1 i.2 x::l):=⟨fun H=>opx (fun _ _=>rfl) H⟩
instance {b:Nat} {x:T_pack_Pen_o} {q0:(Option Addr)} {q1:Nat} {l r0 r1:List HP} [h0:HasB l b [.slice q0 (x).length q1] 113 r0] [h1:Has r0 (HP.sl rByte q0 q1 x) r1]:Has l (O_pack_Pen_1 b x) r1:=⟨shx (q0,q1) (Sel.trans h0.pf (Sel.cons (h1.pf)))⟩
instance {b:Nat} {x:bX}:OpX (jW b x) ((Option Addr)×Nat×(Option Addr)×Nat) (fun i l=>HP.blk b ([.slice i.1 (x.1).length i.2.1,.slice i.2.2.1 (x.2).length i.2.2.2]) 25::HP.sl R_api_Pair i.1 i.2.1 x.1::HP.ow R_api_Snap 90 i.2.2.1 i.2.2.2 x.2::l):=⟨fun H=>opx (fun _ _=>rfl) H⟩
instance {b:Nat} {x:bX} {q0:(Option Addr)} {q1:Nat} {q2:(Option Addr)} {q3:Nat} {l r0 r1 r2:List HP} [h0:HasB l b [.slice q0 (x.1).length q1,.slice q2 (x.2).length q3] 25 r0] [h1:Has r0 (HP.sl R_api_Pair q0 q1 x.1) r1] [h2:Has r1 (HP.ow R_api_Snap 90 q2 q3 x.2) r2]:Has l (jW b x) r2:=⟨shx (q0,q1,q2,q3) (Sel.trans h0.pf (Sel.cons (Sel.trans h1.pf (Sel.cons (h2.pf)))))⟩
instance {b:Nat} {x:T_triremeref12_State_o}:OpX (O_triremeref12_State b x) ((Option Addr)×Nat×(Option Addr)×Nat) (fun i l=>HP.blk b ([.slice i.1 (x.1).length i.2.1,.slice i.2.2.1 (x.2).length i.2.2.2]) 43::HP.sl R_triremeref11_Node i.1 i.2.1 x.1::HP.ow R_triremeref12_Snap 96 i.2.2.1 i.2.2.2 x.2::l):=⟨fun H=>opx (fun _ _=>rfl) H⟩
instance {b:Nat} {x:T_triremeref12_State_o} {q0:(Option Addr)} {q1:Nat} {q2:(Option Addr)} {q3:Nat} {l r0 r1 r2:List HP} [h0:HasB l b [.slice q0 (x.1).length q1,.slice q2 (x.2).length q3] 43 r0] [h1:Has r0 (HP.sl R_triremeref11_Node q0 q1 x.1) r1] [h2:Has r1 (HP.ow R_triremeref12_Snap 96 q2 q3 x.2) r2]:Has l (O_triremeref12_State b x) r2:=⟨shx (q0,q1,q2,q3) (Sel.trans h0.pf (Sel.cons (Sel.trans h1.pf (Sel.cons (h2.pf)))))⟩
set_option maxRecDepth 100000
set_option maxHeartbeats 4000000
theorem zF {s:List UInt8} {p:List UInt8}  {r:(List UInt8)×Bool} (hm:pF s p=some r) (H:St w0 w (l)) :
  Calls Tryz.prog 156 [.string (txb (s)),.string (txb (p))].toArray w (fun e w'=>∃ v,e=.returned v/\v=.tuple [.string (txb (r.1)),.bool (r.2)].toArray/\St w0 w' (l)):=by
 unfold pF at hm
 cases hm
 exact (Tryz.strings_CutPrefix (txb s) (txb p) w).mono fun e w' ⟨he,hw⟩=>⟨_,by rw [he,iO,iO];rfl,rfl,hw▸H⟩
instance:Ctr Tryz.prog 156 0 (type_of% @zF):=⟨enters Tryz.func156 (by kernel_rfl) rfl,@zF⟩
theorem aC1 {s:List UInt8} {sep:List UInt8} {sv:Int} {n:Int}  {r:(List (List UInt8))} (hm:genSplit s sep sv n=some r) (H:St w0 w (l)) :
  Calls Tryz.prog 171 [.string (txb (s)),.string (txb (sep)),.int .i64 (sv),.int .i64 (n)].toArray w (fun e w'=>∃ v,e=.returned v/\∃ (p0:Option Addr) (c0:Nat),v=.slice p0 (r).length c0/\St w0 w' (HP.ow rStr 9 p0 c0 r::l)):=by
 unfold genSplit at hm
 obtain ⟨rfl,rfl,rfl,hl,rfl⟩:=aJx hm
 have hsz:(txb s).size<4294967281:=by rw [jH];omega
 have hC:Calls Tryz.prog 189 #[.string (txb s),.string ⟨#[47]⟩] w fun e w'=>e=.returned (.int .i64 (Lib.countB (txb s) ⟨#[47]⟩))/\w'=w:=by
   refine (Tryz.strings_Count_one (txb s) 47 w).mono fun e w' ⟨he,hw⟩=>⟨?_,hw⟩
   rw [he]
   show _=Ending.returned (Value.int .i64 ((Lib.count (txb s).data.toList [47]:Nat):Int))
   rw [Lib.count_one]
   rfl
 have hle:=Lib.countB_le (⟨#[47]⟩:ByteArray) (by decide) (txb s).size (txb s) (Nat.le_refl _)
 have c:=Any.strings_genSplit_core Tryz.lays221 (by kernel_rfl) (txb s) ⟨#[47]⟩ 0 (-1) (Lib.countB (txb s) ⟨#[47]⟩+1) w hsz (by decide) (by decide)
   (fun x c hx=>(Tryz.strings_Index_one x 47 _).mono fun e w' ⟨he,hw⟩=>⟨by
     rw [he]
     show _=Ending.returned (Value.int .i64 (Lib.index x.data.toList [47]))
     rw [Lib.index_one],hw⟩) hC (by decide) (by decide) (by rw [if_pos (by decide)];omega)
 have hlen:=Lib.splitB_all (⟨#[47]⟩:ByteArray) (by decide) 0 _ (txb s) rfl
 rw [Nat.add_sub_cancel,hlen] at c
 have hd:=Lib.splitB_data (⟨#[47]⟩:ByteArray) 0 (Lib.countB (txb s) ⟨#[47]⟩) (txb s)
 have e0:(⟨#[47]⟩:ByteArray).data.toList=[47]:=rfl
 rw [e0,iO] at hd
 have hcb:Lib.countB (txb s) ⟨#[47]⟩=Lib.count s [47]:=by
   show Lib.count (txb s).data.toList [47]=_
   rw [iO]
 rw [hcb] at hd hlen c
 rw [aEq] at hd
 have hB:Lib.splitB ⟨#[47]⟩ 0 (Lib.count s [47]) (txb s)=(sp s).map txb:=by
   have:((sp s).map txb).map (·.data.toList)=sp s:=by
     rw [List.map_map]
     conv=>rhs;rw [<- List.map_id (sp s)]
     exact List.map_congr_left fun x _=>iO x
   rw [<- hd,List.map_map]
   conv=>lhs;rw [<- List.map_id (Lib.splitB ⟨#[47]⟩ 0 (Lib.count s [47]) (txb s))]
   exact List.map_congr_left fun x _=>(aPz x).symm
 have hn:(sp s).length=Lib.count s [47]+1:=by rw [<- hlen,hB,List.length_map]
 have hx:Lib.cellsOf (Lib.splitB ⟨#[47]⟩ 0 (Lib.count s [47]) (txb s)) (Lib.count s [47]+1)=((sp s).map fun x=>Value.string (txb x)).toArray:=by
   rw [<- hlen,Lib.cellsOf_full,hB,List.map_map];rfl
 rw [hx] at c
 rw [<- hn] at c
 refine c.mono fun e w' ⟨he,hw⟩=>⟨_,he,_,_,rfl,?_⟩
 subst hw
 have hm0:(sp s).length<=maxLen:=by
   have h1:Lib.countB (txb s) ⟨#[47]⟩<=(txb s).size:=hle
   rw [hcb,jH] at h1
   unfold maxLen;omega
 exact H.newTexts 9 (sp s) hm0
instance:Ctr Tryz.prog 171 0 (type_of% @aC1):=⟨enters Tryz.func171 (by kernel_rfl) rfl,@aC1⟩
theorem aAh {xs:List (List UInt8)} {sep:List UInt8} {p0:Option Addr} {c0:Nat} {r:(List UInt8)} (hm:tA xs sep=some r) (H:St w0 w (HP.sl rStr p0 c0 xs::l)) :
  Calls Tryz.prog 159 [.slice p0 (xs).length c0,.string (txb (sep))].toArray w (fun e w'=>∃ v,e=.returned v/\v=.string (txb (r))/\St w0 w' (l)):=by
 unfold tA at hm
 obtain ⟨rfl,hx,hj,rfl⟩:=aOk hm
 have hsl:Sl w (.slice p0 (xs).length c0) (xs).length (xs.map fun l=>Value.string (txb l)):=by
   obtain ⟨B,S,hs,⟨css,h1,h2⟩,_⟩:=H.get 0 rfl
   have h3:=h2 w hs
   have h4:∀ (css:List (List Value)) (xs:List (List UInt8)),RdL rStr B css xs->css.flatten=xs.map fun l=>Value.string (txb l):=by
     intro css
     induction css with
     | nil=>intro xs h;cases xs with
       | nil=>rfl
       | cons x xs=>exact h.elim
     | cons c css ih=>intro xs h;cases xs with
       | nil=>exact h.elim
       | cons x xs =>
         obtain ⟨e1,e2⟩:=h
         have e1:c=[.string (txb x)]:=e1
         simp [e1,ih xs e2]
   rwa [h4 css xs h1] at h3
 have hcap:=H.slCap 0 rfl
 cases xs with
 | nil=>exact (Tryz.strings_Join_none p0 c0 ⟨#[47]⟩ w).mono fun e w' ⟨he,hw⟩=>⟨_,he,rfl,hw▸H.tail⟩
 | cons x r =>
   obtain ⟨b,off,rfl,hrow⟩:=hsl.rowAt (c:=c0) rfl (by simp)
   have hd:((x::r).map txb).map (·.data.toList)=x::r:=by
     rw [List.map_map]
     conv=>rhs;rw [<- List.map_id (x::r)]
     exact List.map_congr_left fun y _=>iO y
   have hcells:∀ (j:Nat) y,((x::r).map txb)[j]?=some y->w.cell? ⟨b,off+j,none⟩=some (.string y):=by
     intro j y hy
     refine hrow j _ ?_
     rw [List.getElem?_map] at hy ⊢
     cases hz:(x::r)[j]? with
     | none=>rw [hz] at hy;cases hy
     | some z=>rw [hz] at hy;cases hy;rfl
   have h0:=hcells 0 (txb x) rfl
   have e0:(⟨#[47]⟩:ByteArray).data.toList=[47]:=rfl
   have c:=Tryz.strings_Join b off c0 ((x::r).map txb) ⟨#[47]⟩ w hcells (World.block_lt_of_cell? _ _ h0) (by simp at hx ⊢;omega) (by simpa using hcap) (by rw [hd,e0];unfold jn at hj;omega)
   rw [hd,e0,List.length_map] at c
   exact c.mono fun e w' ⟨he,hw⟩=>⟨_,he,rfl,(H.below hw).tail⟩
instance:Ctr Tryz.prog 159 0 (type_of% @aAh):=⟨enters Tryz.func159 (by kernel_rfl) rfl,@aAh⟩
theorem aG3 {s:List UInt8} {p:List UInt8}  {r:Int} (hm:sP s p=some r) (H:St w0 w (l)) :
  Calls Tryz.prog 141 [.string (txb (s)),.string (txb (p))].toArray w (fun e w'=>∃ v,e=.returned v/\v=.int .i64 (r)/\St w0 w' (l)):=by
 unfold sP at hm
 obtain ⟨c,rfl,rfl⟩:=aKc hm
 exact (Tryz.stringslite_Index_one (txb s) c w).mono fun e w' ⟨he,hw⟩=>⟨_,by rw [he,iO],rfl,hw▸H⟩
instance:Ctr Tryz.prog 141 0 (type_of% @aG3):=⟨enters Tryz.func141 (by kernel_rfl) rfl,@aG3⟩
theorem zO {x0_:List UInt8} {x1_:List UInt8}  {r:(List UInt8)×(List UInt8)×Bool} (hm:qM x0_ x1_=some r) (H:St w0 w (l)) :
  Calls Tryz.prog 124 [.string (txb (x0_)),.string (txb (x1_))].toArray w (fun e w'=>∃ v,e=.returned v/\v=.tuple [.string (txb (r.1)),.string (txb (r.2.1)),.bool (r.2.2)].toArray/\St w0 w' (l)):=by
 unfold qM at hm
 exact au Tryz.func124
instance:Ctr Tryz.prog 124 0 (type_of% @zO):=⟨enters Tryz.func124 (by kernel_rfl) rfl,@zO⟩
theorem xJ {x0_:List UInt8} {x1_:List UInt8}  {r:(List UInt8)×(List UInt8)×Bool} (hm:nS x0_ x1_=some r) (H:St w0 w (l)) :
  Calls Tryz.prog 102 [.string (txb (x0_)),.string (txb (x1_))].toArray w (fun e w'=>∃ v,e=.returned v/\v=.tuple [.string (txb (r.1)),.string (txb (r.2.1)),.bool (r.2.2)].toArray/\St w0 w' (l)):=by
 unfold nS at hm
 exact au Tryz.func102
instance:Ctr Tryz.prog 102 0 (type_of% @xJ):=⟨enters Tryz.func102 (by kernel_rfl) rfl,@xJ⟩
theorem aGr {s:List UInt8} {sep:List UInt8}  {r:(List (List UInt8))} (hm:pY s sep=some r) (H:St w0 w (l)) :
  Calls Tryz.prog 157 [.string (txb (s)),.string (txb (sep))].toArray w (fun e w'=>∃ v,e=.returned v/\∃ (p0:Option Addr) (c0:Nat),v=.slice p0 (r).length c0/\St w0 w' (HP.ow rStr 9 p0 c0 r::l)):=by
 unfold pY at hm
 exact au Tryz.func157
instance:Ctr Tryz.prog 157 0 (type_of% @aGr):=⟨enters Tryz.func157 (by kernel_rfl) rfl,@aGr⟩
set_option maxRecDepth 100000
set_option maxHeartbeats 4000000
theorem aFu {x0_:List UInt8}  {r:Bool} (hm:jL x0_=some r) (H:St w0 w (l)) :
  Calls Tryz.prog 51 [.string (txb (x0_))].toArray w (fun e w'=>∃ v,e=.returned v/\v=.bool (r)/\St w0 w' (l)):=by
 unfold jL at hm
 have h0:LH0 2 [0,5] [] (fun (s0:Int) z=>(6,.int .i64 (s0))::z) (fun s0 z=>z):=⟨trivial⟩
 exact au Tryz.func51
instance:Ctr Tryz.prog 51 0 (type_of% @aFu):=⟨enters Tryz.func51 (by kernel_rfl) rfl,@aFu⟩
theorem aEd {x0_:List UInt8}  {r:Bool} (hm:oA x0_=some r) (H:St w0 w (l)) :
  Calls Tryz.prog 158 [.string (txb (x0_))].toArray w (fun e w'=>∃ v,e=.returned v/\v=.bool (r)/\St w0 w' (l)):=by
 unfold oA at hm
 exact au Tryz.func158
instance:Ctr Tryz.prog 158 0 (type_of% @aEd):=⟨enters Tryz.func158 (by kernel_rfl) rfl,@aEd⟩
theorem elem45:ElemT Tryz.prog 45 9 1 16 (.string ByteArray.empty):=⟨u45,by kernel_rfl,by kernel_rfl,by decide⟩
instance:ElmC Tryz.prog 45 9 1 16 (.string ByteArray.empty):=⟨elem45⟩
theorem plain9:Plain Tryz.prog 9:=by unfold Plain;rw [u9];rfl
instance:PlnC Tryz.prog 9:=⟨plain9⟩
theorem aGx {s:List (List UInt8)} {p0:Option Addr} {c0:Nat} {r:Int} (hm:tB s=some r) (H:St w0 w (HP.sl rStr p0 c0 s::l)) :
  Calls Tryz.prog 86 [.slice p0 (s).length c0,.func (.func 158) #[] #[]].toArray w (fun e w'=>∃ v,e=.returned v/\v=.int .i64 (r)/\St w0 w' (l)):=by
 unfold tB at hm
 have h0:LH0 2 [0,1,7] [] (fun (s0:Int) z=>(8,.int .i64 (s0))::z) (fun s0 z=>z):=⟨trivial⟩
 exact au Tryz.func86
instance:Ctr Tryz.prog 86 0 (type_of% @aGx):=⟨enters Tryz.func86 (by kernel_rfl) rfl,@aGx⟩
theorem ent86:En Tryz.prog 86:=enters Tryz.func86 (by kernel_rfl) rfl
theorem aFs {s:List (List UInt8)} {p0:Option Addr} {c0:Nat} {r:Bool} (hm:qA s=some r) (H:St w0 w (HP.sl rStr p0 c0 s::l)) :
  Calls Tryz.prog 55 [.slice p0 (s).length c0,.func (.func 158) #[] #[]].toArray w (fun e w'=>∃ v,e=.returned v/\v=.bool (r)/\St w0 w' (l)):=by
 unfold qA at hm
 exact au Tryz.func55
instance:Ctr Tryz.prog 55 0 (type_of% @aFs):=⟨enters Tryz.func55 (by kernel_rfl) rfl,@aFs⟩
theorem aB6 {p:List UInt8}  {r:(List (List UInt8))×Bool} (hm:fT p=some r) (H:St w0 w (l)) :
  Calls Tryz.prog 137 [.string (txb (p))].toArray w (fun e w'=>∃ v,e=.returned v/\∃ (p0:Option Addr) (c0:Nat),v=.tuple [.slice p0 (r.1).length c0,.bool (r.2)].toArray/\St w0 w' (HP.sl rStr p0 c0 r.1::l)):=by
 unfold fT at hm
 exact au Tryz.func137
instance:Ctr Tryz.prog 137 0 (type_of% @aB6):=⟨enters Tryz.func137 (by kernel_rfl) rfl,@aB6⟩
theorem aCh {x0_:List (List UInt8)} {p0:Option Addr} {c0:Nat} {r:(List UInt8)} (hm:kL x0_=some r) (H:St w0 w (HP.sl rStr p0 c0 x0_::l)) :
  Calls Tryz.prog 138 [.slice p0 (x0_).length c0].toArray w (fun e w'=>∃ v,e=.returned v/\v=.string (txb (r))/\St w0 w' (l)):=by
 unfold kL at hm
 exact au Tryz.func138
instance:Ctr Tryz.prog 138 0 (type_of% @aCh):=⟨enters Tryz.func138 (by kernel_rfl) rfl,@aCh⟩
theorem aBv {x0_:List UInt8}  {r:Int} (hm:gL x0_=some r) (H:St w0 w (l)) :
  Calls Tryz.prog 116 [.string (txb (x0_))].toArray w (fun e w'=>∃ v,e=.returned v/\v=.int .i64 (r)/\St w0 w' (l)):=by
 unfold gL at hm
 exact au Tryz.func116
instance:Ctr Tryz.prog 116 0 (type_of% @aBv):=⟨enters Tryz.func116 (by kernel_rfl) rfl,@aBv⟩
theorem aEb {x0_:List UInt8}  {r:(List UInt8)} (hm:jT x0_=some r) (H:St w0 w (l)) :
  Calls Tryz.prog 117 [.string (txb (x0_))].toArray w (fun e w'=>∃ v,e=.returned v/\v=.string (txb (r))/\St w0 w' (l)):=by
 unfold jT at hm
 exact au Tryz.func117
instance:Ctr Tryz.prog 117 0 (type_of% @aEb):=⟨enters Tryz.func117 (by kernel_rfl) rfl,@aEb⟩
theorem aDo {x0_:List UInt8}  {r:(List UInt8)} (hm:oX x0_=some r) (H:St w0 w (l)) :
  Calls Tryz.prog 144 [.string (txb (x0_))].toArray w (fun e w'=>∃ v,e=.returned v/\v=.string (txb (r))/\St w0 w' (l)):=by
 unfold oX at hm
 exact au Tryz.func144
instance:Ctr Tryz.prog 144 0 (type_of% @aDo):=⟨enters Tryz.func144 (by kernel_rfl) rfl,@aDo⟩
theorem aGn {x0_:List (List UInt8)} {x1_:List (List UInt8)} {p0:Option Addr} {c0:Nat} {p1:Option Addr} {c1:Nat} {r:Bool} (hm:kX x0_ x1_=some r) (H:St w0 w (HP.sl rStr p0 c0 x0_::HP.sl rStr p1 c1 x1_::l)) :
  Calls Tryz.prog 143 [.slice p0 (x0_).length c0,.slice p1 (x1_).length c1].toArray w (fun e w'=>∃ v,e=.returned v/\v=.bool (r)/\St w0 w' (l)):=by
 unfold kX at hm
 have h0:LH0 4 [0,1,12] [] (fun (s0:Int) z=>(13,.int .i64 (s0))::z) (fun s0 z=>z):=⟨trivial⟩
 exact au Tryz.func143
instance:Ctr Tryz.prog 143 0 (type_of% @aGn):=⟨enters Tryz.func143 (by kernel_rfl) rfl,@aGn⟩
theorem aC8 {x0_:List UInt8} {x1_:List UInt8}  {r:Bool} (hm:lT x0_ x1_=some r) (H:St w0 w (l)) :
  Calls Tryz.prog 128 [.string (txb (x0_)),.string (txb (x1_))].toArray w (fun e w'=>∃ v,e=.returned v/\v=.bool (r)/\St w0 w' (l)):=by
 unfold lT at hm
 exact au Tryz.func128
instance:Ctr Tryz.prog 128 0 (type_of% @aC8):=⟨enters Tryz.func128 (by kernel_rfl) rfl,@aC8⟩
theorem zero9:Zero1 Tryz.prog 9 (.string ByteArray.empty):=⟨by kernel_rfl,rfl⟩
instance:ZerC Tryz.prog 9 (.string ByteArray.empty):=⟨zero9⟩
instance:MapC Tryz.prog 181 9 9 aU false (rStr) (fun _=>True) ([Value.string ByteArray.empty]) ([]):=⟨Tryz.underlying181,(eI u9),(fun w=>zero9.run w),(fun _=>rfl)⟩
theorem aEk {x0_:List UInt8}  {r:(List (List UInt8))} (hm:pD x0_=some r) (H:St w0 w (l)) :
  Calls Tryz.prog 142 [.string (txb (x0_))].toArray w (fun e w'=>∃ v,e=.returned v/\∃ (p0:Option Addr) (c0:Nat),v=.slice p0 (r).length c0/\St w0 w' (HP.sl rStr p0 c0 r::l)):=by
 unfold pD at hm
 have h0:LH2 3 [3,12] [] (fun (s0:(List (List UInt8))×Int) (p1:Option Addr) (c1:Nat) z=>(2,.slice p1 (s0.1).length c1)::(13,.int .i64 (s0.2))::z) (fun s0 p1 c1 z=>HP.ow rStr 9 p1 c1 s0.1::z):=⟨trivial⟩
 exact au Tryz.func142
instance:Ctr Tryz.prog 142 0 (type_of% @aEk):=⟨enters Tryz.func142 (by kernel_rfl) rfl,@aEk⟩
set_option maxRecDepth 100000
set_option maxHeartbeats 4000000
theorem sL {w:World} {v u:Value} {x y:List UInt8} (hx:Sl w v x.length (aQ x)) (hy:Sl w u y.length (aQ y)):Calls Tryz.prog 114 [v,u].toArray w (fun e w'=>e=.returned (.int .i64 (Lib.compareBytes x y))/\w'=w):=by
 refine dM Tryz.func114 rfl rfl rfl ?_
 intro a F
 replace F:Fr ⟨8,[]⟩ a [(0,v),(1,u)]:=F
 refine wp_seq (dI ?_)
 refine sv F rfl (dV F rfl rfl) fun a F=>?_
 refine wpList_nil (cJ ?_)
 refine wp_seq (dI ?_)
 refine sv F rfl (dB F rfl rfl) fun a F=>sv F rfl (dB F rfl rfl) fun a F=>?_
 refine sv F rfl (aFe F rfl rfl (v:=.int .i64 (Lib.compareBytes x y)) (w:=w) (by rw [run_callFunc_extern Tryz.func135 (by kernel_rfl) (by kernel_rfl) (by kernel_rfl) (e:=Extern.BytealgCompare.compare) (by kernel_rfl),aIx hx hy];rfl)) fun a F=>?_
 refine sv F rfl (dV F rfl rfl) fun a F=>?_
 refine wpList_nil (cJ ?_)
 refine wp_ret ?_
 refine eF F rfl rfl ?_
 exact ⟨rfl,rfl⟩
instance:Ctr Tryz.prog 114 0 (type_of% @sL):=⟨enters Tryz.func114 (by kernel_rfl) rfl,@sL⟩
theorem w_cmpB {a:List UInt8} {b:List UInt8} {p0:Option Addr} {c0:Nat} {p1:Option Addr} {c1:Nat} {r:Int} (hm:cmpB a b=some r) (H:St w0 w (HP.sl rByte p0 c0 a::HP.sl rByte p1 c1 b::l)) :
  Calls Tryz.prog 114 [.slice p0 (a).length c0,.slice p1 (b).length c1].toArray w (fun e w'=>∃ v,e=.returned v/\v=.int .i64 (r)/\St w0 w' (l)):=by
 unfold cmpB at hm
 cases hm
 have hx:Sl w (.slice p0 (a).length c0) (a).length (aQ a):=H.slBy 0 rfl
 have hy:Sl w (.slice p1 (b).length c1) (b).length (aQ b):=H.slBy 1 rfl
 exact (sL hx hy).mono fun e w' h=>⟨_,h.1,rfl,by rw [h.2];exact H.tail.tail⟩
instance:Ctr Tryz.prog 114 1 (type_of% @w_cmpB):=⟨enters Tryz.func114 (by kernel_rfl) rfl,@w_cmpB⟩
theorem aEx {xs:List (List UInt8)} {p0:Option Addr} {c0:Nat} {r:(List (List UInt8))} (hm:sW xs=some r) (H:St w0 w (HP.ow rStr 9 p0 c0 xs::l)) :
  Calls Tryz.prog 145 [.slice p0 (xs).length c0].toArray w (fun e w'=>∃ v,e=.returned v/\v=.tuple [].toArray/\((r).length=(xs).length)/\St w0 w' (HP.ow rStr 9 p0 c0 r::l)):=by
 unfold sW at hm
 obtain ⟨hn,rfl⟩:=aM5 hm
 rcases H.owCase 0 rfl with ⟨rfl,rfl,rfl⟩ | ⟨b,rfl⟩
 · exact (Tryz.slices_Sort_string_none none 0 w).mono fun e w' ⟨he,hw⟩=>⟨_,he,rfl,List.length_mergeSort _,by rw [hw];simpa using H⟩
 · obtain ⟨h1,h2,_,h4⟩:=H.putStr 0 rfl
   refine (Tryz.slices_Sort_string b 0 c0 xs w h1 h2 (by omega)).mono fun e w' ⟨he,n,os,hw⟩=>⟨_,he,rfl,List.length_mergeSort _,?_⟩
   have h5:=h4 (xs.mergeSort fun x y=>decide (x<=y)) xs.length n os (List.length_mergeSort _) (Nat.le_of_eq (List.length_mergeSort _).symm)
   rw [List.take_of_length_le (Nat.le_of_eq (List.length_mergeSort _))] at h5
   rw [hw];exact h5
instance:Ctr Tryz.prog 145 0 (type_of% @aEx):=⟨enters Tryz.func145 (by kernel_rfl) rfl,@aEx⟩
theorem ent114:En Tryz.prog 114:=enters Tryz.func114 (by kernel_rfl) rfl
theorem ent113:En Tryz.prog 113:=enters Tryz.func113 (by kernel_rfl) rfl
theorem plain30:Plain Tryz.prog 30:=by unfold Plain;rw [u30];rfl
instance:PlnC Tryz.prog 30:=⟨plain30⟩
instance:FlpC Tryz.prog 142 1 1:=⟨_,_,jZ,rfl,rfl,plain30⟩
theorem fld126_0:aM Tryz.prog 126 0 0:=by unfold aM;rw [Tryz.underlying126];kernel_rfl
instance:FldC Tryz.prog 126 0 0:=⟨fld126_0⟩
theorem agg126:AggT Tryz.prog 126 2 [.slice none 0 0,.slice none 0 0]:=⟨by rw [Tryz.underlying126];rfl,by kernel_rfl,by kernel_rfl⟩
instance:AggC Tryz.prog 126 2 [.slice none 0 0,.slice none 0 0]:=⟨agg126⟩
theorem wS {B:Base} (x y:PE B) (w:World) (hs:Sub B w):Calls Tryz.prog 113 [.agg (bQ x).toArray,.agg (bQ y).toArray].toArray w (fun e w'=>e=.returned (.int .i64 (kT x y))/\∃ q os',w'=Go.Sort.grow (w.drewN q) os'):=by
 obtain ⟨q1,c0,v1,hx0,hx1⟩:=tG hs x
 obtain ⟨q2,c1,v2,hy1,hy2⟩:=tG hs y
 refine dM Tryz.func113 rfl rfl rfl ?_
 intro a F
 replace F:Fr ⟨10,[]⟩ a [(0,.agg (x.1.1).toArray),(1,.agg (y.1.1).toArray)]:=F
 rw [hx0,hy1] at F
 refine wp_seq (dI ?_)
 refine sv F rfl (yY F rfl rfl) fun a F=>sv F rfl (yY F rfl rfl) fun a F=>sv F rfl (dV F rfl rfl) fun a F=>?_
 refine wpList_nil (cJ ?_)
 obtain ⟨w1,hw1⟩:∃ w1,w1=w.alloc (.cells [Value.slice q1 x.1.2.1.length c0,v1].toArray 126):=⟨_,rfl⟩
 obtain ⟨w2,hw2⟩:∃ w2,w2=w1.alloc (.cells [Value.slice q2 y.1.2.1.length c1,v2].toArray 126):=⟨_,rfl⟩
 have hs2:Sub B w2:=fun b o hb=>by rw [hw2,hw1];exact gZ _ _ b (by have:=hs.lt hb;simp;omega) |>.trans ((gZ _ _ b (hs.lt hb)).trans (hs b o hb))
 have hb1:Blk w2 w.heap.size [Value.slice q1 x.1.2.1.length c0,v1] 126:=by rw [hw2,hw1];exact (Blk.new w _ _).alloc _
 have hb2:Blk w2 w1.heap.size [Value.slice q2 y.1.2.1.length c1,v2] 126:=by rw [hw2];exact Blk.new _ _ _
 rw [<- hw1] at F
 rw [<- hw1,<- hw2]
 generalize w.heap.size=b0 at *
 generalize w1.heap.size=b1 at *
 obtain ⟨q3,c2,v3,hx2,hx3⟩:=tG hs2 x
 obtain ⟨q4,c3,v4,hy3,hy4⟩:=tG hs2 y
 rw [hx0] at hx2
 rw [hy1] at hy3
 simp only [List.cons.injEq,Value.slice.injEq,true_and,and_true] at hx2 hy3
 obtain ⟨⟨rfl,rfl⟩,rfl⟩:=hx2
 obtain ⟨⟨rfl,rfl⟩,rfl⟩:=hy3
 refine wp_seq (dI ?_)
 refine sv F rfl (pA F fld126_0 rfl rfl) fun a F=>sv F rfl (bS F plain30 rfl rfl (hb1.cell _)) fun a F=>sv F rfl (pA F fld126_0 rfl rfl) fun a F=>sv F rfl (bS F plain30 rfl rfl (hb2.cell _)) fun a F=>?_
 refine aHr (v:=.int .i64 (kT x y)) wkP F rfl rfl rfl rfl (nA F rfl rfl ent114) (R:=fun w'=>w'=w2) ((sL hx3 hy4).mono fun e w' h=>⟨h.1,h.2⟩) ?_;rintro w a rfl F
 refine sv F rfl (dV F rfl rfl) fun a F=>?_
 refine wpList_nil (cJ ?_)
 refine wp_ret ?_
 refine eF F rfl rfl ?_
 refine ⟨rfl,0,#[Obj.cells [Value.slice q1 x.1.2.1.length c0,v1].toArray 126 (0,0),Obj.cells [Value.slice q2 y.1.2.1.length c1,v2].toArray 126 (0,0)],?_⟩
 rw [hw2,hw1,Go.Sort.alloc_eq_grow,Go.Sort.alloc_eq_grow,Go.Sort.grow_grow]
 rfl
instance:Ctr Tryz.prog 113 0 (type_of% @wS):=⟨enters Tryz.func113 (by kernel_rfl) rfl,@wS⟩
theorem wQ {xs:List T_api_Pair} {p0:Option Addr} {c0:Nat} {r:(List T_api_Pair)} (hm:rP xs=some r) (H:St w0 w (HP.ow R_api_Pair 126 p0 c0 xs::l)) :
  Calls Tryz.prog 112 [.slice p0 (xs).length c0,.func (.func 113) #[] #[]].toArray w (fun e w'=>∃ v,e=.returned v/\v=.tuple [].toArray/\((r).length=(xs).length)/\St w0 w' (HP.ow R_api_Pair 126 p0 c0 r::l)):=by
 unfold rP at hm
 obtain ⟨hnd,hn,rfl⟩:=aN5 hm
 rcases H.owCase 0 rfl with ⟨rfl,rfl,rfl⟩ | ⟨b,rfl⟩
 · exact (AnyF.slices_SortFunc_none Tryz.layz112 none 0 (.func (.func 113) #[] #[]) w).mono fun e w' ⟨he,hw⟩=>⟨_,he,rfl,by simp [eW],by rw [hw,show eW []=[] by simp [eW]];exact H⟩
 · obtain ⟨B,d,hd,hH,hb,hB,hK⟩:=H.sortP 0 rfl
   have hlen:d.toArray.size=xs.length:=by rw [<- hd];simp
   have:=AnyQ.slices_SortFunc Tryz.layz112 2 agg126.run_isAgg agg126.run_szOf bQ rU aOu kT aMv 113 #[] b 0 c0 d.toArray w ent113 (fun m os dk hs x y=>wS x y _ (hB dk m os)) hH hb (by rw [hlen];omega)
   rw [hlen] at this
   refine this.mono ?_
   rintro e w' ⟨rfl,d',n,os,hp,hs,rfl⟩
   rw [<- hlen] at hp hs
   obtain ⟨h1,h2,h3⟩:=aJj hp hs
   have h4:=hK d' n os h1
   rw [hd] at h2
   have h5:=aHl hnd h2 h3
   rw [h5] at h4
   exact ⟨_,rfl,rfl,(List.mergeSort_perm xs leP).length_eq,h4⟩
instance:Ctr Tryz.prog 112 0 (type_of% @wQ):=⟨enters Tryz.func112 (by kernel_rfl) rfl,@wQ⟩
theorem tU:aM Tryz.prog 32 2 2:=by unfold aM;rw [u32];kernel_rfl
instance:FldC Tryz.prog 32 2 2:=⟨tU⟩
theorem ent131:En Tryz.prog 131:=enters Tryz.func131 (by kernel_rfl) rfl
theorem tI {b0:Nat} {cs:List Value} {tx:List UInt8} (hto:cs[2]?=some (.string (txb tx))) (x:List UInt8) (W:World) (hb:Blk W b0 cs 32):Calls Tryz.prog 131 #[encStr x,.pointer (some ⟨b0,0,none⟩)] W (fun e w'=>e=.returned (.bool (cA x tx))/\∃ q,w'=W.drewN q):=by
 refine dM (args:=[encStr x,.pointer (some ⟨b0,0,none⟩)]) Tryz.func131 rfl rfl rfl ?_
 intro a F
 replace F:Fr ⟨8,[]⟩ a [(0,.string (txb x)),(1,.pointer (some ⟨b0,0,none⟩))]:=F
 refine wp_seq (dI ?_)
 refine sv F rfl (dV F rfl rfl) fun a F=>?_
 refine wpList_nil (cJ ?_)
 refine wp_seq (dI ?_)
 refine sv F rfl (dB F rfl rfl) fun a F=>sv F rfl (pA F tU rfl rfl) fun a F=>sv F rfl (bS F plain9 rfl rfl ((hb.cell _).trans hto)) fun a F=>sv F rfl (zI F rfl rfl rfl) fun a F=>sv F rfl (dV F rfl rfl) fun a F=>?_
 refine wpList_nil (cJ ?_)
 refine wp_ret ?_
 refine eF F rfl rfl ?_
 exact ⟨rfl,0,rfl⟩
instance:Ctr Tryz.prog 131 0 (type_of% @tI):=⟨enters Tryz.func131 (by kernel_rfl) rfl,@tI⟩
theorem wW (fv:Value) (w:World):Calls Tryz.prog 130 [.slice none 0 0,fv].toArray w (fun e w'=>e=.returned (.slice none 0 0)/\w'=w):=by
 refine dM Tryz.func130 rfl rfl rfl ?_
 intro a F
 replace F:Fr ⟨42,[]⟩ a [(0,.slice none 0 0),(1,fv)]:=F
 refine wp_seq (dI ?_)
 refine sv F rfl (dV F rfl rfl) fun a F=>?_
 refine wpList_nil (cJ ?_)
 refine wp_seq (dI ?_)
 refine sv F rfl (dB F rfl rfl) fun a F=>sv F rfl (dB F rfl rfl) fun a F=>?_
 refine aHr (v:=.int .i64 (-1)) wkP F rfl rfl rfl rfl (nA F rfl rfl ent86) (R:=fun w'=>w'=w) ((AnyE.slices_IndexFunc_empty Tryz.layz86 none 0 fv w).mono fun e w' h=>⟨h.1,h.2⟩) ?_;rintro w a rfl F
 refine sv F rfl (dV F rfl rfl) fun a F=>?_
 refine wpList_nil (cJ ?_)
 refine wp_seq (wp_seq (dI ?_))
 refine sv F rfl (dB F rfl rfl) fun a F=>sv F rfl (aAv F rfl rfl rfl) fun a F=>?_
 refine wpList_nil (cJ ?_)
 refine kI F rfl ?_
 refine wp_seq (dI ?_)
 refine sv F rfl (dB F rfl rfl) fun a F=>sv F rfl (dV F rfl rfl) fun a F=>?_
 refine wpList_nil (cJ ?_)
 refine wp_ret ?_
 refine pE ?_
 refine eF F rfl rfl ?_
 exact ⟨rfl,rfl⟩
instance:Ctr Tryz.prog 130 0 (type_of% @wW):=⟨enters Tryz.func130 (by kernel_rfl) rfl,@wW⟩
theorem aDh {p:Option Addr} {c b3:Nat} {xs r:List (List UInt8)} {cs:List Value} {tx:List UInt8} (hm:pL xs tx=some r) (hto:cs[2]?=some (.string (txb tx))) (H:St w0 w (HP.ow rStr 9 p c xs::HP.blk b3 cs 32::l)) :
  Calls Tryz.prog 130 [.slice p xs.length c,.func (.func 131) #[] [.pointer (some ⟨b3,0,none⟩)].toArray].toArray w (fun e w'=>∃ v,e=.returned v/\v=.slice p r.length c/\St w0 w' (HP.ow rStr 9 p c r::HP.blk b3 cs 32::l)):=by
 obtain ⟨hn,rfl⟩:=aKs hm
 have hoc:=St.owCase (R:=rStr) (e:=9) (p:=p) (cap:=c) (xs:=xs) H 0 rfl
 obtain hoc | ⟨b,rfl⟩:=hoc
 · obtain ⟨hp,hc,hx⟩:=hoc
   subst hp hc hx
   have hq:=wW (.func (.func 131) #[] [.pointer (some ⟨b3,0,none⟩)].toArray) w
   rw [List.length_nil]
   refine Calls.mono hq fun e w' ⟨he,hw⟩=>⟨_,he,rfl,hw▸H⟩
 · have hap:=St.apart (e:=9) (b:=b) (b3:=b3) (cap:=c) (xs:=xs) (cs:=cs) (t:=32) H 0 1 rfl rfl Nat.zero_ne_one
   obtain ⟨hb1,hb2,hb3⟩:=hap
   obtain ⟨h1,h2,hcap,h4⟩:=H.putStr 0 rfl
   have hp:PredAt Tryz.prog 131 #[.pointer (some ⟨b3,0,none⟩)] encStr (fun x=>cA x tx) w:=fun W x hW=>tI hto x W (by unfold Blk at hb1 ⊢;rw [hW.block b3 hb2];exact hb1)
   have hpo:PredOver Tryz.prog 131 #[.pointer (some ⟨b3,0,none⟩)] encStr (fun x=>cA x tx) b 0 xs.toArray.size w:=fun n os dk x _=>tI hto x _ (by
     unfold Blk at hb1 ⊢
     have hw:(sortWorld encStr w b 0 n dk os).heap=(w.heap.modify b (Sort.onCells (Sort.putCells encStr 0 dk)))++os:=rfl
     rw [hw,Array.getElem?_append_left (by simpa using hb2),Array.getElem?_modify,if_neg (Ne.symm hb3)];exact hb1)
   have:=AnyE.slices_DeleteFunc Tryz.layz130 encStr (fun x=>rfl) (fun x=>cA x tx) 131 #[.pointer (some ⟨b3,0,none⟩)] ent131 [] (fun w=>zero9.run w) b 0 c xs.toArray w hp hpo h1 (by simp;omega) (by simpa using hcap)
   refine this.mono fun e w' ⟨he,q,hw⟩=>⟨_,he,?_,?_⟩
   · simp
   · have hfl:(xs.filter fun x=>!cA x tx).length<=xs.length:=List.length_filter_le _ _
     have h5:=h4 ((xs.filter fun x=>!cA x tx)++List.replicate (xs.length-(xs.filter fun x=>!cA x tx).length) []) (xs.filter fun x=>!cA x tx).length q #[] (by simp;omega) (by simp)
     rw [List.take_left' rfl] at h5
     rw [hw]
     simpa using h5
instance:Ctr Tryz.prog 130 1 (type_of% @aDh):=⟨enters Tryz.func130 (by kernel_rfl) rfl,@aDh⟩
set_option maxRecDepth 100000
set_option maxHeartbeats 4000000
theorem elem30:ElemT Tryz.prog 30 5 1 1 (.int .u8 0):=⟨u30,by kernel_rfl,by kernel_rfl,by decide⟩
instance:ElmC Tryz.prog 30 5 1 1 (.int .u8 0):=⟨elem30⟩
theorem w_cloneB {s:List UInt8} {p0:Option Addr} {c0:Nat} {r:(List UInt8)} (hm:cloneB s=some r) (H:St w0 w (HP.sl rByte p0 c0 s::l)) :
  Calls Tryz.prog 88 [.slice p0 (s).length c0].toArray w (fun e w'=>∃ v,e=.returned v/\∃ (p1:Option Addr) (c1:Nat),v=.slice p1 (r).length c1/\St w0 w' (HP.ow rByte 5 p1 c1 r::l)):=by
 unfold cloneB at hm
 exact au Tryz.func88
instance:Ctr Tryz.prog 88 0 (type_of% @w_cloneB):=⟨enters Tryz.func88 (by kernel_rfl) rfl,@w_cloneB⟩
theorem fld113_0:aM Tryz.prog 113 0 0:=by unfold aM;rw [Tryz.underlying113];kernel_rfl
instance:FldC Tryz.prog 113 0 0:=⟨fld113_0⟩
theorem zero30:Zero1 Tryz.prog 30 (.slice none 0 0):=⟨by kernel_rfl,rfl⟩
instance:ZerC Tryz.prog 30 (.slice none 0 0):=⟨zero30⟩
instance:MapC Tryz.prog 162 9 30 aU false ((rSl rByte)) (fun _=>True) ([Value.slice none 0 0]) ([]):=⟨Tryz.underlying162,(eI u9),(fun w=>zero30.run w),(fun _=>mS _ _)⟩
theorem w_penRaw {p:T_pack_Pen_o} {b:List UInt8} {bo0:Nat} {p0:Option Addr} {c0:Nat} {r:T_pack_Pen_o} (hm:penRaw p b=some r) (H:St w0 w (O_pack_Pen bo0 p::HP.sl rByte p0 c0 b::l)) :
  Calls Tryz.prog 87 [.pointer (some ⟨bo0,0,none⟩),.slice p0 (b).length c0].toArray w (fun e w'=>∃ v,e=.returned v/\v=.tuple [].toArray/\St w0 w' (O_pack_Pen bo0 r::l)):=by
 unfold penRaw at hm
 exact au Tryz.func87
instance:Ctr Tryz.prog 87 0 (type_of% @w_penRaw):=⟨enters Tryz.func87 (by kernel_rfl) rfl,@w_penRaw⟩
theorem zero5:Zero1 Tryz.prog 5 (.int .u8 0):=⟨by kernel_rfl,rfl⟩
instance:ZerC Tryz.prog 5 (.int .u8 0):=⟨zero5⟩
theorem w_penUint {p:T_pack_Pen_o} {n:Int} {size:Int} {bo0:Nat} {r:Int×T_pack_Pen_o} (hm:penUint p n size=some r) (H:St w0 w (O_pack_Pen bo0 p::l)) :
  Calls Tryz.prog 56 [.pointer (some ⟨bo0,0,none⟩),.int .u64 (n),.int .i64 (size)].toArray w (fun e w'=>∃ v,e=.returned v/\v=.int .i64 (r.1)/\St w0 w' (O_pack_Pen bo0 r.2::l)):=by
 unfold penUint at hm
 have h0:LH0 4 [0,1] [] (fun (s0:T_pack_Pen_o×Int) z=>(7,.int .i64 (s0.2))::z) (fun s0 z=>O_pack_Pen bo0 s0.1::z):=⟨trivial⟩
 have h1:MH 6 [10,11,14] [14] (scP [(0,0),(0,1),(0,2),(0,3),(0,4),(0,5),(0,6),(0,7),(0,8),(0,9),(2,10),(2,11),(0,12),(0,13),(3,14)]) [0]:=⟨trivial⟩
 exact au Tryz.func56
instance:Ctr Tryz.prog 56 0 (type_of% @w_penUint):=⟨enters Tryz.func56 (by kernel_rfl) rfl,@w_penUint⟩
theorem ent88:En Tryz.prog 88:=enters Tryz.func88 (by kernel_rfl) rfl
theorem w_penData {p:T_pack_Pen_o} {bo0:Nat} {r:(List UInt8)×T_pack_Pen_o} (hm:penData p=some r) (H:St w0 w (O_pack_Pen bo0 p::l)) :
  Calls Tryz.prog 58 [.pointer (some ⟨bo0,0,none⟩)].toArray w (fun e w'=>∃ v,e=.returned v/\∃ (p0:Option Addr) (c0:Nat),v=.slice p0 (r.1).length c0/\St w0 w' (HP.ow rByte 5 p0 c0 r.1::O_pack_Pen_1 bo0 r.2::l)):=by
 unfold penData at hm
 exact au Tryz.func58
instance:Ctr Tryz.prog 58 0 (type_of% @w_penData):=⟨enters Tryz.func58 (by kernel_rfl) rfl,@w_penData⟩
theorem plain3:Plain Tryz.prog 3:=by unfold Plain;rw [u3];rfl
instance:PlnC Tryz.prog 3:=⟨plain3⟩
theorem uJ (p:Option Addr) (n c:Nat) (x:Int) {m:Nat} (hx:x=((m:Nat):Int)) (hm:0<m) (w0 w:World) (l:List HP) (H:St w0 w l) :
  Calls Tryz.prog 111 [.slice p n c,.int .i64 x].toArray w (fun e w'=>∃ v,e=.returned v/\∃ b0 b1,v=.func (.func 132) #[] [.pointer (some ⟨b0,0,none⟩),.pointer (some ⟨b1,0,none⟩)].toArray/\St w0 w' (HP.blk b1 [.int .i64 ((m:Nat):Int)] 3::HP.blk b0 [.slice p n c] 30::l)):=by
 subst hx
 refine dM Tryz.func111 rfl rfl rfl ?_
 intro a F
 replace F:Fr ⟨9,[]⟩ a [(0,.slice p n c),(1,.int .i64 ((m:Nat):Int))]:=F
 refine wp_seq ?_
 refine dI ?_
 refine uN wkP F rfl rfl rfl rfl rfl rfl H fun b0 w a H F=>uN wkP F rfl rfl rfl rfl rfl rfl H fun b1 w a H F=>sv F rfl (dV F rfl rfl) fun a F=>?_
 refine wpList_nil ?_
 refine cJ ?_
 refine wp_seq ?_
 refine wp_seq ?_
 refine dI ?_
 refine sv F rfl (bS F plain3 rfl rfl ((H.blk 0 rfl).cell _)) fun a F=>sv F rfl (uT F rfl rfl rfl) fun a F=>?_
 refine wpList_nil ?_
 refine cJ ?_
 refine aHg F rfl (fun hc=>absurd hc (by omega)) (fun hc=>?_)
 refine wp_skip ?_
 refine cJ ?_
 refine wp_seq ?_
 refine dI ?_
 refine sv F rfl (aE9 F rfl rfl) fun a F=>sv F rfl (dV F rfl rfl) fun a F=>?_
 refine wpList_nil ?_
 refine cJ ?_
 refine wp_ret ?_
 refine eF F rfl rfl ?_
 exact ⟨_,rfl,b0,b1,rfl,H⟩
set_option maxHeartbeats 2000000 in
instance:Ctr Tryz.prog 111 0 (type_of% @uJ):=⟨enters Tryz.func111 (by kernel_rfl) rfl,@uJ⟩
theorem aO6 (b0 b1:Nat) (p:Option Addr) (c:Nat) (xs:List UInt8) (n:Nat) (hn:0<n) (hm:n<=9223372036854775807) (hmx:xs.length<=1152921504606846976) :
    xN Tryz.prog 132 [.pointer (some ⟨b0,0,none⟩),.pointer (some ⟨b1,0,none⟩)] (fun z:Nat×List UInt8=>[.slice (shp p (z.1+z.2.length) z.1 1) z.2.length z.2.length]) [HP.blk b1 [.int .i64 ((n:Nat):Int)] 3,HP.blk b0 [.slice p xs.length c] 30,HP.sl rByte p c xs] (fun pre x=>∃ post,cQ n xs=pre++x::post) (fun pre=>pre=cQ n xs):=by
 intro L w0 G E J KK next stop g0 hY W fr H
 refine aIu Tryz.func132 rfl rfl rfl ?_
 intro a F
 replace F:Fr ⟨31,[]⟩ a [(0,.func (.yield L) #[] #[]),(1,.pointer (some ⟨b0,0,none⟩)),(2,.pointer (some ⟨b1,0,none⟩))]:=F
 have H:St w0 W ([HP.blk b1 [.int .i64 ((n:Nat):Int)] 3,HP.blk b0 [.slice p xs.length c] 30,HP.sl rByte p c xs]++(J g0++fr)):=H.perm iC
 have hcap:=H.slCap 2 rfl
 refine wpIn_seq ?_
 refine lL ?_
 refine bD wkI F rfl rfl rfl rfl (dV F rfl rfl) fun a F=>?_
 refine wpListIn_nil ?_
 refine cJ ?_
 refine wpIn_block ?_
 refine aNt (fun (q:G×Nat×Int) aa ww=>(q.2.2=((q.2.1*n:Nat):Int))/\Rn next g0 ((cQ n xs).take q.2.1) q.1/\Fr ⟨31,[]⟩ aa [(0,.func (.yield L) #[] #[]),(1,.pointer (some ⟨b0,0,none⟩)),(2,.pointer (some ⟨b1,0,none⟩)),(4,.int .i64 q.2.2)]/\St w0 ww ([HP.blk b1 [.int .i64 ((n:Nat):Int)] 3,HP.blk b0 [.slice p xs.length c] 30,HP.sl rByte p c xs]++(J q.1++fr))) (fun q=>xs.length-q.2.1) (g0,0,0) ⟨by simp,by show Rn next g0 ((cQ n xs).take 0) g0;rw [List.take_zero];rfl,F.cut _ ⟨rfl,rfl,rfl,rfl,trivial⟩,H⟩ ?_
 clear F H
 rintro ⟨g,k,i⟩ a w ⟨hi,hrn,F,H⟩
 simp only at hi hrn F H
 refine wpIn_seq ?_
 refine wpIn_seq ?_
 refine lL ?_
 refine bD wkI F rfl rfl rfl rfl (dB F rfl rfl) fun a F=>?_
 refine bD wkI F rfl rfl rfl rfl (bS F plain30 rfl rfl ((H.blk 1 rfl).cell _)) fun a F=>?_
 refine bD wkI F rfl rfl rfl rfl (tC F rfl u30 rfl) fun a F=>?_
 refine bD wkI F rfl rfl rfl rfl (uT F rfl rfl rfl) fun a F=>?_
 refine wpListIn_nil ?_
 refine cJ ?_
 refine aPw F rfl (fun hc=>?_) (fun hc=>?_)
 · refine wpIn_skip ?_
   refine cJ ?_
   have hkl:k*n<xs.length:=by omega
   have hat:=aM8 hn hkl
   obtain ⟨y,hy⟩:∃ y,y=(xs.drop (k*n)).take n:=⟨_,rfl⟩
   rw [<- hy] at hat
   have hmem:(k*n,y)∈cQ n xs:=List.mem_of_getElem? hat
   have hyl:y.length=min n (xs.length-k*n):=by rw [hy];simp
   have hsl:=aBm hkl hy
   have hsl1:aY xs ((k*n:Nat):Int) ((xs.length:Nat):Int)=some (xs.drop (k*n)):=by unfold aY;rw [if_pos (by omega),Int.toNat_natCast,Int.toNat_natCast,List.take_length]
   have hkn:0<k->n<=k*n:=fun h=>Nat.le_mul_of_pos_left n h
   have hs2:(k+1)*n=k*n+n:=Nat.succ_mul k n
   have hle:(k+1)*n<=9223372036854775807:=by
     rcases Nat.eq_zero_or_pos k with h0 | h0
     · subst h0;omega
     · have:=hkn h0;omega
   have hw1:IntKind.i64.wrap (((k*n:Nat):Int)+((y.length:Nat):Int))=((k*n+y.length:Nat):Int):=wrap_i64 (by omega) (by omega) (by omega)
   have hw2:IntKind.i64.wrap (((k*n:Nat):Int)+((n:Nat):Int))=(((k+1)*n:Nat):Int):=wrap_i64 (by omega) (by omega) (by omega)
   subst hi
   refine wpIn_seq ?_
   refine wpIn_block ?_
   refine wpIn_seq ?_
   refine qri H (by kernel_rfl) (by kernel_rfl) ?_
   refine qv F rfl (fun u hu=>bS F plain3 rfl rfl ((hu.blk 0 rfl).cell _)) fun a F=>?_
   refine qv F rfl (fun u hu=>bS F plain30 rfl rfl ((hu.blk 1 rfl).cell _)) fun a F=>?_
   refine qv F rfl (fun u hu=>dB F rfl rfl) fun a F=>?_
   refine qv F rfl (fun u hu=>iS F elem30 rfl rfl rfl hsl1 hcap) fun a F=>?_
   refine qv F rfl (fun u hu=>tC F rfl u30 rfl) fun a F=>?_
   refine qv F rfl (fun u hu=>zJ F rfl rfl rfl (r:=((y.length:Nat):Int)) (by rw [List.length_drop,hyl];omega)) fun a F=>?_
   refine qv F rfl (fun u hu=>dV F rfl rfl) fun a F=>?_
   refine pT ?_
   clear H;intro w H
   refine cJ ?_
   refine wpIn_seq ?_
   refine lL ?_
   refine bD wkI F rfl rfl rfl rfl (dB F rfl rfl) fun a F=>?_
   refine bD wkI F rfl rfl rfl rfl (bS F plain30 rfl rfl ((H.blk 1 rfl).cell _)) fun a F=>?_
   refine bD wkI F rfl rfl rfl rfl (dB F rfl rfl) fun a F=>?_
   refine bD wkI F rfl rfl rfl rfl (dB F rfl rfl) fun a F=>?_
   refine bD wkI F rfl rfl rfl rfl (dB F rfl rfl) fun a F=>?_
   refine bD wkI F rfl rfl rfl rfl (tO F rfl rfl rfl hw1) fun a F=>?_
   refine bD wkI F rfl rfl rfl rfl (dB F rfl rfl) fun a F=>?_
   refine bD wkI F rfl rfl rfl rfl (dB F rfl rfl) fun a F=>?_
   refine bD wkI F rfl rfl rfl rfl (tO F rfl rfl rfl hw1) fun a F=>?_
   refine bD wkI F rfl rfl rfl rfl (aIn F elem30 rfl rfl rfl rfl rfl hsl hcap) fun a F=>?_
   rw [Int.toNat_natCast,Int.toNat_natCast,Nat.add_sub_cancel_left] at F
   have hadm:∃ post,cQ n xs=(cQ n xs).take k++(k*n,y)::post:=by
     refine ⟨(cQ n xs).drop (k+1),?_⟩
     obtain ⟨h2,h3⟩:=List.getElem?_eq_some_iff.1 hat
     rw [<- h3,<- List.drop_eq_getElem_cons h2,List.take_append_drop]
   refine aH5 F rfl rfl rfl rfl rfl rfl (R:=fun bo W'=>(bo=true/\∃ g',next g (k*n,y) g'/\St w0 W' (J g'++([HP.blk b1 [.int .i64 ((n:Nat):Int)] 3,HP.blk b0 [.slice p xs.length c] 30,HP.sl rByte p c xs]++fr)))\/(bo=false/\∃ kk,stop g (k*n,y) kk/\St w0 W' (KK kk++([HP.blk b1 [.int .i64 ((n:Nat):Int)] 3,HP.blk b0 [.slice p xs.length c] 30,HP.sl rByte p c xs]++fr)))) (YieldI.mono (hY _ g (k*n,y) _ ([HP.blk b1 [.int .i64 ((n:Nat):Int)] 3,HP.blk b0 [.slice p xs.length c] 30,HP.sl rByte p c xs]++fr) hadm hrn (H.perm (iC (A:=[HP.blk b1 [.int .i64 ((n:Nat):Int)] 3,HP.blk b0 [.slice p xs.length c] 30,HP.sl rByte p c xs])))) ?_) ?_
   · rintro ee W' (⟨g',rfl,hn,H'⟩ | ⟨kk,rfl,hs,H'⟩)
     · exact ⟨true,rfl,.inl ⟨rfl,g',hn,H'⟩⟩
     · exact ⟨false,rfl,.inr ⟨rfl,kk,hs,H'⟩⟩
   intro bo w a hR F
   refine bD wkI F rfl rfl rfl rfl (aF5 F rfl rfl) fun a F=>?_
   refine wpListIn_nil ?_
   refine cJ ?_
   rcases hR with ⟨rfl,g',hn2,H⟩ | ⟨rfl,kk,hst,H⟩
   · refine aQk F rfl ?_
     refine wpIn_skip ?_
     refine yD ?_
     refine cJ ?_
     replace H:St w0 w ([HP.blk b1 [.int .i64 ((n:Nat):Int)] 3,HP.blk b0 [.slice p xs.length c] 30,HP.sl rByte p c xs]++(J g'++fr)):=H.perm (iC (A:=J g'))
     refine lL ?_
     refine bD wkI F rfl rfl rfl rfl (dB F rfl rfl) fun a F=>?_
     refine bD wkI F rfl rfl rfl rfl (bS F plain3 rfl rfl ((H.blk 0 rfl).cell _)) fun a F=>?_
     refine bD wkI F rfl rfl rfl rfl (tO F rfl rfl rfl hw2) fun a F=>?_
     refine bD wkI F rfl rfl rfl rfl (dV F rfl rfl) fun a F=>?_
     refine wpListIn_nil ?_
     refine cJ ⟨(g',k+1,_),⟨rfl,?_,F.cut _ ⟨rfl,rfl,rfl,rfl,trivial⟩,H⟩,?_⟩
     · show Rn next g0 ((cQ n xs).take (k+1)) g'
       rw [List.take_add_one,hat]
       exact Rn.snoc hrn hn2
     · show xs.length-(k+1)<xs.length-k
       have:k<=k*n:=Nat.le_mul_of_pos_right k hn
       omega
   · refine aKi F rfl ?_
     refine wpIn_ret ?_
     refine sF ?_
     refine pE ?_
     refine pE ?_
     refine sF ?_
     refine aJa F rfl ?_
     exact ⟨_,rfl,.inr ⟨_,g,(k*n,y),kk,hadm,hrn,hst,H⟩⟩
 · refine wpIn_exit ?_
   refine pB ?_
   refine pB ?_
   refine sI ?_
   refine aPy F rfl ?_
   rw [aO2 hn (by omega)] at hrn
   exact ⟨_,rfl,.inl ⟨_,g,rfl,hrn,H.perm (iC (A:=[HP.blk b1 [.int .i64 ((n:Nat):Int)] 3,HP.blk b0 [.slice p xs.length c] 30,HP.sl rByte p c xs]))⟩⟩
theorem agz142:AggT Tryz.prog 142 2 ([.bool false,.slice none (([]:List UInt8)).length 0]):=⟨by rw [jZ];rfl,by kernel_rfl,by kernel_rfl⟩
theorem agg142:AggT Tryz.prog 142 2 [.bool false,.slice none 0 0]:=⟨by rw [jZ];rfl,by kernel_rfl,by kernel_rfl⟩
instance:AggC Tryz.prog 142 2 [.bool false,.slice none 0 0]:=⟨agg142⟩
theorem aggz142:AggT Tryz.prog 142 2 ([Value.bool false]++[Value.slice none 0 0]):=⟨by rw [jZ];rfl,by kernel_rfl,by kernel_rfl⟩
instance:MapC Tryz.prog 137 9 142 aU true (aO) (fun _=>True) (([Value.bool false]++[Value.slice none 0 0])) ((false,[])):=⟨Tryz.underlying137,(eI u9),(fun w=>aggz142.run_zero w),(fun B=>⟨_,_,rfl,(fun _=>rfl) B,((fun _=>mS _ _) B)⟩)⟩
instance:MapC Tryz.prog 138 9 142 aU true (aO) (fun _=>True) (([Value.bool false]++[Value.slice none 0 0])) ((false,[])):=⟨fG,(eI u9),(fun w=>aggz142.run_zero w),(fun B=>⟨_,_,rfl,(fun _=>rfl) B,((fun _=>mS _ _) B)⟩)⟩
theorem fld142_0:aM Tryz.prog 142 0 0:=by unfold aM;rw [jZ];kernel_rfl
instance:FldC Tryz.prog 142 0 0:=⟨fld142_0⟩
theorem plain4:Plain Tryz.prog 4:=by unfold Plain;rw [Tryz.underlying4];rfl
instance:PlnC Tryz.prog 4:=⟨plain4⟩
instance:FlpC Tryz.prog 142 0 0:=⟨_,_,jZ,rfl,rfl,plain4⟩
theorem aGs {s:(List UInt8)->Option aG} {p:List UInt8} {q1:Option Nat} {r:aG×Int} (hm:fO s p=some r) (H:St w0 w (HP.mm q1 aU true aO (fun _=>True) s::l)) :
  Calls Tryz.prog 125 [.map q1,.string (txb (p))].toArray w (fun e w'=>∃ v,e=.returned v/\∃ (cs0:List Value),v=.tuple [.agg cs0.toArray,.int .i64 (r.2)].toArray/\St w0 w' (HP.rc aO cs0 r.1::HP.mm q1 aU true aO (fun _=>True) s::l)):=by
 unfold fO at hm
 have h0:LH0 5 [0,1,4,20,21] [] (fun (s0:Int) z=>(22,.int .i64 (s0))::z) (fun s0 z=>z):=⟨trivial⟩
 exact au Tryz.func125
instance:Ctr Tryz.prog 125 0 (type_of% @aGs):=⟨enters Tryz.func125 (by kernel_rfl) rfl,@aGs⟩
theorem uO {s:(List UInt8)->Option aG} {p:List UInt8} {q1:Option Nat} {r:aG×Int} (hm:lJ s p=some r) (H:St w0 w (HP.mm q1 aU true aO (fun _=>True) s::l)) :
  Calls Tryz.prog 126 [.map q1,.string (txb (p))].toArray w (fun e w'=>∃ v,e=.returned v/\∃ (cs0:List Value),v=.tuple [.agg cs0.toArray,.int .i64 (r.2)].toArray/\St w0 w' (HP.rc aO cs0 r.1::HP.mm q1 aU true aO (fun _=>True) s::l)):=by
 unfold lJ at hm
 exact au Tryz.func126
instance:Ctr Tryz.prog 126 0 (type_of% @uO):=⟨enters Tryz.func126 (by kernel_rfl) rfl,@uO⟩
theorem aCk {s:(List UInt8)->Option aG} {p:List UInt8} {q1:Option Nat} {r:Int} (hm:mJ s p=some r) (H:St w0 w (HP.mm q1 aU true aO (fun _=>True) s::l)) :
  Calls Tryz.prog 104 [.map q1,.string (txb (p))].toArray w (fun e w'=>∃ v,e=.returned v/\v=.int .i64 (r)/\St w0 w' (HP.mm q1 aU true aO (fun _=>True) s::l)):=by
 unfold mJ at hm
 exact au Tryz.func104
instance:Ctr Tryz.prog 104 0 (type_of% @aCk):=⟨enters Tryz.func104 (by kernel_rfl) rfl,@aCk⟩
theorem fld142_1:aM Tryz.prog 142 1 1:=by unfold aM;rw [jZ];kernel_rfl
instance:FldC Tryz.prog 142 1 1:=⟨fld142_1⟩
theorem zC {s:(List UInt8)->Option aG} {q1:Option Nat} {r:Bool} (hm:pQ s=some r) (H:St w0 w (HP.mm q1 aU true aO (fun _=>True) s::l)) :
  Calls Tryz.prog 82 [.map q1].toArray w (fun e w'=>∃ v,e=.returned v/\v=.bool (r)/\St w0 w' (HP.mm q1 aU true aO (fun _=>True) s::l)):=by
 unfold pQ at hm
 have h0:qS 2 [0,6] 6 [] (fun (s0:Unit) z=>z) (fun s0 z=>z):=⟨trivial⟩
 exact au Tryz.func82
instance:Ctr Tryz.prog 82 0 (type_of% @zC):=⟨enters Tryz.func82 (by kernel_rfl) rfl,@zC⟩
theorem lA {data:List UInt8} {n:Int} {p0:Option Addr} {c0:Nat} {r:(List UInt8)} (hm:sized data n=some r) (H:St w0 w (HP.sl rByte p0 c0 data::l)) :
  Calls Tryz.prog 127 [.slice p0 (data).length c0,.int .i64 (n)].toArray w (fun e w'=>∃ v,e=.returned v/\∃ (p1:Option Addr) (c1:Nat),v=.slice p1 (r).length c1/\St w0 w' (HP.ow rByte 5 p1 c1 r::l)):=by
 unfold sized at hm
 refine dM Tryz.func127 rfl rfl rfl ?_
 intro a F
 refine sb [0] F H rfl fun a F=>nb [0] F H rfl fun a F=>?_
 obtain ⟨x0,ex0,hm⟩:=ob hm
 refine s_mkO (R:=rByte) wkP F rfl rfl rfl elem30 rfl rfl rfl rfl rfl rfl (z:=(0:UInt8)) (fun _=>rfl) ex0 H fun b0 w a H F=>?_
 refine bb [0] F H rfl fun a F=>?_
 replace H:=H.nf 2 rfl
 refine nb [0,0] F H rfl fun a F=>?_
 have hf5:0+(x0).length<=(x0).length:=(by rw [Nat.zero_add];exact Nat.le_refl _)
 have hl0:(putAt x0 0 ((data).take (x0).length)).length=(x0).length:=qU _ _ _ (by rw [List.length_take];omega)
 refine uP wkP F rfl rfl rfl elem30 rfl H 0 1 rfl rfl (fun h=>by obtain ⟨b,hb⟩:=H.owP 0 rfl (List.getElem?_eq_getElem h);exact ⟨b,hb,hb⟩) hf5 rfl rfl fun w a H F=>?_
 replace F:=F.bool (k:=7) (u:=.slice (some ⟨b0,0,none⟩) ((putAt x0 0 ((data).take (x0).length))).length ((x0).length)) rfl (by rw [hl0])
 replace F:=F.bool (k:=5) (u:=.slice (some ⟨b0,0,none⟩) ((putAt x0 0 ((data).take (x0).length))).length ((x0).length)) rfl (by rw [hl0])
 replace F:=F.bool (k:=8) (u:=.slice (some ⟨b0,0,none⟩) ((putAt x0 0 ((data).take (x0).length))).length ((x0).length)) rfl (by rw [hl0])
 replace H:=H.nf 2 rfl
 refine nb [0,0] F H rfl fun a F=>nl (wr ?_)
 cases hm
 refine eF F rfl rfl ?_
 exact ⟨_,rfl,(some ⟨b0,0,none⟩),(x0).length,rfl,(H.pm 2 [0] rfl:)⟩
instance:Ctr Tryz.prog 127 0 (type_of% @lA):=⟨enters Tryz.func127 (by kernel_rfl) rfl,@lA⟩
theorem dA:AggT Tryz.prog 47 4 ([.int .i64 (0),.int .i64 (0),.slice none (([]:List UInt8)).length 0,.slice none (([]:List (List UInt8))).length 0]):=⟨by rw [u47];rfl,by kernel_rfl,by kernel_rfl⟩
theorem fD:aM Tryz.prog 32 1 1:=by unfold aM;rw [u32];kernel_rfl
instance:FldC Tryz.prog 32 1 1:=⟨fD⟩
theorem ent126:En Tryz.prog 126:=enters Tryz.func126 (by kernel_rfl) rfl
theorem kG:aM Tryz.prog 32 4 4:=by unfold aM;rw [u32];kernel_rfl
instance:FldC Tryz.prog 32 4 4:=⟨kG⟩
theorem eS:aM Tryz.prog 32 0 0:=by unfold aM;rw [u32];kernel_rfl
instance:FldC Tryz.prog 32 0 0:=⟨eS⟩
theorem fB:aM Tryz.prog 32 3 3:=by unfold aM;rw [u32];kernel_rfl
instance:FldC Tryz.prog 32 3 3:=⟨fB⟩
theorem lY:aM Tryz.prog 47 0 0:=by unfold aM;rw [u47];kernel_rfl
instance:FldC Tryz.prog 47 0 0:=⟨lY⟩
theorem pP:Zero1 Tryz.prog 44 (.int .i64 0):=⟨by kernel_rfl,rfl⟩
instance:ZerC Tryz.prog 44 (.int .i64 0):=⟨pP⟩
theorem iX:aM Tryz.prog 32 5 5:=by unfold aM;rw [u32];kernel_rfl
instance:FldC Tryz.prog 32 5 5:=⟨iX⟩
theorem ent127:En Tryz.prog 127:=enters Tryz.func127 (by kernel_rfl) rfl
theorem fJ:aM Tryz.prog 47 1 1:=by unfold aM;rw [u47];kernel_rfl
instance:FldC Tryz.prog 47 1 1:=⟨fJ⟩
theorem zero3:Zero1 Tryz.prog 3 (.int .i64 0):=⟨by kernel_rfl,rfl⟩
instance:ZerC Tryz.prog 3 (.int .i64 0):=⟨zero3⟩
theorem agg47:AggT Tryz.prog 47 4 [.int .i64 0,.int .i64 0,.slice none 0 0,.slice none 0 0]:=⟨by rw [u47];rfl,by kernel_rfl,by kernel_rfl⟩
instance:AggC Tryz.prog 47 4 [.int .i64 0,.int .i64 0,.slice none 0 0,.slice none 0 0]:=⟨agg47⟩
theorem aGl {s:(List UInt8)->Option aG} {o:T_api_Op} {m1:Nat} {cs0:List Value} {r:T_api_Answer×((List UInt8)->Option aG)} (hm:pV s o=some r) (H:St w0 w (HP.mm (some m1) aU true aO (fun _=>True) s::HP.rc R_api_Op cs0 o::l)) :
  Calls Tryz.prog 105 [.map (some m1),.agg cs0.toArray].toArray w (fun e w'=>∃ v,e=.returned v/\∃ (cs1:List Value),v=.agg cs1.toArray/\St w0 w' (HP.rc R_api_Answer cs1 r.1::HP.mm (some m1) aU true aO (fun _=>True) r.2::l)):=by
 unfold pV at hm
 refine dM Tryz.func105 rfl rfl rfl ?_
 intro a F
 refine sr (gB wkP F rfl rfl rfl rfl rfl H fun b0 w a H F=>?_)
 replace H:=H.oN rByte 5
 replace H:=H.oN rStr 9
 refine bE wkP F rfl rfl rfl dA rfl H fun b1 w a H F=>?_
 replace H:=H.nf 6 rfl
 refine nl (sr (bk [0,1] F H rfl ⟨fD,trivial⟩ fun a F=>?_))
 have G:=F;replace H:=rc_api_Op (H.pk 5 rfl);obtain ⟨p0,c0,rfl,J⟩:=H;have H:=J;have F:=G;clear G J
 refine bk [4001] F H rfl ⟨rfl,plain9,trivial⟩ fun a F=>?_
 obtain ⟨x0,ex0,hm⟩:=ob hm
 refine sd F rfl ent126 (uO ex0 (H.pm 6 [5,0,1,2,3,4] rfl:):) ?_;rintro _ w a ⟨cs2,rfl,H⟩ F
 refine bb [0,0,0] F H rfl fun a F=>?_
 replace H:=H.oN rByte 5
 refine bE wkP F rfl rfl rfl agz142 rfl H fun b2 w a H F=>aJ wkP F rfl rfl agg142 rfl rfl rfl H 0 rfl (H.rL 2 rfl) rfl (H.rF 2 rfl) fun w H=>bb [0] F H rfl fun a F=>?_
 replace H:=H.nf 9 rfl
 refine nl (sr (bk [4,8004,0] F H rfl ⟨kG,rfl,plain3,trivial⟩ fun a F=>nl (sq (sr (bk [0,8000,0] F H rfl ⟨eS,rfl,plain3,trivial⟩ fun a F=>?_)))))
 refine nl (xm0 9 [0,3,4,5,6] [0,1,2,3,4,5,6,7,8] F H hm rfl rfl (fun r0 z=>(7,.int .i64 (r0))::z) (fun r0 z=>z) (fun r0 hm=>?_) (fun r0 a w hm F H=>?_))
 refine cPm F rfl hm (fun hg0 hm=>?_) (fun hg0 hm=>?_)
 refine rl (bk [3,8003,0] F H rfl ⟨fB,rfl,plain3,trivial⟩ fun a F=>lz ?_)
 cases hm
 exact ct ⟨F.sl rfl,H⟩
 refine sk ?_
 cases hm
 exact ct ⟨F.sl rfl,H⟩
 refine ct (sq ?_)
 refine xm1 9 [4] [1,4,6,7,8] F H hm rfl rfl (fun r1 (cs3:List Value) z=>z) (fun r1 cs3 z=>HP.blk b2 (cs3) 142::HP.mm (some m1) aU true aO (fun _=>True) r1.2.1::HP.blk b1 ([.int .i64 (r1.2.2.1),.int .i64 (r1.2.2.2),.slice none (([]:List UInt8)).length 0,.slice none (([]:List (List UInt8))).length 0]) 47::HP.rc aO cs3 r1.1::z) (fun r1 hm=>?_) (fun r1 a w hm cs3 F H=>?_)
 refine bl (sb [0,0,0] F H rfl fun a F=>nl ?_)
 refine xm1 9 [4] [1,4,6,7,8] F H hm rfl rfl (fun r2 (cs4:List Value) z=>z) (fun r2 cs4 z=>HP.blk b2 (cs4) 142::HP.mm (some m1) aU true aO (fun _=>True) r2.2.1::HP.blk b1 ([.int .i64 (r2.2.2.1),.int .i64 (r2.2.2.2),.slice none (([]:List UInt8)).length 0,.slice none (([]:List (List UInt8))).length 0]) 47::HP.rc aO cs4 r2.1::z) (fun r2 hm=>?_) (fun r2 a w hm cs4 F H=>?_)
 refine cNm F rfl hm (fun hg1 hm=>?_) (fun hg1 hm=>?_)
 refine rl (bk [0,0] F H rfl ⟨lY,trivial⟩ fun a F=>cN wkP F rfl rfl pP rfl rfl rfl rfl rfl H 5 rfl rfl fun w H=>?_)
 replace H:=H.nf 9 rfl
 refine lz ?_
 cases hm
 exact ct ⟨cs2,F.sl rfl,(H.pm 9 [0,3,5,2,1,4,6,7,8] rfl:)⟩
 refine sb [0,0,0] F H rfl fun a F=>nl ?_
 refine xm1 9 [4] [1,4,6,7,8] F H hm rfl rfl (fun r3 (cs5:List Value) z=>z) (fun r3 cs5 z=>HP.blk b2 (cs5) 142::HP.mm (some m1) aU true aO (fun _=>True) r3.2.1::HP.blk b1 ([.int .i64 (r3.2.2.1),.int .i64 (r3.2.2.2),.slice none (([]:List UInt8)).length 0,.slice none (([]:List (List UInt8))).length 0]) 47::HP.rc aO cs5 r3.1::z) (fun r3 hm=>?_) (fun r3 a w hm cs5 F H=>?_)
 refine cPm F rfl hm (fun hg2 hm=>?_) (fun hg2 hm=>?_)
 refine rl (bk [0] F H rfl ⟨lY,trivial⟩ fun a F=>cN wkP F rfl rfl pP rfl rfl rfl rfl rfl H 5 rfl rfl fun w H=>?_)
 replace H:=H.nf 9 rfl
 refine lz ?_
 cases hm
 exact ct ⟨cs2,F.sl rfl,(H.pm 9 [0,3,5,2,1,4,6,7,8] rfl:)⟩
 refine sb [0,0,0] F H rfl fun a F=>?_
 rcases spP 64 F rfl hm with ⟨hg3,hm,F⟩ | ⟨hg3,hm,F⟩
 refine bb (List.replicate 13 0) F H rfl fun a F=>nl (cT F rfl (rl (bk [0] F H rfl ⟨lY,trivial⟩ fun a F=>cN wkP F rfl rfl pP rfl rfl rfl rfl rfl H 5 rfl rfl fun w H=>?_)))
 replace H:=H.nf 9 rfl
 refine lz ?_
 cases hm
 exact ct ⟨cs2,F.sl rfl,(H.pm 9 [0,3,5,2,1,4,6,7,8] rfl:)⟩
 refine bk [0,8000,0,0] F H rfl ⟨eS,rfl,plain3,trivial⟩ fun a F=>?_
 rcases spP 68 F rfl hm with ⟨hg4,hm,F⟩ | ⟨hg4,hm,F⟩
 refine bk [0,5,8005,0,0,0,0,0,0] F H rfl ⟨iX,rfl,plain30,⟨_,u30⟩,trivial⟩ fun a F=>nl ?_
 refine xm1 9 [4] [1,4,6,7,8] F H hm rfl rfl (fun r4 (cs6:List Value) z=>z) (fun r4 cs6 z=>HP.blk b2 (cs6) 142::HP.mm (some m1) aU true aO (fun _=>True) r4.2.1::HP.blk b1 ([.int .i64 (r4.2.2.1),.int .i64 (r4.2.2.2),.slice none (([]:List UInt8)).length 0,.slice none (([]:List (List UInt8))).length 0]) 47::HP.rc aO cs6 r4.1::z) (fun r4 hm=>?_) (fun r4 a w hm cs6 F H=>?_)
 refine cPm F rfl hm (fun hg5 hm=>?_) (fun hg5 hm=>?_)
 refine rl (bk [0] F H rfl ⟨lY,trivial⟩ fun a F=>cN wkP F rfl rfl pP rfl rfl rfl rfl rfl H 5 rfl rfl fun w H=>?_)
 replace H:=H.nf 9 rfl
 refine lz ?_
 cases hm
 exact ct ⟨cs2,F.sl rfl,(H.pm 9 [0,3,5,2,1,4,6,7,8] rfl:)⟩
 refine sr (bk [0,8000,0,0] F H rfl ⟨eS,rfl,plain3,trivial⟩ fun a F=>nl ?_)
 refine xm1 9 [4] [1,4,6,7,8] F H hm rfl rfl (fun r5 (cs7:List Value) z=>z) (fun r5 cs7 z=>HP.blk b2 (cs7) 142::HP.mm (some m1) aU true aO (fun _=>True) r5.2.1::HP.blk b1 ([.int .i64 (0),.int .i64 (r5.2.2),.slice none (([]:List UInt8)).length 0,.slice none (([]:List (List UInt8))).length 0]) 47::HP.rc aO cs7 r5.1::z) (fun r5 hm=>?_) (fun r5 a w hm cs7 F H=>?_)
 refine cPm F rfl hm (fun hg6 hm=>?_) (fun hg6 hm=>?_)
 have G:=F;replace H:=lV (H.pk 2 rfl);obtain ⟨p1,c1,rfl,J⟩:=H;have H:=J;have F:=G;clear G J
 refine eT [6,8] [8] (scL [0,1,2,3,1004,5,2006,7,3008]) [8] H rfl rfl (by kernel_rfl) (by kernel_rfl) fun w H=>?_
 refine mbk [0,1] F H rfl ⟨fD,trivial⟩ fun a F=>?_
 refine bH F rfl rfl rfl rfl (fun u hu=>bS F plain9 rfl rfl (eM (v:=.string (txb (o.2.1))) ((hu.choose_spec.blk 0 rfl).row) rfl)) fun a F=>?_
 refine mbk [1,1001,0] F H rfl ⟨fld142_1,rfl,plain30,trivial⟩ fun a F=>aE rfl rfl ?_
 obtain ⟨x1,ex1,hm⟩:=ob hm
 refine sd F rfl ent127 (lA ex1 (H.pm 9 [0,0,1,2,3,4,5,6,7,8] rfl:):) ?_;rintro _ w a ⟨p2,c2,rfl,H⟩ F
 refine lz ?_;refine ct ⟨⟨_,(H.pm 10 [9,0,1,2,3,4,5,6,7,8] rfl:)⟩,?_⟩
 refine bH F rfl rfl rfl rfl (fun u hu=>bU F rfl rfl (cs:=[.bool false,.slice p2 (x1).length c2]) (by kernel_rfl)) fun a F=>?_
 refine dF rfl rfl ?_
 replace H:=H.frz 0 rfl
 refine gT wkP F rfl rfl fG (eI u9) rfl H 4 rfl rfl (k:=o.2.1) rfl (cs:=[.bool false,.slice p2 (x1).length c2]) rfl trivial (v:=(false,x1)) (fun gg=>⟨_,_,rfl,rfl,⟨_,_,rfl,(gg 0 _ rfl).choose_spec⟩⟩) fun w H=>?_
 refine lz ?_;refine ct ?_
 refine bR ?_
 cases hm
 refine ct ?_
 replace H:=tX H x0.1.1 1 rfl
 exact ⟨[.bool (x0.1.1),.slice p1 (x0.1.2).length c1],F.sl rfl,(H.pm 11 [3,5,7,0,4,6,8,9,10] rfl:)⟩
 refine sr (bk [5,8005,0,1] F H rfl ⟨iX,rfl,plain30,⟨_,u30⟩,fJ,trivial⟩ fun a F=>cN wkP F rfl rfl zero3 rfl rfl rfl rfl rfl H 5 rfl rfl fun w H=>?_)
 replace H:=H.nf 9 rfl
 refine nl (sr (bk [1,5001,0] F H rfl ⟨fJ,rfl,plain3,trivial⟩ fun a F=>?_))
 refine nl (xm1 9 [4] [1,4,5,6,7,8] F H hm rfl rfl (fun r6 (cs8:List Value) z=>z) (fun r6 cs8 z=>HP.blk b2 (cs8) 142::HP.mm (some m1) aU true aO (fun _=>True) r6.2::HP.rc aO cs8 r6.1::z) (fun r6 hm=>?_) (fun r6 a w hm cs8 F H=>?_))
 refine cPm F rfl hm (fun hg7 hm=>?_) (fun hg7 hm=>?_)
 refine sr (bk [1] F H rfl ⟨fld142_1,trivial⟩ fun a F=>?_)
 have G:=F;replace H:=lV (H.pk 2 rfl);obtain ⟨p3,c3,rfl,J⟩:=H;have H:=J;have F:=G;clear G J
 refine bk [1001,1,1001,0,0,1,5001,0] F H rfl ⟨rfl,plain30,fld142_1,rfl,plain30,⟨_,u30⟩,fJ,rfl,plain3,trivial⟩ fun a F=>sv F rfl (yL F rfl rfl rfl rfl) fun a F=>?_
 obtain ⟨x2,ex2,hm⟩:=ob hm
 refine sd F rfl ent127 (lA ex2 (H.pm 9 [0,0,1,2,3,4,5,6,7,8] rfl:):) ?_;rintro _ w a ⟨p4,c4,rfl,H⟩ F
 refine bb [0] F H rfl fun a F=>?_
 replace H:=H.nf 10 rfl
 refine nl (sq ?_)
 obtain ⟨x3,ex3,hm⟩:=ob hm
 have hc1189:=H.owForm 0 rfl
 refine eT [5] [5] (scL [0,1,2,3,1004,3005]) [] H rfl rfl (by kernel_rfl) (by kernel_rfl) fun w H=>?_
 refine mb [0,0] F H rfl fun a F=>?_
 refine bH F rfl rfl rfl rfl (fun u hu=>iS F elem30 rfl rfl rfl ex3 hc1189) fun a F=>?_
 refine mbk [5,9005] F H rfl ⟨iX,rfl,plain30,trivial⟩ fun a F=>dF rfl rfl ?_
 have hf1191:(r0:Int).toNat+(x3).length<=(x2).length:=(qH H 0 rfl ex3).2
 have hl0:(putAt x2 (r0:Int).toNat ((o.2.2.2.2.2).take (x3).length)).length=(x2).length:=qU _ _ _ (by rw [List.length_take];omega)
 refine uP wkP F rfl rfl rfl elem30 rfl H 0 5 rfl rfl (qH H 0 rfl ex3).1 hf1191 rfl rfl fun w a H F=>?_
 replace F:=F.bool (k:=40) (u:=.slice p4 ((putAt x2 (r0:Int).toNat ((o.2.2.2.2.2).take (x3).length))).length c4) rfl (by rw [hl0])
 replace F:=F.bool (k:=8) (u:=.slice p4 ((putAt x2 (r0:Int).toNat ((o.2.2.2.2.2).take (x3).length))).length c4) rfl (by rw [hl0])
 replace F:=F.bool (k:=41) (u:=.slice p4 ((putAt x2 (r0:Int).toNat ((o.2.2.2.2.2).take (x3).length))).length c4) rfl (by rw [hl0])
 refine lz ?_;refine ct ?_
 refine bR (ct (rl (bk [0,1,9001,0] F H rfl ⟨fD,rfl,plain9,trivial⟩ fun a F=>sv F rfl (bU F rfl rfl (cs:=[.bool false,.slice p4 ((putAt x2 (r0:Int).toNat ((o.2.2.2.2.2).take (x3).length))).length c4]) (by kernel_rfl)) fun a F=>?_)))
 replace H:=H.frz 0 rfl
 refine gT wkP F rfl rfl fG (eI u9) rfl H 4 rfl rfl (k:=o.2.1) rfl (cs:=[.bool false,.slice p4 ((putAt x2 (r0:Int).toNat ((o.2.2.2.2.2).take (x3).length))).length c4]) rfl trivial (v:=(false,(putAt x2 (r0:Int).toNat ((o.2.2.2.2.2).take (x3).length)))) (fun gg=>⟨_,_,rfl,rfl,⟨_,_,rfl,(gg 0 _ rfl).choose_spec⟩⟩) fun w H=>?_
 replace H:=H.nf 10 rfl
 refine lz ?_
 cases hm
 refine ct ?_
 replace H:=tX H x0.1.1 1 rfl
 exact ⟨[.bool (x0.1.1),.slice p3 (x0.1.2).length c3],F.sl rfl,(H.pm 11 [3,5,0,4,6,7,8,9,10] rfl:)⟩
 refine sk ?_
 cases hm
 exact ct ⟨cs2,F.sl rfl,(H.pm 9 [0,3,2,1,4,5,6,7,8] rfl:)⟩
 cases hm
 exact ct ⟨cs8,F.sl rfl,(H.pm 9 [0,1,5,2,3,4,6,7,8] rfl:)⟩
 cases hm
 exact ct ⟨cs7,F.sl rfl,H⟩
 cases hm
 exact ct ⟨cs6,F.sl rfl,H⟩
 refine bb (List.replicate 9 0) F H rfl fun a F=>nl (cF F rfl (sr (bk [0,8000,0,0] F H rfl ⟨eS,rfl,plain3,trivial⟩ fun a F=>nl ?_)))
 refine xm1 9 [4] [1,4,6,7,8] F H hm rfl rfl (fun r7 (cs9:List Value) z=>z) (fun r7 cs9 z=>HP.blk b2 (cs9) 142::HP.mm (some m1) aU true aO (fun _=>True) r7.2.1::HP.blk b1 ([.int .i64 (0),.int .i64 (r7.2.2),.slice none (([]:List UInt8)).length 0,.slice none (([]:List (List UInt8))).length 0]) 47::HP.rc aO cs9 r7.1::z) (fun r7 hm=>?_) (fun r7 a w hm cs9 F H=>?_)
 refine cPm F rfl hm (fun hg8 hm=>?_) (fun hg8 hm=>?_)
 have G:=F;replace H:=lV (H.pk 2 rfl);obtain ⟨p5,c5,rfl,J⟩:=H;have H:=J;have F:=G;clear G J
 refine eT [6,8] [8] (scL [0,1,2,3,1004,5,2006,7,3008]) [8] H rfl rfl (by kernel_rfl) (by kernel_rfl) fun w H=>?_
 refine mbk [0,1] F H rfl ⟨fD,trivial⟩ fun a F=>?_
 refine bH F rfl rfl rfl rfl (fun u hu=>bS F plain9 rfl rfl (eM (v:=.string (txb (o.2.1))) ((hu.choose_spec.blk 0 rfl).row) rfl)) fun a F=>?_
 refine mbk [1,1001,0] F H rfl ⟨fld142_1,rfl,plain30,trivial⟩ fun a F=>aE rfl rfl ?_
 obtain ⟨x4,ex4,hm⟩:=ob hm
 refine sd F rfl ent127 (lA ex4 (H.pm 9 [0,0,1,2,3,4,5,6,7,8] rfl:):) ?_;rintro _ w a ⟨p6,c6,rfl,H⟩ F
 refine lz ?_;refine ct ⟨⟨_,(H.pm 10 [9,0,1,2,3,4,5,6,7,8] rfl:)⟩,?_⟩
 refine bH F rfl rfl rfl rfl (fun u hu=>bU F rfl rfl (cs:=[.bool false,.slice p6 (x4).length c6]) (by kernel_rfl)) fun a F=>?_
 refine dF rfl rfl ?_
 replace H:=H.frz 0 rfl
 refine gT wkP F rfl rfl fG (eI u9) rfl H 4 rfl rfl (k:=o.2.1) rfl (cs:=[.bool false,.slice p6 (x4).length c6]) rfl trivial (v:=(false,x4)) (fun gg=>⟨_,_,rfl,rfl,⟨_,_,rfl,(gg 0 _ rfl).choose_spec⟩⟩) fun w H=>?_
 refine lz ?_;refine ct ?_
 refine bR ?_
 cases hm
 refine ct ?_
 replace H:=tX H x0.1.1 1 rfl
 exact ⟨[.bool (x0.1.1),.slice p5 (x0.1.2).length c5],F.sl rfl,(H.pm 11 [3,5,7,0,4,6,8,9,10] rfl:)⟩
 refine sr (bk [5,8005,0,1] F H rfl ⟨iX,rfl,plain30,⟨_,u30⟩,fJ,trivial⟩ fun a F=>cN wkP F rfl rfl zero3 rfl rfl rfl rfl rfl H 5 rfl rfl fun w H=>?_)
 replace H:=H.nf 9 rfl
 refine nl (sr (bk [1,5001,0] F H rfl ⟨fJ,rfl,plain3,trivial⟩ fun a F=>?_))
 refine nl (xm1 9 [4] [1,4,5,6,7,8] F H hm rfl rfl (fun r8 (cs10:List Value) z=>z) (fun r8 cs10 z=>HP.blk b2 (cs10) 142::HP.mm (some m1) aU true aO (fun _=>True) r8.2::HP.rc aO cs10 r8.1::z) (fun r8 hm=>?_) (fun r8 a w hm cs10 F H=>?_))
 refine cPm F rfl hm (fun hg9 hm=>?_) (fun hg9 hm=>?_)
 refine sr (bk [1] F H rfl ⟨fld142_1,trivial⟩ fun a F=>?_)
 have G:=F;replace H:=lV (H.pk 2 rfl);obtain ⟨p7,c7,rfl,J⟩:=H;have H:=J;have F:=G;clear G J
 refine bk [1001,1,1001,0,0,1,5001,0] F H rfl ⟨rfl,plain30,fld142_1,rfl,plain30,⟨_,u30⟩,fJ,rfl,plain3,trivial⟩ fun a F=>sv F rfl (yL F rfl rfl rfl rfl) fun a F=>?_
 obtain ⟨x5,ex5,hm⟩:=ob hm
 refine sd F rfl ent127 (lA ex5 (H.pm 9 [0,0,1,2,3,4,5,6,7,8] rfl:):) ?_;rintro _ w a ⟨p8,c8,rfl,H⟩ F
 refine bb [0] F H rfl fun a F=>?_
 replace H:=H.nf 10 rfl
 refine nl (sq ?_)
 obtain ⟨x6,ex6,hm⟩:=ob hm
 have hc1237:=H.owForm 0 rfl
 refine eT [5] [5] (scL [0,1,2,3,1004,3005]) [] H rfl rfl (by kernel_rfl) (by kernel_rfl) fun w H=>?_
 refine mb [0,0] F H rfl fun a F=>?_
 refine bH F rfl rfl rfl rfl (fun u hu=>iS F elem30 rfl rfl rfl ex6 hc1237) fun a F=>?_
 refine mbk [5,9005] F H rfl ⟨iX,rfl,plain30,trivial⟩ fun a F=>dF rfl rfl ?_
 have hf1239:(r0:Int).toNat+(x6).length<=(x5).length:=(qH H 0 rfl ex6).2
 have hl1:(putAt x5 (r0:Int).toNat ((o.2.2.2.2.2).take (x6).length)).length=(x5).length:=qU _ _ _ (by rw [List.length_take];omega)
 refine uP wkP F rfl rfl rfl elem30 rfl H 0 5 rfl rfl (qH H 0 rfl ex6).1 hf1239 rfl rfl fun w a H F=>?_
 replace F:=F.bool (k:=40) (u:=.slice p8 ((putAt x5 (r0:Int).toNat ((o.2.2.2.2.2).take (x6).length))).length c8) rfl (by rw [hl1])
 replace F:=F.bool (k:=8) (u:=.slice p8 ((putAt x5 (r0:Int).toNat ((o.2.2.2.2.2).take (x6).length))).length c8) rfl (by rw [hl1])
 replace F:=F.bool (k:=41) (u:=.slice p8 ((putAt x5 (r0:Int).toNat ((o.2.2.2.2.2).take (x6).length))).length c8) rfl (by rw [hl1])
 refine lz ?_;refine ct ?_
 refine bR (ct (rl (bk [0,1,9001,0] F H rfl ⟨fD,rfl,plain9,trivial⟩ fun a F=>sv F rfl (bU F rfl rfl (cs:=[.bool false,.slice p8 ((putAt x5 (r0:Int).toNat ((o.2.2.2.2.2).take (x6).length))).length c8]) (by kernel_rfl)) fun a F=>?_)))
 replace H:=H.frz 0 rfl
 refine gT wkP F rfl rfl fG (eI u9) rfl H 4 rfl rfl (k:=o.2.1) rfl (cs:=[.bool false,.slice p8 ((putAt x5 (r0:Int).toNat ((o.2.2.2.2.2).take (x6).length))).length c8]) rfl trivial (v:=(false,(putAt x5 (r0:Int).toNat ((o.2.2.2.2.2).take (x6).length)))) (fun gg=>⟨_,_,rfl,rfl,⟨_,_,rfl,(gg 0 _ rfl).choose_spec⟩⟩) fun w H=>?_
 replace H:=H.nf 10 rfl
 refine lz ?_
 cases hm
 refine ct ?_
 replace H:=tX H x0.1.1 1 rfl
 exact ⟨[.bool (x0.1.1),.slice p7 (x0.1.2).length c7],F.sl rfl,(H.pm 11 [3,5,0,4,6,7,8,9,10] rfl:)⟩
 refine sk ?_
 cases hm
 exact ct ⟨cs2,F.sl rfl,(H.pm 9 [0,3,2,1,4,5,6,7,8] rfl:)⟩
 cases hm
 exact ct ⟨cs10,F.sl rfl,(H.pm 9 [0,1,5,2,3,4,6,7,8] rfl:)⟩
 cases hm
 exact ct ⟨cs9,F.sl rfl,H⟩
 cases hm
 exact ct ⟨cs5,F.sl rfl,H⟩
 refine bn ?_
 cases hm
 exact ct ⟨cs4,F.sl rfl,H⟩
 refine ct (sr (bk [2999] F H rfl ⟨rfl,(bY agg47 rfl),trivial⟩ fun a F=>aJ wkP F rfl rfl agg47 rfl rfl rfl H 2 rfl rfl rfl (fl rfl) fun w H=>?_))
 replace H:=H.nf 9 rfl
 refine nl (wr ?_)
 replace H:=H.frz 7 rfl
 replace H:=H.frz 7 rfl
 replace H:=mk_api_Answer H r1.2.2.1 r1.2.2.2 1 rfl 0 rfl
 cases hm
 refine sN F rfl (⟨_,rfl,agg47.run_load (H.blk 5 rfl).row rfl⟩) ?_
 exact ⟨_,rfl,[.int .i64 (r1.2.2.1),.int .i64 (r1.2.2.2),.slice none (([]:List UInt8)).length 0,.slice none (([]:List (List UInt8))).length 0],rfl,(H.pm 10 [0,4] rfl:)⟩
instance:Ctr Tryz.prog 105 0 (type_of% @aGl):=⟨enters Tryz.func105 (by kernel_rfl) rfl,@aGl⟩
theorem oW:aM Tryz.prog 47 2 2:=by unfold aM;rw [u47];kernel_rfl
instance:FldC Tryz.prog 47 2 2:=⟨oW⟩
theorem aDd {s:(List UInt8)->Option aG} {o:T_api_Op} {q1:Option Nat} {cs0:List Value} {r:T_api_Answer} (hm:nD s o=some r) (H:St w0 w (HP.mm q1 aU true aO (fun _=>True) s::HP.rc R_api_Op cs0 o::l)) :
  Calls Tryz.prog 106 [.map q1,.agg cs0.toArray].toArray w (fun e w'=>∃ v,e=.returned v/\∃ (cs1:List Value),v=.agg cs1.toArray/\St w0 w' (HP.rc R_api_Answer cs1 r::HP.mm q1 aU true aO (fun _=>True) s::l)):=by
 unfold nD at hm
 have h0:MH 3 [13,15] [15] (scP [(0,0),(1,1),(0,2),(0,3),(0,4),(1,5),(0,6),(1,7),(0,8),(0,9),(0,10),(0,11),(0,12),(2,13),(0,14),(3,15)]) []:=⟨trivial⟩
 exact au Tryz.func106
instance:Ctr Tryz.prog 106 0 (type_of% @aDd):=⟨enters Tryz.func106 (by kernel_rfl) rfl,@aDd⟩
set_option maxRecDepth 100000
set_option maxHeartbeats 4000000
theorem aHm {s:(List UInt8)->Option aG} {p:List UInt8} {q1:Option Nat} {r:(List (List UInt8))} (hm:gF s p=some r) (H:St w0 w (HP.mm q1 aU true aO (fun _=>True) s::l)) :
  Calls Tryz.prog 129 [.map q1,.string (txb (p))].toArray w (fun e w'=>∃ v,e=.returned v/\∃ (p0:Option Addr) (c0:Nat),v=.slice p0 (r).length c0/\St w0 w' (HP.ow rStr 9 p0 c0 r::HP.mm q1 aU true aO (fun _=>True) s::l)):=by
 unfold gF at hm
 have h0:LHM2 2 [1,7] 7 [] (fun (s0:(List (List UInt8))) (p1:Option Addr) (c1:Nat) z=>(4,.slice p1 (s0).length c1)::z) (fun s0 p1 c1 z=>HP.ow rStr 9 p1 c1 s0::z):=⟨trivial⟩
 exact au Tryz.func129
instance:Ctr Tryz.prog 129 0 (type_of% @aHm):=⟨enters Tryz.func129 (by kernel_rfl) rfl,@aHm⟩
theorem aDt {s:(List UInt8)->Option aG} {o:T_api_Op} {m1:Nat} {cs0:List Value} {r:Int×((List UInt8)->Option aG)} (hm:lO s o=some r) (H:St w0 w (HP.mm (some m1) aU true aO (fun _=>True) s::HP.rc R_api_Op cs0 o::l)) :
  Calls Tryz.prog 107 [.map (some m1),.agg cs0.toArray].toArray w (fun e w'=>∃ v,e=.returned v/\v=.int .i64 (r.1)/\St w0 w' (HP.mm (some m1) aU true aO (fun _=>True) r.2::l)):=by
 unfold lO at hm
 have h0:∀ (m19:Nat),qS 13 [0,3,8,51] 51 [] (fun (s0:((List UInt8)->Option (List UInt8))) z=>z) (fun s0 z=>HP.mm (some m19) aU false rStr (fun _=>True) s0::z):=fun _=>⟨trivial⟩
 have h1:qS 20 [0,76] 76 [] (fun (s1:((List UInt8)->Option aG)) z=>z) (fun s1 z=>HP.mm (some m1) aU true aO (fun _=>True) s1::z):=⟨trivial⟩
 have h2:MH 16 [10] [10] (scP [(0,0),(0,1),(0,2),(1,3),(0,4),(0,5),(1,6),(0,7),(0,8),(0,9),(3,10)]) []:=⟨trivial⟩
 exact au Tryz.func107
instance:Ctr Tryz.prog 107 0 (type_of% @aDt):=⟨enters Tryz.func107 (by kernel_rfl) rfl,@aDt⟩
theorem aHo {s:(List UInt8)->Option aG} {p:List UInt8} {m1:Nat} {r:Int×((List UInt8)->Option aG)} (hm:nW s p=some r) (H:St w0 w (HP.mm (some m1) aU true aO (fun _=>True) s::l)) :
  Calls Tryz.prog 108 [.map (some m1),.string (txb (p))].toArray w (fun e w'=>∃ v,e=.returned v/\v=.int .i64 (r.1)/\St w0 w' (HP.mm (some m1) aU true aO (fun _=>True) r.2::l)):=by
 unfold nW at hm
 exact au Tryz.func108
instance:Ctr Tryz.prog 108 0 (type_of% @aHo):=⟨enters Tryz.func108 (by kernel_rfl) rfl,@aHo⟩
theorem yK {s:List (List UInt8)} {p0:Option Addr} {c0:Nat} {r:(List (List UInt8))} (hm:iY s=some r) (H:St w0 w (HP.sl rStr p0 c0 s::l)) :
  Calls Tryz.prog 71 [.slice p0 (s).length c0].toArray w (fun e w'=>∃ v,e=.returned v/\∃ (p1:Option Addr) (c1:Nat),v=.slice p1 (r).length c1/\St w0 w' (HP.ow rStr 9 p1 c1 r::l)):=by
 unfold iY at hm
 exact au Tryz.func71
instance:Ctr Tryz.prog 71 0 (type_of% @yK):=⟨enters Tryz.func71 (by kernel_rfl) rfl,@yK⟩
theorem ent71:En Tryz.prog 71:=enters Tryz.func71 (by kernel_rfl) rfl
theorem lX:aM Tryz.prog 47 3 3:=by unfold aM;rw [u47];kernel_rfl
instance:FldC Tryz.prog 47 3 3:=⟨lX⟩
theorem yT:Zero1 Tryz.prog 45 (.slice none 0 0):=⟨by kernel_rfl,rfl⟩
instance:ZerC Tryz.prog 45 (.slice none 0 0):=⟨yT⟩
theorem aBi {s:(List UInt8)->Option aG} {o:T_api_Op} {q1:Option Nat} {cs0:List Value} {r:T_api_Answer} (hm:oS s o=some r) (H:St w0 w (HP.mm q1 aU true aO (fun _=>True) s::HP.rc R_api_Op cs0 o::l)) :
  Calls Tryz.prog 109 [.map q1,.agg cs0.toArray].toArray w (fun e w'=>∃ v,e=.returned v/\∃ (cs1:List Value),v=.agg cs1.toArray/\St w0 w' (HP.rc R_api_Answer cs1 r::HP.mm q1 aU true aO (fun _=>True) s::l)):=by
 unfold oS at hm
 exact au Tryz.func109
instance:Ctr Tryz.prog 109 0 (type_of% @aBi):=⟨enters Tryz.func109 (by kernel_rfl) rfl,@aBi⟩
theorem aA4 {s:(List UInt8)->Option aG} {p:List UInt8} {q1:Option Nat} {r:T_api_Answer} (hm:pR s p=some r) (H:St w0 w (HP.mm q1 aU true aO (fun _=>True) s::l)) :
  Calls Tryz.prog 110 [.map q1,.string (txb (p))].toArray w (fun e w'=>∃ v,e=.returned v/\∃ (cs0:List Value),v=.agg cs0.toArray/\St w0 w' (HP.rc R_api_Answer cs0 r::HP.mm q1 aU true aO (fun _=>True) s::l)):=by
 unfold pR at hm
 have h0:MH 2 [0,5,7] [7] (scP [(0,1),(0,2),(0,3),(2,0),(0,4),(2,5),(0,6),(3,7)]) [5]:=⟨trivial⟩
 exact au Tryz.func110
instance:Ctr Tryz.prog 110 0 (type_of% @aA4):=⟨enters Tryz.func110 (by kernel_rfl) rfl,@aA4⟩
theorem plain44:Plain Tryz.prog 44:=by unfold Plain;rw [Tryz.underlying44];rfl
instance:PlnC Tryz.prog 44:=⟨plain44⟩
theorem rX:AggT Tryz.prog 32 6 [.int .i64 0,.string ByteArray.empty,.string ByteArray.empty,.int .i64 0,.int .i64 0,.slice none 0 0]:=⟨by rw [u32];rfl,by kernel_rfl,by kernel_rfl⟩
instance:AggC Tryz.prog 32 6 [.int .i64 0,.string ByteArray.empty,.string ByteArray.empty,.int .i64 0,.int .i64 0,.slice none 0 0]:=⟨rX⟩
theorem aGc {s:(List UInt8)->Option aG} {o:T_api_Op} {m1:Nat} {cs0:List Value} {r:T_api_Answer×((List UInt8)->Option aG)} (hm:sDo s o=some r) (H:St w0 w (HP.mm (some m1) aU true aO (fun _=>True) s::HP.rc R_api_Op cs0 o::l)) :
  Calls Tryz.prog 78 [.map (some m1),.agg cs0.toArray].toArray w (fun e w'=>∃ v,e=.returned v/\∃ (cs1:List Value),v=.agg cs1.toArray/\St w0 w' (HP.rc R_api_Answer cs1 r.1::HP.mm (some m1) aU true aO (fun _=>True) r.2::l)):=by
 unfold sDo at hm
 exact au Tryz.func78
instance:Ctr Tryz.prog 78 0 (type_of% @aGc):=⟨enters Tryz.func78 (by kernel_rfl) rfl,@aGc⟩
end Go.Proofs.YtkcgdaihfblncaaGreatDoor
namespace Go.Tri
open Go.RowKit
abbrev Hdr:Type:=Option Addr×Nat×Nat
def jE (h:Hdr):Value:=.slice h.1 h.2.1 h.2.2
def rHdr:Rp Hdr:=Rp.enc 1 (fun h=>[jE h]) (fun _=>rfl) (fun _ v hv=>by simp at hv;subst hv;rfl)
def noK {κ:Type}:κ->Prop:=fun _=>False
def atK {κ:Type} (k:κ):κ->Prop:=fun i=>i=k
section
variable {κ:Type} [DecidableEq κ]
def HP.mos (e:TypeId) (hm:κ->Option Hdr) (m:κ->Option (List UInt8)) (h:κ->Prop):HP :=
 HP.of (fun B w S=>∃ f:κ->Nat->Prop,(∀ k,(hm k).isSome=(m k).isSome)/\(∀ k v x,hm k=some v->m k=some x->v.2.1=x.length/\(¬ h k->(HP.ow rByte e v.1 v.2.2 x).pr B w (f k)))/\(∀ i j b,f i b->f j b->i=j)/\∀ i b,f i b->S b)
  (fun ⟨f,h0,h1,h2,h3⟩ hS=>⟨f,h0,fun k v x hv hx=>⟨(h1 k v x hv hx).1,fun hn=>HP.loc _ ((h1 k v x hv hx).2 hn) fun b hb=>hS b (h3 k b hb)⟩,h2,h3⟩)
  (fun ⟨f,h0,h1,h2⟩ hl=>⟨f,h0,fun k v x hv hx=>⟨(h1 k v x hv hx).1,fun hn=>HP.mono _ ((h1 k v x hv hx).2 hn) hl⟩,h2⟩)
variable {w0 w:World} {l:List HP} {e:TypeId} {hm:κ->Option Hdr} {m:κ->Option (List UInt8)}
omit [DecidableEq κ] in
theorem St.mosNil (H:St w0 w l) (e:TypeId):St w0 w (HP.mos e (bG:κ->Option Hdr) (bG:κ->Option (List UInt8)) noK::l) :=
 H.more fun B _ _=>⟨fun _ _=>False,fun _=>rfl,fun k v x h=>by simp [bG] at h,by simp,by simp⟩
omit [DecidableEq κ] in
theorem St.mosTake (H:St w0 w (HP.mos e hm m noK::l)) (k:κ):∃ q c,(hm k).getD (none,0,0)=(q,((m k).getD []).length,c)/\St w0 w (HP.ow rByte e q c ((m k).getD [])::HP.mos e hm m (atK k)::l):=by
 obtain ⟨B,S,hs,⟨f,h0,h1,h2,h3⟩,_⟩:=H.get 0 rfl
 cases hk:hm k with
 | none =>
  have hm0:m k=none:=by have:=h0 k;rw [hk] at this;cases h:m k with
   | none=>rfl
   | some x=>rw [h] at this;cases this
  rw [hm0]
  refine ⟨none,0,rfl,?_⟩
  obtain ⟨_,H2⟩:=H.split (ι:=Unit) (C:=fun _=>HP.ow rByte e none 0 []) (D:=fun _=>HP.mos e hm m (atK k)) fun {B S} ⟨f,h0,h1,h2,h3⟩=>by
   refine ⟨(),fun _=>False,S,?_,⟨f,h0,fun i v x hv hx=>⟨(h1 i v x hv hx).1,fun hn=>(h1 i v x hv hx).2 fun h=>h⟩,h2,h3⟩,fun b h _=>h,fun b h=>h.elim,fun b h=>h⟩
   obtain ⟨_,_,_,hh,_⟩:=(H.oN rByte e).get 0 rfl
   obtain ⟨css,c1,c2⟩:=hh
   exact ⟨[],trivial,⟨rfl,.inl ⟨rfl,rfl⟩⟩,fun b hb=>by simp [Value.ownBlock] at hb⟩
  exact H2
 | some v =>
  obtain ⟨q,n,c⟩:=v
  obtain ⟨x,hx⟩:∃ x,m k=some x:=by have:=h0 k;rw [hk] at this;exact Option.isSome_iff_exists.1 this.symm
  obtain ⟨hn,_⟩:=h1 k _ x hk hx
  simp only at hn
  rw [hx]
  refine ⟨q,c,by simp [hn],?_⟩
  obtain ⟨_,H2⟩:=H.split (ι:=Unit) (C:=fun _=>HP.ow rByte e q c x) (D:=fun _=>HP.mos e hm m (atK k)) fun {B S} ⟨f,h0,h1,h2,h3⟩=>by
   refine ⟨(),f k,fun b=>∃ i,i≠k/\f i b,(h1 k _ x hk hx).2 fun h=>h,⟨fun i b=>i≠k/\f i b,h0,fun i v y hv hy=>⟨(h1 i v y hv hy).1,fun hn=>?_⟩,fun i j b ⟨_,hi⟩ ⟨_,hj⟩=>h2 i j b hi hj,fun i b hb=>⟨i,hb⟩⟩,fun b hb ⟨i,hi,hf⟩=>hi (h2 i k b hf hb),fun b hb=>h3 k b hb,fun b ⟨i,_,hf⟩=>h3 i b hf⟩
   have he:(fun b=>i≠k/\f i b)=f i:=by
    funext b
    have:i≠k:=hn
    simp [this]
   show (HP.ow rByte e v.fst v.snd.snd y).pr B w (fun b=>i≠k/\f i b)
   rw [he]
   exact (h1 i v y hv hy).2 fun h=>h
  exact H2
theorem St.mosPut {k:κ} {q:Option Addr} {c:Nat} {x:List UInt8} (H:St w0 w (HP.ow rByte e q c x::HP.mos e hm m (atK k)::l)):St w0 w (HP.mos e (aI k (q,x.length,c) hm) (aI k x m) noK::l):=by
 refine H.join fun {B} S T h1 h2 hd=>?_
 obtain ⟨f,h0,h2,h3,h4⟩:=h2
 refine ⟨fun i b=>if i=k then S b else f i b/\T b,fun i=>?_,fun i v y hv hy=>?_,fun i j b hi hj=>?_,fun i b hb=>?_⟩
 ·by_cases e:i=k
  ·simp [aI,e]
  ·simp [aI,e,h0 i]
 ·by_cases e:i=k
  ·subst e
   simp only [aI,if_true,Option.some.injEq] at hv hy
   subst hv;subst hy
   exact ⟨rfl,fun _=>by simpa using h1⟩
  ·simp only [aI,e,if_false] at hv hy
   refine ⟨(h2 i v y hv hy).1,fun _=>?_⟩
   have he:(fun b=>if i=k then S b else f i b/\T b)=f i:=by
    funext b
    rw [if_neg e]
    exact propext ⟨fun h=>h.1,fun h=>⟨h,h4 i b h⟩⟩
   show (HP.ow rByte _ v.fst v.snd.snd y).pr B w (fun b=>if i=k then S b else f i b/\T b)
   rw [he]
   exact (h2 i v y hv hy).2 e
 ·replace hi:if i=k then S b else f i b/\T b:=hi
  replace hj:if j=k then S b else f j b/\T b:=hj
  by_cases e1:i=k
  ·by_cases e2:j=k
   ·rw [e1,e2]
   ·simp only [if_pos e1,if_neg e2] at hi hj
    exact (hd b hi hj.2).elim
  ·by_cases e2:j=k
   ·simp only [if_neg e1,if_pos e2] at hi hj
    exact (hd b hj hi.2).elim
   ·simp only [if_neg e1,if_neg e2] at hi hj
    exact h3 i j b hi.1 hj.1
 ·replace hb:if i=k then S b else f i b/\T b:=hb
  by_cases e:i=k
  ·rw [if_pos e] at hb;exact .inl hb
  ·rw [if_neg e] at hb;exact .inr hb.2
theorem aMi {p:Option Nat} {ek:κ->Value} {ok:κ->Prop} {R:Rp (List UInt8)} {B:Base} {S:Nat->Prop} (hd:∀ k,(hm k).isSome=(m k).isSome) (hp:∀ k v x,hm k=some v->m k=some x->R.rd B [jE v] x) (h:(HP.mm p ek false rHdr ok hm).pr B w S):(HP.mm p ek false R ok m).pr B w S:=by
 obtain ⟨es,hes,hmp⟩:=h
 have hex:∀ es:List (κ×(List Value×Hdr)),(es.map (·.1)).Nodup->(∀ q∈es,rHdr.rd B q.2.1 q.2.2/\hm q.1=some q.2.2)->∃ es':List (κ×(List Value×List UInt8)),es'.map (fun q=>(q.1,q.2.1))=es.map (fun q=>(q.1,q.2.1))/\∀ q∈es',R.rd B q.2.1 q.2.2/\m q.1=some q.2.2:=by
  intro es
  induction es with
  | nil=>exact fun _ _=>⟨[],rfl,by simp⟩
  | cons q es ih =>
   intro hn hq
   simp only [List.map_cons,List.nodup_cons] at hn
   obtain ⟨es',e1,e2⟩:=ih hn.2 fun q hq'=>hq q (List.mem_cons_of_mem _ hq')
   obtain ⟨k,cs,v⟩:=q
   obtain ⟨g1,g2⟩:=hq (k,cs,v) List.mem_cons_self
   simp only at g1 g2
   obtain ⟨x,hx⟩:∃ x,m k=some x:=by have:=hd k;rw [g2] at this;exact Option.isSome_iff_exists.1 this.symm
   have g3:cs=[jE v]:=g1
   refine ⟨(k,cs,x)::es',by simp [e1],fun q' hq'=>?_⟩
   rcases List.mem_cons.1 hq' with rfl | hq'
   ·exact ⟨by rw [g3];exact hp k v x g2 hx,hx⟩
   ·exact e2 q' hq'
 have hget:∀ q∈es,hm q.1=some q.2.2:=fun q hq=>by
  rw [hes.get q.1,cO hes.nodup (v:=q.2) (by obtain ⟨a,b⟩:=q;exact hq)];rfl
 obtain ⟨es',e1,e2⟩:=hex es hes.nodup fun q hq=>⟨hes.rd q hq,hget q hq⟩
 have hk:es'.map (·.1)=es.map (·.1):=by
  have:=congrArg (List.map (·.1)) e1
  rw [List.map_map,List.map_map] at this
  exact this
 have hment:cZ ek false es'=cZ ek false es:=by
  have:=congrArg (List.map fun q:κ×List Value=>(ek q.1,mkV false q.2)) e1
  simpa [cZ,mkv,List.map_map,Function.comp_def] using this
 refine ⟨es',⟨by rw [hk];exact hes.nodup,fun q hq=>?_,fun q hq=>(e2 q hq).1,fun k=>?_⟩,?_⟩
 ·have:q.1∈es'.map (·.1):=List.mem_map.2 ⟨q,hq,rfl⟩
  rw [hk] at this
  obtain ⟨r,hr,h9⟩:=List.mem_map.1 this
  rw [<- h9];exact hes.ok r hr
 ·cases h5:aZ k es' with
  | some u =>
   rw [(e2 (k,u) (dT h5)).2];rfl
  | none =>
   have hnone:hm k=none:=by
    rw [hes.get k]
    cases h6:aZ k es with
    | none=>rfl
    | some u =>
     have:k∈es.map (·.1):=List.mem_map.2 ⟨(k,u),dT h6,rfl⟩
     rw [<- hk] at this
     obtain ⟨r,hr,h9⟩:=List.mem_map.1 this
     have hn':(es'.map (·.1)).Nodup:=by rw [hk];exact hes.nodup
     rw [cO hn' (v:=r.2) (by rw [<- h9];exact hr)] at h5;cases h5
   have:=hd k
   rw [hnone] at this
   cases h:m k with
   | none=>rfl
   | some x=>rw [h] at this;cases this
 ·cases p with
  | none =>
   simp only at hmp ⊢
   subst hmp
   have:=congrArg List.length hk
   exact List.eq_nil_of_length_eq_zero (by simpa using this)
  | some b=>exact ⟨by rw [hment];exact hmp.1,hmp.2⟩
theorem St.mosFrz {p:Option Nat} {ek:κ->Value} {ok:κ->Prop} (H:St w0 w (HP.mos e hm m noK::HP.mm p ek false rHdr ok hm::l)):St w0 w (HP.mm p ek false (rSl rByte) ok m::l):=by
 have H1:St w0 w (HP.pe (fun B=>(∀ k,(hm k).isSome=(m k).isSome)/\∀ k v x,hm k=some v->m k=some x->(rSl rByte).rd B [jE v] x) (fun h hl=>⟨h.1,fun k v x hv hx=>(rSl rByte).mono (h.2 k v x hv hx) hl⟩)::HP.mm p ek false rHdr ok hm::l):=by
  refine H.freezeH fun {B B'} S h hle hw=>?_
  obtain ⟨f,h0,h1,h2,h3⟩:=h
  refine ⟨h0,fun k v x hv hx=>?_⟩
  obtain ⟨hn,ho⟩:=h1 k v x hv hx
  obtain ⟨cs0,r1,r2⟩:=ho (fun h=>h)
  exact ⟨v.1,v.2.2,by unfold jE;rw [hn],cs0,r1.mono hle,fun w' hw'=>rQ (HP.loc _ r2 (fun b hb=>hw w' hw' b (h3 k b hb))).1⟩
 obtain ⟨B,HB⟩:=H1.out
 obtain ⟨_,hp⟩:=HB.at (i:=0) rfl
 obtain ⟨hd,hp⟩:(∀ k,(hm k).isSome=(m k).isSome)/\∀ k v x,hm k=some v->m k=some x->(rSl rByte).rd B [jE v] x:=hp
 exact (HB.set 1 (A:=HP.mm p ek false rHdr ok hm) (C:=HP.mm p ek false (rSl rByte) ok m) rfl fun S h=>aMi hd hp h).st.tail
end
section
variable {κ β:Type} [DecidableEq κ]
theorem aC2 {k:κ}:∀ {l:List (κ×Value)} {i q:Nat} {u:Value},(l.map (·.1)).Nodup->l[q]?=some (k,u)->cI k l i=some (i+q,u)
 | [],_,_,_,_,h=>by simp at h
 | (k',v)::r,i,0,u,hn,h=>by
  simp only [List.getElem?_cons_zero,Option.some.injEq,Prod.mk.injEq] at h
  unfold cI
  rw [if_pos h.1,h.2];rfl
 | (k',v)::r,i,q+1,u,hn,h=>by
  simp only [List.getElem?_cons_succ] at h
  simp only [List.map_cons,List.nodup_cons] at hn
  have hne:¬ k'=k:=fun e=>hn.1 (by rw [e];exact List.mem_map.2 ⟨(k,u),List.mem_of_getElem? h,rfl⟩)
  unfold cI
  rw [if_neg hne,aC2 hn.2 h]
  congr 2;omega
structure RawUp (es:List (κ×(List Value×β))) (raw:Array MapEntry) (vis:List Nat) (es':List (κ×(List Value×β))) (raw':Array MapEntry):Prop where
 key:es'.map (·.1)=es.map (·.1)
 born:raw'.toList.map (·.born)=raw.toList.map (·.born)
 off:∀ q,q ∉ vis->es'[q]?=es[q]?
omit [DecidableEq κ] in
theorem RawUp.refl (es:List (κ×(List Value×β))) (raw:Array MapEntry) (vis:List Nat):RawUp es raw vis es raw:=⟨rfl,rfl,fun _ _=>rfl⟩
omit [DecidableEq κ] in
theorem RawUp.at {es es':List (κ×(List Value×β))} {raw raw':Array MapEntry} {vis:List Nat} (h:RawUp es raw vis es' raw') {q:Nat} {x:κ×(List Value×β)} (hq:es'[q]?=some x) (hn:q ∉ vis):es[q]?=some x:=by
 rw [<- h.off q hn];exact hq
omit [DecidableEq κ] in
theorem RawUp.next {es es':List (κ×(List Value×β))} {raw raw':Array MapEntry} {vis:List Nat} (h:RawUp es raw vis es' raw') (q:Nat):RawUp es raw (vis++[q]) es' raw' :=
 ⟨h.key,h.born,fun i hi=>h.off i fun hh=>hi (List.mem_append_left _ hh)⟩
omit [DecidableEq κ] in
theorem RawUp.len {es es':List (κ×(List Value×β))} {raw raw':Array MapEntry} {vis:List Nat} (h:RawUp es raw vis es' raw'):es'.length=es.length:=by
 have:=congrArg List.length h.key;simpa using this
omit [DecidableEq κ] in
theorem RawUp.all {es es':List (κ×(List Value×β))} {raw raw':Array MapEntry} {vis:List Nat} (h:RawUp es raw vis es' raw') (ha:∀ q,q<es'.length->q∈vis):∀ q,q<es.length->q∈vis:=fun q hq=>ha q (by rw [h.len];exact hq)
omit [DecidableEq κ] in
theorem RawUp.vok {es es':List (κ×(List Value×β))} {raw raw':Array MapEntry} {vis:List Nat} (h:RawUp es raw vis es' raw') (hv:VisOk es.length vis):VisOk es'.length vis:=by rw [h.len];exact hv
omit [DecidableEq κ] in
theorem wX {raw raw':Array MapEntry} (h:raw'.toList.map (·.born)=raw.toList.map (·.born)) (vis:List Nat):bL raw' vis=bL raw vis:=by
 unfold bL
 congr 1
 refine List.map_congr_left fun i _=>?_
 have:=congrArg (fun l=>l[i]?) h
 simp only [List.getElem?_map,Array.getElem?_toList] at this
 rw [this]
end
section
variable {κ β:Type} [DecidableEq κ] {R:Rp β} {ek:κ->Value} {agg:Bool} {ok:κ->Prop} {P:Program} {w0 w:World} {ls:List HP} {m:κ->Option β} {b:Nat} {es es0:List (κ×(List Value×β))} {raw raw0:Array MapEntry} {c:Nat} {ops:Array Oper} {rest:List Oper} {o:Oper} {a:Act} {W:List Oper->Act->World->Prop} {N:Fs} {sl:List (Nat×Value)} {d:Nat} {x y z:Operand} {T K E:TypeId} {vis:List Nat}
theorem aOf (kw:bN P ops W) (F:Fr N a sl) (hg:o.guard=none) (hd:o.dst=none) (hT:P.underlying T=some (.map K E)) (hK:dS P K ek ok) (ho:o.op=.mapUpdate T x y z) (hM:MRaw ek agg es raw c) {q:Nat} (hU:RawUp es0 raw0 (vis++[q]) es raw)
  {k:κ} {cs0:List Value} {v0:β} (hq:es[q]?=some (k,cs0,v0)) (H:St w0 w ls) (i j:Nat) (hi:ls[i]?=some (HP.mo (some b) raw c)) (hj:ls[j]?=some (HP.es R ok es m)) (hij:Nat.beq i j=false)
  (hx:ev sl x=some (.map (some b))) (hy:ev sl y=some (ek k)) {cs:List Value} (hz:ev sl z=some (mkV agg cs)) {v:β} (hrd:∀ {B:Base},(∀ (j:Nat) (C:HP),ls[j]?=some C->∃ S,C.pr B w S)->R.rd B cs v)
  (hk:∀ es' raw' w',MRaw ek agg es' raw' c->RawUp es0 raw0 (vis++[q]) es' raw'->bL raw' (vis++[q])=bL raw (vis++[q])->St w0 w' ((ls.set i (HP.mo (some b) raw' c)).set j (HP.es R ok es' (aI k v m)))->W rest a w'):W (o::rest) a w:=by
 have hne:i≠j:=Nat.ne_of_beq_eq_false hij
 obtain ⟨B,HB⟩:=H.out
 obtain ⟨S1,hmo⟩:=HB.at hi
 obtain ⟨S2,hes⟩:=HB.at hj
 replace hes:EsOk R ok B es m:=hes
 have hil:i<ls.length:=(List.getElem?_eq_some_iff.1 hi).1
 have hjl:j<ls.length:=(List.getElem?_eq_some_iff.1 hj).1
 obtain ⟨hb,hfb⟩:=hmo
 have hbl:b<w.heap.size:=(Array.getElem?_eq_some_iff.1 hb).1
 have hql:=(List.getElem?_eq_some_iff.1 hq).1
 have hl:=hM.len
 have hkk:ok k:=hes.ok _ (List.mem_of_getElem? hq)
 let l:List (κ×Value):=es.map fun p=>(p.1,mkV agg p.2.1)
 have hlk:l.map (·.1)=es.map (·.1):=by simp [l]
 have hlq:l[q]?=some (k,mkV agg cs0):=by simp [l,hq]
 have hfI:cI k l 0=some (q,mkV agg cs0):=by
  have:=aC2 (i:=0) (by rw [hlk];exact hes.nodup) hlq
  simpa using this
 have hf:=hK.find k raw.toList l w hkk (mV hes.ok) hM.ent
 rw [hfI] at hf
 obtain ⟨e,he,hek,hev⟩:=hM.at hq
 have hrun:(Instr.mapUpdate T (.map (some b)) (ek k) (mkV agg cs)).run P w=.ok () (w.putObj b (.map (raw.modify q fun e=>{ e with key:=ek k,val:=mkV agg cs }) c)):=by
  unfold Instr.mapUpdate
  rw [Sem.run_bind,Go.run_underlying hT]
  simp only [Result.andThen_ok]
  rw [Sem.run_bind,kE w b raw c hb]
  simp only [Result.andThen_ok]
  rw [Sem.run_bind,hK.check false k w hkk]
  simp only [Result.andThen_ok]
  rw [Sem.run_bind,hf]
  simp only [Result.andThen_ok]
  have hkey:((raw[q]?).map (·.key)).getD (ek k)=ek k:=by rw [he];exact hek
  rw [hkey,Sem.run_bind,hK.stays k w hkk]
  simp only [Result.andThen_ok]
  exact qD w b raw c _ hb
 let es':=es.set q (k,cs,v)
 let raw':=raw.modify q fun e=>{ e with key:=ek k,val:=mkV agg cs }
 have hent:raw'.toList.map (fun e=>(e.key,e.val))=cZ ek agg es':=by
  have h0:=hM.ent
  show (raw.modify q _).toList.map _=mkv ek ((es.set q (k,cs,v)).map _)
  simp only [Array.toList_modify,cZ,mkv,List.map_set] at h0 ⊢
  apply List.ext_getElem?
  intro t
  have ht:=congrArg (fun l=>l[t]?) h0
  simp only [List.getElem?_map,List.getElem?_modify,List.getElem?_set,List.length_map] at ht ⊢
  by_cases e1:q=t
  ·subst e1
   have:raw.toList[q]?=some e:=by rw [Array.getElem?_toList];exact he
   simp [this,hql]
  ·simp only [e1,if_false]
   cases h5:raw.toList[t]? with
   | none=>rw [h5] at ht;simp at ht ⊢;exact ht
   | some e5=>rw [h5] at ht;simp at ht ⊢;exact ht
 have hborn:raw'.toList.map (·.born)=raw.toList.map (·.born):=by
  show (raw.modify q _).toList.map _=_
  rw [Array.toList_modify]
  apply List.ext_getElem?
  intro t
  simp only [List.getElem?_map,List.getElem?_modify]
  by_cases e1:q=t
  ·subst e1
   cases raw.toList[q]?<;>simp
  ·simp only [e1,if_false]
   cases raw.toList[t]?<;>simp
 have hM':MRaw ek agg es' raw' c:=by
  refine ⟨hent,by rw [hborn];exact hM.nd,fun e5 h5=>?_⟩
  have h6:e5.born∈raw'.toList.map (·.born):=List.mem_map.2 ⟨e5,h5,rfl⟩
  rw [hborn] at h6
  obtain ⟨e7,h7,h8⟩:=List.mem_map.1 h6
  rw [<- h8];exact hM.lt e7 h7
 have hkeys:es'.map (·.1)=es.map (·.1):=by
  show (es.set q (k,cs,v)).map _=_
  rw [List.map_set]
  refine set_self ?_
  rw [List.getElem?_map,hq];rfl
 have hU':RawUp es0 raw0 (vis++[q]) es' raw':=by
  refine ⟨hkeys.trans hU.key,hborn.trans hU.born,fun t ht=>?_⟩
  have hqt:q≠t:=fun e=>ht (by rw [<- e];simp)
  show (es.set q _)[t]?=_
  rw [List.getElem?_set_ne hqt];exact hU.off t ht
 have hcs:R.rd B cs v:=hrd (B:=B) fun j C hj=>HB.at hj
 have hes':EsOk R ok B es' (aI k v m):=by
  refine ⟨by rw [hkeys];exact hes.nodup,fun p hp=>?_,fun p hp=>?_,fun k'=>?_⟩
  ·have:p.1∈es'.map (·.1):=List.mem_map.2 ⟨p,hp,rfl⟩
   rw [hkeys] at this
   obtain ⟨r,hr,h9⟩:=List.mem_map.1 this
   rw [<- h9];exact hes.ok r hr
  ·rcases List.mem_or_eq_of_mem_set hp with hp | rfl
   ·exact hes.rd p hp
   ·exact hcs
  ·have hnd':(es'.map (·.1)).Nodup:=by rw [hkeys];exact hes.nodup
   by_cases e1:k'=k
   ·subst e1
    have:(k',cs,v)∈es':=List.mem_of_getElem? (i:=q) (by show (es.set q _)[q]?=_;simp [hql])
    rw [cO hnd' this];simp [aI]
   ·simp only [aI,e1,if_false]
    rw [hes.get k']
    congr 1
    cases h5:aZ k' es with
    | some u =>
     have hmem:=dT h5
     obtain ⟨t,ht1,ht2⟩:=List.getElem_of_mem hmem
     have hqt:q≠t:=fun e=>by subst e;rw [List.getElem?_eq_getElem ht1,ht2] at hq;injection hq with hq;injection hq with hq _;exact e1 hq
     have:(k',u)∈es':=List.mem_of_getElem? (i:=t) (by show (es.set q _)[t]?=_;rw [List.getElem?_set_ne hqt,List.getElem?_eq_getElem ht1,ht2])
     exact (cO hnd' this).symm
    | none =>
     cases h6:aZ k' es' with
     | none=>rfl
     | some u =>
      have hmem:=dT h6
      rcases List.mem_or_eq_of_mem_set hmem with hm' | hm'
      ·rw [cO hes.nodup hm'] at h5;cases h5
      ·injection hm' with hm' _;exact absurd hm' e1
 have hexec:(execOp a.eval o).run P w=.ok .skip (w.putObj b (.map raw' c)):=by
  unfold execOp
  simp only [ho,F.eval hx,F.eval hy,F.eval hz,Sem.run_bind,hrun,Result.andThen_ok,Sem.run_pure]
  rfl
 refine fF kw F hg hd (by rw [ho];rfl) hexec (hk es' raw' _ hM' hU' (wX hborn _) ?_)
 have H1:=HB.chg i hi (A':=HP.mo (some b) raw' c) (g:=b) (fun S hA=>hA.2) (kJ _ _ _) fun S hA=>⟨World.putObj_heap_same hbl,hA.2⟩
 exact (H1.set j (C:=HP.es R ok es' (aI k v m)) (by rw [List.getElem?_set_ne hne];exact hj) fun S _=>hes').st
end
end Go.Tri
