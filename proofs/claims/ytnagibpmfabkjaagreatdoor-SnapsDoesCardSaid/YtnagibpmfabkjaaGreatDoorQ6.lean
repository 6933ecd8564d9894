/- Texts Mod, Oq, Os, StrA. -/
import Derived.Test.YtnagibpmfabkjaaGreatDoorQ4
import Derived.Test.YtnagibpmfabkjaaGreatDoorQ5
import GoSem.ClaimJoined
import Derived.ChangeMaps5
import Derived.Test.YtnagibpmfabkjaaGreatDoorProg
import Derived.Test.YtnagibpmfabkjaaGreatDoorShelf
set_option linter.unusedSimpArgs false
set_option linter.unusedVariables false
namespace Go.Proofs.YtnagibpmfabkjaaGreatDoor
open Go.RowKit Go.Tri
variable {w0 w:World} {l:List HP}
theorem lU:type_of% Tryz.underlying132:=Tryz.underlying132
theorem eA:type_of% Tryz.underlying134:=Tryz.underlying134
theorem u24:type_of% Tryz.underlying24:=Tryz.underlying24
theorem u25:type_of% Tryz.underlying25:=Tryz.underlying25
theorem u29:type_of% Tryz.underlying29:=Tryz.underlying29
theorem u3:type_of% Tryz.underlying3:=Tryz.underlying3
theorem u31:type_of% Tryz.underlying31:=Tryz.underlying31
theorem u33:type_of% Tryz.underlying33:=Tryz.underlying33
theorem u35:type_of% Tryz.underlying35:=Tryz.underlying35
theorem u48:type_of% Tryz.underlying48:=Tryz.underlying48
theorem u49:type_of% Tryz.underlying49:=Tryz.underlying49
theorem u5:type_of% Tryz.underlying5:=Tryz.underlying5
theorem u9:type_of% Tryz.underlying9:=Tryz.underlying9
abbrev aM:Type:=(List UInt8)×(List UInt8)
abbrev aE:Rp aM:=(dX (rSl rByte) (rSl rByte))
abbrev eR:Type:=(List UInt8)
def hJ (b:Nat) (x:eR):HP:=HP.ex fun (i:(Option Addr)×Nat)=>[HP.blk b ([.slice i.1 (x).length i.2]) 157,HP.ow rByte 5 i.1 i.2 x]
theorem tI {w0 w:World} {l:List HP} {b:Nat} {x:eR} (H:St w0 w (hJ b x::l)):∃ (i1:Option Addr) (c1:Nat),St w0 w (HP.blk b ([.slice i1 (x).length c1]) 157::HP.ow rByte 5 i1 c1 x::l):=by
 obtain ⟨⟨i1,c1⟩,H⟩:=H.exOpen;exact ⟨i1,c1,H⟩
theorem vY {w0 w:World} {l:List HP} {b:Nat} {i1:Option Addr} {c1:Nat} {x0:List UInt8}  (H:St w0 w (HP.blk b ([.slice i1 (x0).length c1]) 157::HP.ow rByte 5 i1 c1 x0::l)):St w0 w (hJ b x0::l):=by
 unfold hJ;exact St.exShut (i1,c1) H
def gX (b:Nat) (x:eR):HP:=HP.ex fun (i:(Option Addr)×Nat)=>[HP.blk b ([.slice i.1 (x).length i.2]) 157,HP.sl rByte i.1 i.2 x]
theorem aMd {w0 w:World} {l:List HP} {b:Nat} {i1:Option Addr} {c1:Nat} {x0:List UInt8}  (H:St w0 w (HP.blk b ([.slice i1 (x0).length c1]) 157::HP.sl rByte i1 c1 x0::l)):St w0 w (gX b x0::l):=by
 unfold gX;exact St.exShut (i1,c1) H
abbrev aJ:Type:=Bool×(List UInt8)
abbrev aL:Rp aJ:=(dX xD (rSl rByte))
theorem gG {w0 w:World} {l:List HP} {cs:List Value} {x:aJ} (H:St w0 w (HP.rc aL cs x::l)):∃ (p2:Option Addr) (c2:Nat),cs=[.bool (x.1),.slice p2 (x.2).length c2]/\St w0 w (HP.sl rByte p2 c2 x.2::l):=by
 obtain ⟨u1,v1,rfl,H⟩:=H.rcPair 0 rfl;replace H:=H.dp 2 rfl;obtain rfl:=H.rB 0 rfl;replace H:=H.dp 0 rfl;obtain ⟨p2,c2,rfl,H⟩:=H.rcSl 0 rfl;replace H:=H.dp 1 rfl;exact ⟨p2,c2,rfl,H⟩
theorem lE {w0 w:World} {l:List HP} (H:St w0 w l) (s0:Bool) {p1:Option Addr} {c1:Nat} {x1:List UInt8} (i1:Nat) (h1:l[i1]?=some (HP.sl rByte p1 c1 x1)):St w0 w (HP.rc aL [.bool s0,.slice p1 x1.length c1] (s0,x1)::l):=H.mR (fun gg=>⟨_,_,rfl,rfl,⟨_,_,rfl,(gg i1 _ h1).choose_spec⟩⟩)
abbrev cK:Type:=Int×(List UInt8)×(List UInt8)×Int×Int×(List UInt8)
abbrev dS:Rp cK:=(dX (jW .i64) (dX rStr (dX rStr (dX (jW .i64) (dX (jW .i64) (rSl rByte))))))
abbrev bM:Type:=Int×Int×(List UInt8)×(List (List UInt8))
abbrev eG:Rp bM:=(dX (jW .i64) (dX (jW .i64) (dX (rSl rByte) (rSl rStr))))
theorem gB {w0 w:World} {l:List HP} {cs:List Value} {x:cK} (H:St w0 w (HP.rc dS cs x::l)):∃ (p6:Option Addr) (c6:Nat),cs=[.int .i64 (x.1),.string (txb (x.2.1)),.string (txb (x.2.2.1)),.int .i64 (x.2.2.2.1),.int .i64 (x.2.2.2.2.1),.slice p6 (x.2.2.2.2.2).length c6]/\St w0 w (HP.sl rByte p6 c6 x.2.2.2.2.2::l):=by
 obtain ⟨u1,v1,rfl,H⟩:=H.rcPair 0 rfl;replace H:=H.dp 2 rfl;obtain rfl:=H.rcI 0 rfl;replace H:=H.dp 0 rfl;obtain ⟨u2,v2,rfl,H⟩:=H.rcPair 0 rfl;replace H:=H.dp 2 rfl;obtain rfl:=H.rS 0 rfl;replace H:=H.dp 0 rfl;obtain ⟨u3,v3,rfl,H⟩:=H.rcPair 0 rfl;replace H:=H.dp 2 rfl;obtain rfl:=H.rS 0 rfl;replace H:=H.dp 0 rfl;obtain ⟨u4,v4,rfl,H⟩:=H.rcPair 0 rfl;replace H:=H.dp 2 rfl;obtain rfl:=H.rcI 0 rfl;replace H:=H.dp 0 rfl;obtain ⟨u5,v5,rfl,H⟩:=H.rcPair 0 rfl;replace H:=H.dp 2 rfl;obtain rfl:=H.rcI 0 rfl;replace H:=H.dp 0 rfl;obtain ⟨p6,c6,rfl,H⟩:=H.rcSl 0 rfl;replace H:=H.dp 1 rfl;exact ⟨p6,c6,rfl,H⟩
theorem dK {w0 w:World} {l:List HP} (H:St w0 w l) (s0:Int) (s1:Int) {p2:Option Addr} {c2:Nat} {x2:List UInt8} {p3:Option Addr} {c3:Nat} {x3:List (List UInt8)} (i2:Nat) (h2:l[i2]?=some (HP.sl rByte p2 c2 x2)) (i3:Nat) (h3:l[i3]?=some (HP.sl rStr p3 c3 x3)):St w0 w (HP.rc eG [.int .i64 s0,.int .i64 s1,.slice p2 x2.length c2,.slice p3 x3.length c3] (s0,s1,x2,x3)::l):=H.mR (fun gg=>⟨_,_,rfl,rfl,⟨_,_,rfl,rfl,⟨_,_,rfl,⟨_,_,rfl,(gg i2 _ h2).choose_spec⟩,⟨_,_,rfl,(gg i3 _ h3).choose_spec⟩⟩⟩⟩)
theorem gE {w0 w:World} {l:List HP} (H:St w0 w l) (s0:Int) (s1:List UInt8) (s2:List UInt8) (s3:Int) (s4:Int) {p5:Option Addr} {c5:Nat} {x5:List UInt8} (i5:Nat) (h5:l[i5]?=some (HP.sl rByte p5 c5 x5)):St w0 w (HP.rc dS [.int .i64 s0,.string (txb s1),.string (txb s2),.int .i64 s3,.int .i64 s4,.slice p5 x5.length c5] (s0,s1,s2,s3,s4,x5)::l):=H.mR (fun gg=>⟨_,_,rfl,rfl,⟨_,_,rfl,rfl,⟨_,_,rfl,rfl,⟨_,_,rfl,rfl,⟨_,_,rfl,rfl,⟨_,_,rfl,(gg i5 _ h5).choose_spec⟩⟩⟩⟩⟩⟩)
theorem eM {w0 w:World} {l:List HP} {cs:List Value} {x:aM} (H:St w0 w (HP.rc aE cs x::l)):∃ (p2:Option Addr) (c2:Nat) (p3:Option Addr) (c3:Nat),cs=[.slice p2 (x.1).length c2,.slice p3 (x.2).length c3]/\St w0 w (HP.sl rByte p2 c2 x.1::HP.sl rByte p3 c3 x.2::l):=by
 obtain ⟨u1,v1,rfl,H⟩:=H.rcPair 0 rfl;replace H:=H.dp 2 rfl;obtain ⟨p2,c2,rfl,H⟩:=H.rcSl 0 rfl;replace H:=H.dp 1 rfl;obtain ⟨p3,c3,rfl,H⟩:=H.rcSl 1 rfl;replace H:=H.dp 2 rfl;exact ⟨p2,c2,p3,c3,rfl,(H.pm 2 [1,0] rfl:)⟩
theorem jV {w0 w:World} {l:List HP} {cs:List Value} {x:bM} (H:St w0 w (HP.rc eG cs x::l)):∃ (p4:Option Addr) (c4:Nat) (p5:Option Addr) (c5:Nat),cs=[.int .i64 (x.1),.int .i64 (x.2.1),.slice p4 (x.2.2.1).length c4,.slice p5 (x.2.2.2).length c5]/\St w0 w (HP.sl rByte p4 c4 x.2.2.1::HP.sl rStr p5 c5 x.2.2.2::l):=by
 obtain ⟨u1,v1,rfl,H⟩:=H.rcPair 0 rfl;replace H:=H.dp 2 rfl;obtain rfl:=H.rcI 0 rfl;replace H:=H.dp 0 rfl;obtain ⟨u2,v2,rfl,H⟩:=H.rcPair 0 rfl;replace H:=H.dp 2 rfl;obtain rfl:=H.rcI 0 rfl;replace H:=H.dp 0 rfl;obtain ⟨u3,v3,rfl,H⟩:=H.rcPair 0 rfl;replace H:=H.dp 2 rfl;obtain ⟨p4,c4,rfl,H⟩:=H.rcSl 0 rfl;replace H:=H.dp 1 rfl;obtain ⟨p5,c5,rfl,H⟩:=H.rcSl 1 rfl;replace H:=H.dp 2 rfl;exact ⟨p4,c4,p5,c5,rfl,(H.pm 2 [1,0] rfl:)⟩
abbrev cE:Type:=(List UInt8)×Int×(List aM)
abbrev bR:Rp cE:=(dX rStr (dX (jW .u64) (rSl aE)))
theorem fL {w0 w:World} {l:List HP} {cs:List Value} {x:cE} (H:St w0 w (HP.rc bR cs x::l)):∃ (p3:Option Addr) (c3:Nat),cs=[.string (txb (x.1)),.int .u64 (x.2.1),.slice p3 (x.2.2).length c3]/\St w0 w (HP.sl aE p3 c3 x.2.2::l):=by
 obtain ⟨u1,v1,rfl,H⟩:=H.rcPair 0 rfl;replace H:=H.dp 2 rfl;obtain rfl:=H.rS 0 rfl;replace H:=H.dp 0 rfl;obtain ⟨u2,v2,rfl,H⟩:=H.rcPair 0 rfl;replace H:=H.dp 2 rfl;obtain rfl:=H.rcI 0 rfl;replace H:=H.dp 0 rfl;obtain ⟨p3,c3,rfl,H⟩:=H.rcSl 0 rfl;replace H:=H.dp 1 rfl;exact ⟨p3,c3,rfl,H⟩
abbrev cQ:Type:=(List aM)×(List cE)
abbrev dY:Rp cQ:=(dX (rSl aE) (rSl bR))
theorem iL {w0 w:World} {l:List HP} {cs:List Value} {x:cQ} (H:St w0 w (HP.rc dY cs x::l)):∃ (p2:Option Addr) (c2:Nat) (p3:Option Addr) (c3:Nat),cs=[.slice p2 (x.1).length c2,.slice p3 (x.2).length c3]/\St w0 w (HP.sl aE p2 c2 x.1::HP.sl bR p3 c3 x.2::l):=by
 obtain ⟨u1,v1,rfl,H⟩:=H.rcPair 0 rfl;replace H:=H.dp 2 rfl;obtain ⟨p2,c2,rfl,H⟩:=H.rcSl 0 rfl;replace H:=H.dp 1 rfl;obtain ⟨p3,c3,rfl,H⟩:=H.rcSl 1 rfl;replace H:=H.dp 2 rfl;exact ⟨p2,c2,p3,c3,rfl,(H.pm 2 [1,0] rfl:)⟩
abbrev dA:Type:=(List aM)×(List cE)
def eI (b:Nat) (x:dA):HP:=HP.ex fun (i:(Option Addr)×Nat×(Option Addr)×Nat)=>[HP.blk b ([.slice i.1 (x.1).length i.2.1,.slice i.2.2.1 (x.2).length i.2.2.2]) 27,HP.sl aE i.1 i.2.1 x.1,HP.ow bR 41 i.2.2.1 i.2.2.2 x.2]
theorem eC {w0 w:World} {l:List HP} {b:Nat} {x:dA} (H:St w0 w (eI b x::l)):∃ (i1:Option Addr) (c1:Nat) (i2:Option Addr) (c2:Nat),St w0 w (HP.blk b ([.slice i1 (x.1).length c1,.slice i2 (x.2).length c2]) 27::HP.sl aE i1 c1 x.1::HP.ow bR 41 i2 c2 x.2::l):=by
 obtain ⟨⟨i1,c1,i2,c2⟩,H⟩:=H.exOpen;exact ⟨i1,c1,i2,c2,H⟩
theorem fC {w0 w:World} {l:List HP} {b:Nat} {i1:Option Addr} {c1:Nat} {i2:Option Addr} {c2:Nat} {x0:List aM} {x1:List cE}  (H:St w0 w (HP.blk b ([.slice i1 (x0).length c1,.slice i2 (x1).length c2]) 27::HP.sl aE i1 c1 (x0)::HP.ow bR 41 i2 c2 (x1)::l)):St w0 w (eI b (x0,x1)::l):=by
 unfold eI;exact St.exShut (i1,c1,i2,c2) H
theorem iT {w0 w:World} {l:List HP} (H:St w0 w l) {p0:Option Addr} {c0:Nat} {x0:List aM} {p1:Option Addr} {c1:Nat} {x1:List cE} (i0:Nat) (h0:l[i0]?=some (HP.sl aE p0 c0 x0)) (i1:Nat) (h1:l[i1]?=some (HP.sl bR p1 c1 x1)):St w0 w (HP.rc dY [.slice p0 x0.length c0,.slice p1 x1.length c1] (x0,x1)::l):=H.mR (fun gg=>⟨_,_,rfl,⟨_,_,rfl,(gg i0 _ h0).choose_spec⟩,⟨_,_,rfl,(gg i1 _ h1).choose_spec⟩⟩)
theorem aA8 {w0 w:World} {l:List HP} (H:St w0 w l) (s0:List UInt8) (s1:Int) {p2:Option Addr} {c2:Nat} {x2:List aM} (i2:Nat) (h2:l[i2]?=some (HP.sl aE p2 c2 x2)):St w0 w (HP.rc bR [.string (txb s0),.int .u64 s1,.slice p2 x2.length c2] (s0,s1,x2)::l):=H.mR (fun gg=>⟨_,_,rfl,rfl,⟨_,_,rfl,rfl,⟨_,_,rfl,(gg i2 _ h2).choose_spec⟩⟩⟩)
abbrev aT:Type:=(List UInt8)×Bool×(List UInt8)
abbrev aX:Rp aT:=(dX rStr (dX xD (rSl rByte)))
theorem gP {w0 w:World} {l:List HP} {cs:List Value} {x:aT} (H:St w0 w (HP.rc aX cs x::l)):∃ (p3:Option Addr) (c3:Nat),cs=[.string (txb (x.1)),.bool (x.2.1),.slice p3 (x.2.2).length c3]/\St w0 w (HP.sl rByte p3 c3 x.2.2::l):=by
 obtain ⟨u1,v1,rfl,H⟩:=H.rcPair 0 rfl;replace H:=H.dp 2 rfl;obtain rfl:=H.rS 0 rfl;replace H:=H.dp 0 rfl;obtain ⟨u2,v2,rfl,H⟩:=H.rcPair 0 rfl;replace H:=H.dp 2 rfl;obtain rfl:=H.rB 0 rfl;replace H:=H.dp 0 rfl;obtain ⟨p3,c3,rfl,H⟩:=H.rcSl 0 rfl;replace H:=H.dp 1 rfl;exact ⟨p3,c3,rfl,H⟩
theorem vZ {w0 w:World} {l:List HP} (H:St w0 w l) {p0:Option Addr} {c0:Nat} {x0:List UInt8} {p1:Option Addr} {c1:Nat} {x1:List UInt8} (i0:Nat) (h0:l[i0]?=some (HP.sl rByte p0 c0 x0)) (i1:Nat) (h1:l[i1]?=some (HP.sl rByte p1 c1 x1)):St w0 w (HP.rc aE [.slice p0 x0.length c0,.slice p1 x1.length c1] (x0,x1)::l):=H.mR (fun gg=>⟨_,_,rfl,⟨_,_,rfl,(gg i0 _ h0).choose_spec⟩,⟨_,_,rfl,(gg i1 _ h1).choose_spec⟩⟩)
abbrev fQ:Type:=(List UInt8)×Int×(List aT)
abbrev cO:Rp fQ:=(dX rStr (dX (jW .u64) (rSl aX)))
abbrev dJ:Type:=(List aT)×(List fQ)
abbrev fD:Rp dJ:=(dX (rSl aX) (rSl cO))
theorem gD {w0 w:World} {l:List HP} (H:St w0 w l) {p0:Option Addr} {c0:Nat} {x0:List aT} {p1:Option Addr} {c1:Nat} {x1:List fQ} (i0:Nat) (h0:l[i0]?=some (HP.sl aX p0 c0 x0)) (i1:Nat) (h1:l[i1]?=some (HP.sl cO p1 c1 x1)):St w0 w (HP.rc fD [.slice p0 x0.length c0,.slice p1 x1.length c1] (x0,x1)::l):=H.mR (fun gg=>⟨_,_,rfl,⟨_,_,rfl,(gg i0 _ h0).choose_spec⟩,⟨_,_,rfl,(gg i1 _ h1).choose_spec⟩⟩)
theorem kF {w0 w:World} {l:List HP} {cs:List Value} {x:dJ} (H:St w0 w (HP.rc fD cs x::l)):∃ (p2:Option Addr) (c2:Nat) (p3:Option Addr) (c3:Nat),cs=[.slice p2 (x.1).length c2,.slice p3 (x.2).length c3]/\St w0 w (HP.sl aX p2 c2 x.1::HP.sl cO p3 c3 x.2::l):=by
 obtain ⟨u1,v1,rfl,H⟩:=H.rcPair 0 rfl;replace H:=H.dp 2 rfl;obtain ⟨p2,c2,rfl,H⟩:=H.rcSl 0 rfl;replace H:=H.dp 1 rfl;obtain ⟨p3,c3,rfl,H⟩:=H.rcSl 1 rfl;replace H:=H.dp 2 rfl;exact ⟨p2,c2,p3,c3,rfl,(H.pm 2 [1,0] rfl:)⟩
theorem kX {w0 w:World} {l:List HP} {cs:List Value} {x:fQ} (H:St w0 w (HP.rc cO cs x::l)):∃ (p3:Option Addr) (c3:Nat),cs=[.string (txb (x.1)),.int .u64 (x.2.1),.slice p3 (x.2.2).length c3]/\St w0 w (HP.sl aX p3 c3 x.2.2::l):=by
 obtain ⟨u1,v1,rfl,H⟩:=H.rcPair 0 rfl;replace H:=H.dp 2 rfl;obtain rfl:=H.rS 0 rfl;replace H:=H.dp 0 rfl;obtain ⟨u2,v2,rfl,H⟩:=H.rcPair 0 rfl;replace H:=H.dp 2 rfl;obtain rfl:=H.rcI 0 rfl;replace H:=H.dp 0 rfl;obtain ⟨p3,c3,rfl,H⟩:=H.rcSl 0 rfl;replace H:=H.dp 1 rfl;exact ⟨p3,c3,rfl,H⟩
abbrev jB:Type:=(List aT)×(List fQ)
def iU (b:Nat) (x:jB):HP:=HP.ex fun (i:(Option Addr)×Nat×(Option Addr)×Nat)=>[HP.blk b ([.slice i.1 (x.1).length i.2.1,.slice i.2.2.1 (x.2).length i.2.2.2]) 51,HP.sl aX i.1 i.2.1 x.1,HP.ow cO 109 i.2.2.1 i.2.2.2 x.2]
theorem eE {w0 w:World} {l:List HP} {b:Nat} {x:jB} (H:St w0 w (iU b x::l)):∃ (i1:Option Addr) (c1:Nat) (i2:Option Addr) (c2:Nat),St w0 w (HP.blk b ([.slice i1 (x.1).length c1,.slice i2 (x.2).length c2]) 51::HP.sl aX i1 c1 x.1::HP.ow cO 109 i2 c2 x.2::l):=by
 obtain ⟨⟨i1,c1,i2,c2⟩,H⟩:=H.exOpen;exact ⟨i1,c1,i2,c2,H⟩
theorem gC {w0 w:World} {l:List HP} {b:Nat} {i1:Option Addr} {c1:Nat} {i2:Option Addr} {c2:Nat} {x0:List aT} {x1:List fQ}  (H:St w0 w (HP.blk b ([.slice i1 (x0).length c1,.slice i2 (x1).length c2]) 51::HP.sl aX i1 c1 (x0)::HP.ow cO 109 i2 c2 (x1)::l)):St w0 w (iU b (x0,x1)::l):=by
 unfold iU;exact St.exShut (i1,c1,i2,c2) H
noncomputable def pU (s:List UInt8) (p:List UInt8):Option ((List UInt8)×Bool):=some (Lib.trimPrefix s p,Lib.hasPrefix s p)
noncomputable def genSplit (s:List UInt8) (sep:List UInt8) (sv:Int) (n:Int):Option (List (List UInt8)):=tH s sep sv n
noncomputable def tX (xs:List (List UInt8)) (sep:List UInt8):Option (List UInt8):=tA xs sep
noncomputable def vG (s:List UInt8) (p:List UInt8):Option Int:=vM s p
noncomputable def vB (x0_:List UInt8) (x1_:List UInt8):Option ((List UInt8)×(List UInt8)×Bool) :=
(vG x0_ x1_).bind fun x0 =>
if 0<=x0 then ((bN x0_ 0 x0).bind fun x1 =>
(bN x0_ (IntKind.i64.wrap (x0+((x1_).length:Int))) ((x0_).length:Int)).bind fun x2 =>
some (x1,x2,true))
 else (some (x0_,[],false))
noncomputable def rX (x0_:List UInt8) (x1_:List UInt8):Option ((List UInt8)×(List UInt8)×Bool) :=
(vB x0_ x1_).bind fun x0 =>
some (x0.1,x0.2.1,x0.2.2)
noncomputable def sJ (s:List UInt8) (sep:List UInt8):Option (List (List UInt8)) :=
(genSplit s sep 0 (-1)).bind fun x0 =>
some x0
noncomputable def mB (x0_:List UInt8):Option Bool :=
Option.bind (α:=(Unit) ⊕ Bool) (aU (fun (s0:Int)=>if s0<((x0_).length:Int) then ((aD x0_ s0).bind fun x0 =>
if ((x0).toNat:Int)<33 then (some (.inr (.inr false)))
 else ((aD x0_ s0).bind fun x1 =>
if 126<((x1).toNat:Int) then (some (.inr (.inr false)))
 else ((aD x0_ s0).bind fun x2 =>
if ((x2).toNat:Int)=47 then (some (.inr (.inr false)))
 else (some (.inl (IntKind.i64.wrap (s0+1)))))))
 else (some (.inr (.inl ())))) 0) fun o0=>Sum.elim (fun r0=>if x0_=([]) then (some false)
 else (some (decide (((x0_).length:Int)<=8)))) (fun rv=>some rv) o0
noncomputable def sG (x0_:List UInt8):Option Bool :=
(mB x0_).bind fun x0 =>
some (!x0)
noncomputable def vA (s:List (List UInt8)):Option Int :=
Option.bind (α:=(Unit) ⊕ Int) (aU (fun (s0:Int)=>if s0<((s).length:Int) then ((aD s s0).bind fun x0 =>
(sG x0).bind fun x1 =>
if x1=true then (some (.inr (.inr s0)))
 else (some (.inl (IntKind.i64.wrap (s0+1)))))
 else (some (.inr (.inl ())))) 0) fun o0=>Sum.elim (fun r0=>some (-1)) (fun rv=>some rv) o0
noncomputable def rC (s:List (List UInt8)):Option Bool :=
(vA s).bind fun x0 =>
some (decide (0<=x0))
noncomputable def jC (p:List UInt8):Option ((List (List UInt8))×Bool) :=
if p=([47]) then (some (([]:List (List UInt8)),true))
 else ((pU p ([47])).bind fun x0 =>
(sJ x0.1 ([47])).bind fun x1 =>
if (!x0.2)=true then (some (([]:List (List UInt8)),false))
 else (if 24<((p).length:Int) then (some (([]:List (List UInt8)),false))
 else ((rC x1).bind fun x2 =>
if x2=true then (some (([]:List (List UInt8)),false))
 else (some (x1,true)))))
noncomputable def lZ (x0_:List (List UInt8)):Option (List UInt8) :=
(tX x0_ ([47])).bind fun x0 =>
(aY ([47]) x0).bind fun x1 =>
some x1
noncomputable def jP (x0_:List UInt8):Option Int :=
(jC x0_).bind fun x0 =>
if (!x0.2)=true then (some 90)
 else (some 0)
noncomputable def mV (x0_:List UInt8):Option (List UInt8) :=
(jC x0_).bind fun x0 =>
if ((x0.1).length:Int)=0 then (some ([]))
 else ((bN x0.1 0 (IntKind.i64.wrap (((x0.1).length:Int)-1))).bind fun x1 =>
(lZ x1).bind fun x2 =>
some x2)
noncomputable def rE (x0_:List UInt8):Option (List UInt8) :=
(jC x0_).bind fun x0 =>
if ((x0.1).length:Int)=0 then (some ([]))
 else ((aD x0.1 (IntKind.i64.wrap (((x0.1).length:Int)-1))).bind fun x1 =>
some x1)
noncomputable def pC (x0_:List (List UInt8)) (x1_:List (List UInt8)):Option Bool :=
if ((x0_).length:Int)=((x1_).length:Int) then (Option.bind (α:=(Unit) ⊕ Bool) (aU (fun (s0:Int)=>if s0<((x0_).length:Int) then ((aD x0_ s0).bind fun x0 =>
(aD x1_ s0).bind fun x1 =>
if x0=x1 then (some (.inl (IntKind.i64.wrap (s0+1))))
 else (some (.inr (.inr false))))
 else (some (.inr (.inl ())))) 0) fun o0=>Sum.elim (fun r0=>some true) (fun rv=>some rv) o0)
 else (some false)
noncomputable def nN (x0_:List UInt8) (x1_:List UInt8):Option Bool :=
(jC x0_).bind fun x0 =>
(jC x1_).bind fun x1 =>
if x0.2=true then (if x1.2=true then (if ((x0.1).length:Int)<=((x1.1).length:Int) then ((bN x1.1 0 ((x0.1).length:Int)).bind fun x2 =>
(pC x0.1 x2).bind fun x3 =>
some x3)
 else (some false))
 else (some false))
 else (some false)
noncomputable def qJ (x0_:List UInt8):Option (List (List UInt8)) :=
(jC x0_).bind fun x0 =>
Option.bind (α:=((List (List UInt8)))) (aU (fun (s0:(List (List UInt8))×Int)=>if s0.2<((x0.1).length:Int) then ((bN x0.1 0 s0.2).bind fun x1 =>
(lZ x1).bind fun x2 =>
(aY s0.1 ([x2])).bind fun x3 =>
some (.inl (x3,IntKind.i64.wrap (s0.2+1))))
 else (some (.inr s0.1))) ([],0)) fun r0=>some r0
noncomputable def uL (xs:List (List UInt8)):Option (List (List UInt8)):=vK xs
noncomputable def vN (xs:List aM):Option (List aM):=vQ xs
noncomputable def mJ (s:List UInt8):Option (List UInt8) :=
(aY ([]:List UInt8) s).bind fun x0 =>
some x0
noncomputable def qY (p:eR) (b:List UInt8):Option eR :=
(aY p b).bind fun x0 =>
some x0
noncomputable def sX (p:eR) (n:Int) (size:Int):Option (Int×eR) :=
if size<1 then (some (1,p))
 else (if 8<size then (some (1,p))
 else (if size<8 then ((jM .u64 n (IntKind.i64.wrap (8*size))).bind fun x0 =>
if 0<x0 then (some (1,p))
 else (Option.bind (α:=(eR)) (aU (fun (s0:eR×Int)=>if 0<=s0.2 then ((jM .u64 n (IntKind.i64.wrap (8*s0.2))).bind fun x1 =>
(u8O (IntKind.u8.wrap (x1))).bind fun x2 =>
(aY s0.1 ([x2])).bind fun x3 =>
some (.inl (x3,IntKind.i64.wrap (s0.2-1))))
 else (some (.inr s0.1))) (p,IntKind.i64.wrap (size-1))) fun r0=>some (0,r0)))
 else (Option.bind (α:=(eR)) (aU (fun (s1:eR×Int)=>if 0<=s1.2 then ((jM .u64 n (IntKind.i64.wrap (8*s1.2))).bind fun x4 =>
(u8O (IntKind.u8.wrap (x4))).bind fun x5 =>
(aY s1.1 ([x5])).bind fun x6 =>
some (.inl (x6,IntKind.i64.wrap (s1.2-1))))
 else (some (.inr s1.1))) (p,IntKind.i64.wrap (size-1))) fun r1=>some (0,r1))))
noncomputable def tP (p:eR):Option ((List UInt8)×eR) :=
(mJ p).bind fun x0 =>
some (x0,p)
noncomputable def jH (s:(List UInt8)->Option aJ) (p:List UInt8):Option (aJ×Int) :=
(jP p).bind fun x0 =>
if x0=0 then ((qJ p).bind fun x1 =>
Option.bind (α:=(Unit) ⊕ (aJ×Int)) (aU (fun (s0:Int)=>if s0<((x1).length:Int) then ((aD x1 s0).bind fun x2 =>
if (!((s x2).isSome))=true then (some (.inr (.inr ((false,([]:List UInt8)),91))))
 else (if (!(((s x2).getD (false,[])).1))=true then (some (.inr (.inr ((false,([]:List UInt8)),93))))
 else (some (.inl (IntKind.i64.wrap (s0+1))))))
 else (some (.inr (.inl ())))) 0) fun o0=>Sum.elim (fun r0=>if (!((s p).isSome))=true then (some ((false,([]:List UInt8)),91))
 else (some (((s p).getD (false,[])),0))) (fun rv=>some rv) o0)
 else (some ((false,([]:List UInt8)),x0))
noncomputable def oT (s:(List UInt8)->Option aJ) (p:List UInt8):Option (aJ×Int) :=
(jH s p).bind fun x0 =>
if x0.2=0 then (if x0.1.1=true then (some ((false,([]:List UInt8)),94))
 else (some ((x0.1.1,x0.1.2),x0.2)))
 else (some (x0.1,x0.2))
noncomputable def nK (s:(List UInt8)->Option aJ) (p:List UInt8):Option Int :=
(jP p).bind fun x0 =>
if x0=0 then (if p=([47]) then (some 92)
 else ((mV p).bind fun x1 =>
(jH s x1).bind fun x2 =>
if x2.2=0 then (if (!x2.1.1)=true then (some 93)
 else (if ((s p).isSome)=true then (some 92)
 else (some 0)))
 else (some x2.2)))
 else (some x0)
noncomputable def rT (s:(List UInt8)->Option aJ):Option Bool :=
gW s (fun l39=>(dC (fun (s0:Unit) (x0:(List UInt8)×aJ)=>(jP x0.1).bind fun x1 =>
if x1=0 then (if 192<((x0.2.2).length:Int) then (some (.inr false))
 else (if x0.1=([47]) then (some (.inl ()))
 else ((mV x0.1).bind fun x2 =>
if (!(((s x2).getD (false,[])).1))=true then (some (.inr false))
 else (some (.inl ())))))
 else (some (.inr false))) () l39).bind (Sum.elim (fun (s0:Unit)=>some (((s ([47])).getD (false,[])).1)) some))
noncomputable def sized (data:List UInt8) (n:Int):Option (List UInt8) :=
(mkO n (0:UInt8)).bind fun x0 =>
some (putAt x0 0 ((data).take (x0).length))
noncomputable def sW (s:(List UInt8)->Option aJ) (o:cK):Option (bM×((List UInt8)->Option aJ)) :=
(oT s o.2.1).bind fun x0 =>
Option.bind (α:=(Int)) (if o.1=3 then (some o.2.2.2.1)
 else (some o.2.2.2.2.1)) fun r0=>Option.bind (α:=(aJ×((List UInt8)->Option aJ)×(Int×Int))) (Option.bind (α:=(aJ×((List UInt8)->Option aJ)×(Int×Int))) (if x0.2=0 then (Option.bind (α:=(aJ×((List UInt8)->Option aJ)×(Int×Int))) (if r0<0 then (some (x0.1,s,(1,0)))
 else (if 192<r0 then (some (x0.1,s,(97,0)))
 else (if o.1=3 then (Option.bind (α:=(aJ×((List UInt8)->Option aJ)×(Int×Int))) (if 192<(IntKind.i64.wrap (r0+((o.2.2.2.2.2).length:Int))) then (some (x0.1,s,(97,0)))
 else (Option.bind (α:=(aJ×((List UInt8)->Option aJ)×Int)) (if o.1=4 then ((sized x0.1.2 r0).bind fun x1 =>
some ((x0.1.1,x0.1.2),aQ o.2.1 (false,x1) s,0))
 else (Option.bind (α:=(aJ×((List UInt8)->Option aJ))) (if 0<((o.2.2.2.2.2).length:Int) then ((sized x0.1.2 (max ((x0.1.2).length:Int) (IntKind.i64.wrap (r0+((o.2.2.2.2.2).length:Int))))).bind fun x2 =>
(bN x2 r0 ((x2).length:Int)).bind fun x3 =>
some ((x0.1.1,x0.1.2),aQ o.2.1 (false,(putAt x2 (r0:Int).toNat ((o.2.2.2.2.2).take (x3).length))) s))
 else (some (x0.1,s))) fun r1=>some (r1.1,r1.2,((o.2.2.2.2.2).length:Int)))) fun r2=>some (r2.1,r2.2.1,(0,r2.2.2)))) fun r3=>some (r3.1,r3.2.1,(r3.2.2.1,r3.2.2.2)))
 else (Option.bind (α:=(aJ×((List UInt8)->Option aJ)×Int)) (if o.1=4 then ((sized x0.1.2 r0).bind fun x4 =>
some ((x0.1.1,x0.1.2),aQ o.2.1 (false,x4) s,0))
 else (Option.bind (α:=(aJ×((List UInt8)->Option aJ))) (if 0<((o.2.2.2.2.2).length:Int) then ((sized x0.1.2 (max ((x0.1.2).length:Int) (IntKind.i64.wrap (r0+((o.2.2.2.2.2).length:Int))))).bind fun x5 =>
(bN x5 r0 ((x5).length:Int)).bind fun x6 =>
some ((x0.1.1,x0.1.2),aQ o.2.1 (false,(putAt x5 (r0:Int).toNat ((o.2.2.2.2.2).take (x6).length))) s))
 else (some (x0.1,s))) fun r4=>some (r4.1,r4.2,((o.2.2.2.2.2).length:Int)))) fun r5=>some (r5.1,r5.2.1,(0,r5.2.2)))))) fun r6=>some (r6.1,r6.2.1,(r6.2.2.1,r6.2.2.2)))
 else (some (x0.1,s,(x0.2,0)))) fun r7=>some (r7.1,r7.2.1,(r7.2.2.1,r7.2.2.2))) fun r8=>some ((r8.2.2.1,r8.2.2.2,([]:List UInt8),([]:List (List UInt8))),r8.2.1)
noncomputable def rV (s:(List UInt8)->Option aJ) (o:cK):Option bM :=
(oT s o.2.1).bind fun x0 =>
Option.bind (α:=(aJ×(Int×Int×(List UInt8)))) (Option.bind (α:=(aJ×(Int×Int×(List UInt8)))) (if x0.2=0 then (if o.2.2.2.1<0 then (some (x0.1,(1,0,([]:List UInt8))))
 else (Option.bind (α:=(aJ×(Int×Int×(List UInt8)))) (if o.2.2.2.2.1<0 then (some (x0.1,(1,0,([]:List UInt8))))
 else ((bN x0.1.2 (min o.2.2.2.1 ((x0.1.2).length:Int)) ((x0.1.2).length:Int)).bind fun x1 =>
(bN x1 0 (min (min o.2.2.2.2.1 64) (IntKind.i64.wrap (((x0.1.2).length:Int)-(min o.2.2.2.1 ((x0.1.2).length:Int)))))).bind fun x2 =>
(mJ x2).bind fun x3 =>
some ((x0.1.1,x0.1.2),(0,((x0.1.2).length:Int),x3)))) fun r0=>some (r0.1,(r0.2.1,r0.2.2.1,r0.2.2.2))))
 else (some (x0.1,(x0.2,0,([]:List UInt8))))) fun r1=>some (r1.1,(r1.2.1,r1.2.2.1,r1.2.2.2))) fun r2=>some (r2.2.1,r2.2.2.1,r2.2.2.2,([]:List (List UInt8)))
noncomputable def jA (s:(List UInt8)->Option aJ) (p:List UInt8):Option (List (List UInt8)) :=
gW s (fun l76=>(dC (fun (s0:(List (List UInt8))) (x0:(List UInt8)×aJ)=>Option.bind (α:=((List (List UInt8)))) (if x0.1=([47]) then (some s0)
 else ((mV x0.1).bind fun x1 =>
Option.bind (α:=((List (List UInt8)))) (if x1=p then ((rE x0.1).bind fun x2 =>
(aY s0 ([x2])).bind fun x3 =>
some x3)
 else (some s0)) fun r0=>some r0)) fun r1=>some (.inl r1)) ([]) l76).bind (Sum.elim (fun (s0:(List (List UInt8)))=>(uL s0).bind fun x4 =>
some x4) some))
noncomputable def nP (s:(List UInt8)->Option aJ) (o:cK):Option (Int×((List UInt8)->Option aJ)) :=
(jP o.2.1).bind fun x0 =>
if x0=0 then ((jP o.2.2.1).bind fun x1 =>
if x1=0 then ((jH s o.2.1).bind fun x2 =>
if x2.2=0 then (if o.2.1=([47]) then (some (96,s))
 else ((nN o.2.1 o.2.2.1).bind fun x3 =>
if x3=true then (some (96,s))
 else ((nK s o.2.2.1).bind fun x4 =>
if x4=0 then (gW s (fun l141=>(dC (fun (s0:((List UInt8)->Option (List UInt8))) (x5:(List UInt8)×aJ)=>Option.bind (α:=(((List UInt8)->Option (List UInt8))) ⊕ (Int×((List UInt8)->Option aJ))) ((nN o.2.1 x5.1).bind fun x6 =>
Option.bind (α:=(((List UInt8)->Option (List UInt8))) ⊕ (Int×((List UInt8)->Option aJ))) (if x6=true then ((bN x5.1 ((o.2.1).length:Int) ((x5.1).length:Int)).bind fun x7 =>
(aY o.2.2.1 x7).bind fun x8 =>
if 24<(((((aQ x5.1 x8 s0) x5.1).getD [])).length:Int) then (some (.inr (90,s)))
 else (some (.inl (aQ x5.1 x8 s0))))
 else (some (.inl s0))) fun o0=>Sum.elim (fun r0=>some (.inl r0)) (fun rv=>some (.inr rv)) o0) fun o1=>Sum.elim (fun r1=>some (.inl r1)) (fun rv=>some (.inr rv)) o1) (bV:(List UInt8)->Option (List UInt8)) l141).bind (Sum.elim (fun (s0:((List UInt8)->Option (List UInt8)))=>Option.bind (α:=(((List UInt8)->Option aJ))) (gW s0 (fun l166=>(dC (fun (s1:((List UInt8)->Option aJ)) (x9:(List UInt8)×(List UInt8))=>some (.inl (dR x9.1 (aQ x9.2 ((s1 x9.1).getD (false,[])) s1)))) s l166).bind (Sum.elim (fun (s1:((List UInt8)->Option aJ))=>some s1) some))) fun r2=>some (0,r2)) some)))
 else (some (x4,s)))))
 else (some (x2.2,s)))
 else (some (90,s)))
 else (some (90,s))
noncomputable def qQ (s:(List UInt8)->Option aJ) (p:List UInt8):Option (Int×((List UInt8)->Option aJ)) :=
(jH s p).bind fun x0 =>
if x0.2=0 then (if p=([47]) then (some (96,s))
 else ((jA s p).bind fun x1 =>
if 0<((x1).length:Int) then (some (95,s))
 else (some (0,dR p s))))
 else (some (x0.2,s))
noncomputable def rA (s:List (List UInt8)):Option (List (List UInt8)) :=
(aY ([]:List (List UInt8)) s).bind fun x0 =>
some x0
noncomputable def sS (s:(List UInt8)->Option aJ) (o:cK):Option bM :=
(jH s o.2.1).bind fun x0 =>
Option.bind (α:=(aJ×(Int×Int×(List (List UInt8))))) (Option.bind (α:=(aJ×(Int×Int×(List (List UInt8))))) (if x0.2=0 then (Option.bind (α:=((Int×Int×(List (List UInt8))))) (if (!x0.1.1)=true then (some (93,0,([]:List (List UInt8))))
 else ((jA s o.2.1).bind fun x1 =>
(sV x1 o.2.2.1).bind fun x2 =>
(bN x2 0 (min ((x2).length:Int) 6)).bind fun x3 =>
(rA x3).bind fun x4 =>
some (0,((x1).length:Int),x4))) fun r0=>some ((x0.1.1,x0.1.2),(r0.1,r0.2.1,r0.2.2)))
 else (some (x0.1,(x0.2,0,([]:List (List UInt8)))))) fun r1=>some (r1.1,(r1.2.1,r1.2.2.1,r1.2.2.2))) fun r2=>some (r2.2.1,r2.2.2.1,([]:List UInt8),r2.2.2.2)
noncomputable def qS (s:(List UInt8)->Option aJ) (p:List UInt8):Option bM :=
(jH s p).bind fun x0 =>
Option.bind (α:=(aJ×(Int×Int×(List UInt8)))) (Option.bind (α:=(aJ×(Int×Int×(List UInt8)))) (if x0.2=0 then (Option.bind (α:=((Int×(List UInt8)))) (if x0.1.1=true then ((u8O 100).bind fun x1 =>
(jA s p).bind fun x2 =>
some (((x2).length:Int),[x1]))
 else ((u8O 102).bind fun x3 =>
some (((x0.1.2).length:Int),[x3]))) fun r0=>some ((x0.1.1,x0.1.2),(0,r0.1,r0.2)))
 else (some (x0.1,(x0.2,0,([]:List UInt8))))) fun r1=>some (r1.1,(r1.2.1,r1.2.2.1,r1.2.2.2))) fun r2=>some (r2.2.1,r2.2.2.1,r2.2.2.2,([]:List (List UInt8)))
noncomputable def sDo (s:(List UInt8)->Option aJ) (o:cK):Option (bM×((List UInt8)->Option aJ)) :=
Option.bind (α:=(Int×((List UInt8)->Option aJ)) ⊕ (bM×((List UInt8)->Option aJ))) (Option.bind (α:=(Bool)) (if o.1=1 then (some (decide (o.1=1)))
 else (some (decide (o.1=2)))) fun r0=>Option.bind (α:=(Int×((List UInt8)->Option aJ)) ⊕ (bM×((List UInt8)->Option aJ))) (if r0=true then ((nK s o.2.1).bind fun x0 =>
Option.bind (α:=(((List UInt8)->Option aJ))) (if x0=0 then (some (aQ o.2.1 (decide (o.1=2),([]:List UInt8)) s))
 else (some s)) fun r1=>some (.inl (x0,r1)))
 else (Option.bind (α:=(Bool)) (if o.1=3 then (some (decide (o.1=3)))
 else (some (decide (o.1=4)))) fun r2=>Option.bind (α:=(Int×((List UInt8)->Option aJ)) ⊕ (bM×((List UInt8)->Option aJ))) (if r2=true then ((sW s (o.1,o.2.1,o.2.2.1,o.2.2.2.1,o.2.2.2.2.1,o.2.2.2.2.2)).bind fun x1 =>
some (.inr (x1.1,x1.2)))
 else (Option.bind (α:=(Int×((List UInt8)->Option aJ)) ⊕ (bM×((List UInt8)->Option aJ))) (if o.1=5 then ((rV s (o.1,o.2.1,o.2.2.1,o.2.2.2.1,o.2.2.2.2.1,o.2.2.2.2.2)).bind fun x2 =>
some (.inr (x2,s)))
 else (Option.bind (α:=(Int×((List UInt8)->Option aJ)) ⊕ (bM×((List UInt8)->Option aJ))) (if o.1=6 then ((nP s (o.1,o.2.1,o.2.2.1,o.2.2.2.1,o.2.2.2.2.1,o.2.2.2.2.2)).bind fun x3 =>
some (.inl (x3.1,x3.2)))
 else (Option.bind (α:=(Int×((List UInt8)->Option aJ)) ⊕ (bM×((List UInt8)->Option aJ))) (if o.1=7 then ((qQ s o.2.1).bind fun x4 =>
some (.inl (x4.1,x4.2)))
 else (if o.1=8 then ((sS s (o.1,o.2.1,o.2.2.1,o.2.2.2.1,o.2.2.2.2.1,o.2.2.2.2.2)).bind fun x5 =>
some (.inr (x5,s)))
 else (if o.1=9 then ((qS s o.2.1).bind fun x6 =>
some (.inr (x6,s)))
 else (some (.inl (1,s)))))) fun o0=>Sum.elim (fun r3=>some (.inl (r3.1,r3.2))) (fun rv=>some (.inr rv)) o0)) fun o1=>Sum.elim (fun r4=>some (.inl (r4.1,r4.2))) (fun rv=>some (.inr rv)) o1)) fun o2=>Sum.elim (fun r5=>some (.inl (r5.1,r5.2))) (fun rv=>some (.inr rv)) o2)) fun o3=>Sum.elim (fun r6=>some (.inl (r6.1,r6.2))) (fun rv=>some (.inr rv)) o3)) fun o4=>Sum.elim (fun r7=>some (.inl (r7.1,r7.2))) (fun rv=>some (.inr rv)) o4) fun o5=>Sum.elim (fun r8=>some ((r8.1,0,([]:List UInt8),([]:List (List UInt8))),r8.2)) (fun rv=>some rv) o5
noncomputable def pJ (list:List aM):Option ((List UInt8)->Option aJ) :=
Option.bind (α:=(((List UInt8)->Option (List UInt8))×((List UInt8)->Option aJ))) (aU (fun (s0:((List UInt8)->Option (List UInt8))×((List UInt8)->Option aJ)×Int)=>if s0.2.2<((list).length:Int) then (Option.bind (α:=(((List UInt8)->Option (List UInt8))×((List UInt8)->Option aJ))) ((aD list s0.2.2).bind fun x0 =>
Option.bind (α:=((List UInt8)×(List UInt8))) (if 0<((x0.1).length:Int) then ((bN x0.1 0 1).bind fun x1 =>
(bN x0.1 1 ((x0.1).length:Int)).bind fun x2 =>
some (x1,x2))
 else (some ([],[]))) fun r0=>Option.bind (α:=(((List UInt8)->Option (List UInt8))×((List UInt8)->Option aJ))) (Option.bind (α:=(((List UInt8)->Option (List UInt8))×((List UInt8)->Option aJ))) (if r0.1=([99]) then ((rX r0.2 ([0])).bind fun x3 =>
(aY ((s0.1 x3.1).getD []) x0.2).bind fun x4 =>
some (aQ x3.1 x4 s0.1,s0.2.1))
 else (Option.bind (α:=(((List UInt8)->Option aJ))) (if r0.1=([110]) then (if ((x0.2).length:Int)=1 then ((aD x0.2 0).bind fun x5 =>
some (aQ r0.2 (decide (((x5).toNat:Int)=100),([]:List UInt8)) s0.2.1))
 else (some (aQ r0.2 (false,([]:List UInt8)) s0.2.1)))
 else (some s0.2.1)) fun r1=>some (s0.1,r1))) fun r2=>some (r2.1,r2.2)) fun r3=>some (r3.1,r3.2)) fun r4=>some (.inl (r4.1,r4.2,IntKind.i64.wrap (s0.2.2+1))))
 else (some (.inr (s0.1,s0.2.1)))) ((bV:(List UInt8)->Option (List UInt8)),(bV:(List UInt8)->Option aJ),0)) fun r5=>gW r5.2 (fun l1109=>(dC (fun (s1:((List UInt8)->Option aJ)) (x6:(List UInt8)×aJ)=>Option.bind (α:=(((List UInt8)->Option aJ))) (Option.bind (α:=(((List UInt8)->Option aJ))) (if (!x6.2.1)=true then (some (aQ x6.1 (false,((r5.1 x6.1).getD [])) s1))
 else (some s1)) fun r6=>some r6) fun r7=>some (.inl r7)) r5.2 l1109).bind (Sum.elim (fun (s1:((List UInt8)->Option aJ))=>some s1) some))
noncomputable def gT (s:(List UInt8)->Option aJ):Option (List aM) :=
gW s (fun l733=>(dC (fun (s0:(List aM)) (x0:(List UInt8)×aJ)=>Option.bind (α:=((List aM))) ((aY ([110]) x0.1).bind fun x1 =>
if x0.2.1=true then ((u8O 100).bind fun x2 =>
(aY s0 ([(x1,[x2])])).bind fun x3 =>
some x3)
 else ((u8O 102).bind fun x4 =>
(qY ([]:List UInt8) ([x4])).bind fun x5 =>
(sX x5 (IntKind.u64.wrap (((x0.2.2).length:Int))) 2).bind fun x6 =>
(tP x6.2).bind fun x7 =>
(aY s0 ([(x1,x7.1)])).bind fun x8 =>
(rY 64 (x0.2.2).length).bind fun x9 =>
Option.bind (α:=(Int×(List aM)) ⊕ Empty) (dC (fun (s1:Int×(List aM)) (x10:List UInt8)=>Option.bind (α:=((List aM))) ((aY ([99]) x0.1).bind fun x11 =>
(u8O 0).bind fun x12 =>
(u8O (IntKind.u8.wrap (s1.1))).bind fun x13 =>
(aY x11 ([x12,x13])).bind fun x14 =>
(mJ x10).bind fun x15 =>
(aY s1.2 ([(x14,x15)])).bind fun x16 =>
some x16) fun r0=>some (.inl (IntKind.i64.wrap (s1.1+1),r0))) (0,x8) (fG x9 x0.2.2)) fun o0=>Sum.elim (fun s1=>some s1.2) (fun r1=>none) o0)) fun r2=>some (.inl r2)) ([]:List aM) l733).bind (Sum.elim (fun (s0:(List aM))=>(vN s0).bind fun x17 =>
some x17) some))
noncomputable def qV (s:(List UInt8)->Option aJ):Option ((List UInt8)->Option aJ):=some s
noncomputable def fDo (files:List aM) (o:cK):Option ((List aM)×bM) :=
(pJ files).bind fun x0 =>
(qV x0).bind fun x1 =>
(sDo x0 o).bind fun x2 =>
if x2.1.1=0 then ((gT x2.2).bind fun x3 =>
some (x3,(x2.1.1,x2.1.2.1,x2.1.2.2.1,x2.1.2.2.2)))
 else ((gT x1).bind fun x4 =>
some (x4,(x2.1.1,x2.1.2.1,x2.1.2.2.1,x2.1.2.2.2)))
noncomputable def sF (xs:List UInt8) (ys:List UInt8):Option Bool :=
some (decide (xs=ys))
noncomputable def pW (x0_:aM) (x1_:aM):Option Bool :=
(sF x0_.1 x1_.1).bind fun x0 =>
if x0=true then ((sF x0_.2 x1_.2).bind fun x1 =>
some x1)
 else (some false)
noncomputable def qI (xs:List aM) (ys:List aM):Option Bool :=
if ((xs).length:Int)=((ys).length:Int) then (Option.bind (α:=(Unit) ⊕ Bool) (aU (fun (s0:Int)=>if s0<((xs).length:Int) then ((aD xs s0).bind fun x0 =>
(aD ys s0).bind fun x1 =>
(pW x0 x1).bind fun x2 =>
if (!x2)=true then (some (.inr (.inr false)))
 else (some (.inl (IntKind.i64.wrap (s0+1)))))
 else (some (.inr (.inl ())))) 0) fun o0=>Sum.elim (fun r0=>some true) (fun rv=>some rv) o0)
 else (some false)
noncomputable def jR (files:List aM):Option Int :=
(pJ files).bind fun x0 =>
(rT x0).bind fun x1 =>
if (!x1)=true then (some 22)
 else ((gT x0).bind fun x2 =>
(qI x2 files).bind fun x3 =>
if (!x3)=true then (some 22)
 else (some 0))
noncomputable def fNew :Option (List aM) :=
(gT (aQ ([47]) (true,([]:List UInt8)) (bV:(List UInt8)->Option aJ))).bind fun x0 =>
some x0
noncomputable def pF (s:List UInt8):Option (List UInt8) :=
(aY ([]:List UInt8) s).bind fun x0 =>
some x0
noncomputable def xO (a:List UInt8) (b:List UInt8):Option Int:=some (Lib.compareBytes a b)
noncomputable def xV (a:List UInt8) (b:List UInt8):Option Int :=
(xO a b).bind fun x0 =>
some x0
noncomputable def nE (a_:cE) (b_:cE):Option Int :=
(xV a_.1 b_.1).bind fun x0 =>
some x0
noncomputable def jO (list:List aM):Option (List aM) :=
Option.bind (α:=((List aM))) (aU (fun (s0:(List aM)×Int)=>if s0.2<((list).length:Int) then ((aD list s0.2).bind fun x0 =>
(pF x0.1).bind fun x1 =>
(pF x0.2).bind fun x2 =>
(aY s0.1 ([(x1,x2)])).bind fun x3 =>
some (.inl (x3,IntKind.i64.wrap (s0.2+1))))
 else (some (.inr s0.1))) ([],0)) fun r0=>some r0
noncomputable def mE (s:cQ):Option cQ :=
(jO s.1).bind fun x0 =>
Option.bind (α:=(dA)) (aU (fun (s0:dA×Int)=>if s0.2<((s.2).length:Int) then ((aD s.2 s0.2).bind fun x1 =>
(jO x1.2.2).bind fun x2 =>
(aY s0.1.2 ([(x1.1,x1.2.1,x2)])).bind fun x3 =>
some (.inl ((s0.1.1,x3),IntKind.i64.wrap (s0.2+1))))
 else (some (.inr s0.1))) ((x0,([]:List cE)),0)) fun r0=>some (r0.1,r0.2)
noncomputable def mZ :Option cQ :=
(fNew).bind fun x0 =>
some (x0,([]:List cE))
noncomputable def iQ (s:cQ):Option Int :=
Option.bind (α:=(Int)) (aU (fun (s0:Int×Int)=>if s0.2<((s.2).length:Int) then ((aD s.2 s0.2).bind fun x0 =>
some (.inl (IntKind.i64.wrap (s0.1+(IntKind.i64.wrap (1+((x0.2.2).length:Int)))),IntKind.i64.wrap (s0.2+1))))
 else (some (.inr s0.1))) (((s.1).length:Int),0)) fun r0=>some r0
noncomputable def mY (s:cQ):Option Int :=
(jR s.1).bind fun x0 =>
if x0=0 then ((iQ (s.1,s.2)).bind fun x1 =>
Option.bind (α:=(Bool)) (aU (fun (s0:Bool×Int)=>if s0.2<((s.2).length:Int) then ((aD s.2 s0.2).bind fun x2 =>
if s0.1=true then (some (.inl (true,IntKind.i64.wrap (s0.2+1))))
 else ((jR x2.2.2).bind fun x3 =>
if x3=0 then ((mB x2.1).bind fun x4 =>
if (!x4)=true then (some (.inl (true,IntKind.i64.wrap (s0.2+1))))
 else (if 0<s0.2 then ((aD s.2 (IntKind.i64.wrap (s0.2-1))).bind fun x5 =>
(nE x5 (x2.1,x2.2.1,x2.2.2)).bind fun x6 =>
some (.inl (decide (0<=x6),IntKind.i64.wrap (s0.2+1))))
 else (some (.inl (false,IntKind.i64.wrap (s0.2+1))))))
 else (some (.inl (true,IntKind.i64.wrap (s0.2+1))))))
 else (some (.inr s0.1))) (decide (48<x1),0)) fun r0=>if r0=true then (some 22)
 else (some 0))
 else (Option.bind (α:=(Unit)) (aU (fun (s1:Int)=>if s1<((s.2).length:Int) then ((aD s.2 s1).bind fun x7 =>
some (.inl (IntKind.i64.wrap (s1+1))))
 else (some (.inr ()))) 0) fun r1=>some 22)
noncomputable def oH (s:cQ) (behind:List UInt8):Option bM :=
Option.bind (α:=((List (List UInt8)))) (aU (fun (s0:(List (List UInt8))×Int)=>if s0.2<((s.2).length:Int) then (Option.bind (α:=((List (List UInt8)))) ((aD s.2 s0.2).bind fun x0 =>
if (gV x0.1 behind)=true then (Option.bind (α:=((List (List UInt8)))) (if ((s0.1).length:Int)<6 then ((aY s0.1 ([x0.1])).bind fun x1 =>
some x1)
 else (some s0.1)) fun r0=>some r0)
 else (some s0.1)) fun r1=>some (.inl (r1,IntKind.i64.wrap (s0.2+1))))
 else (some (.inr s0.1))) (([]:List (List UInt8)),0)) fun r2=>some (0,((s.2).length:Int),([]:List UInt8),r2)
noncomputable def jS (xs:List cE) (t_:cE):Option (Int×Bool) :=
Option.bind (α:=(Int)) (aU (fun (s0:Int×Int)=>if s0.1<s0.2 then (Option.bind (α:=(Int×Int)) ((aD xs (IntKind.i64.wrap (gN .u64 (IntKind.u64.wrap (IntKind.i64.wrap (s0.1+s0.2))) 1))).bind fun x0 =>
(nE x0 t_).bind fun x1 =>
Option.bind (α:=(Int×Int)) (if x1<0 then (some (IntKind.i64.wrap ((IntKind.i64.wrap (gN .u64 (IntKind.u64.wrap (IntKind.i64.wrap (s0.1+s0.2))) 1))+1),s0.2))
 else (some (s0.1,IntKind.i64.wrap (gN .u64 (IntKind.u64.wrap (IntKind.i64.wrap (s0.1+s0.2))) 1)))) fun r0=>some (r0.1,r0.2)) fun r1=>some (.inl (r1.1,r1.2)))
 else (some (.inr s0.1))) (0,((xs).length:Int))) fun r2=>if r2<((xs).length:Int) then ((aD xs r2).bind fun x2 =>
(nE x2 t_).bind fun x3 =>
some (r2,decide (x3=0)))
 else (some (r2,false))
noncomputable def lD (s:List cE) (i_:Int) (v:List cE):Option (List cE):=rJ s i_ v
noncomputable def kP (s:List cE) (i_:Int) (j_:Int):Option (List cE):=sD s i_ j_
noncomputable def jF (s:dA) (o:cK) (gen:Int):Option (Int×dA) :=
(mB o.2.1).bind fun x0 =>
if (!x0)=true then (some (90,s))
 else ((jS s.2 (o.2.1,0,([]:List aM))).bind fun x1 =>
Option.bind (α:=(dA) ⊕ (Int×dA)) (if o.1=10 then (Option.bind (α:=(dA) ⊕ (Int×dA)) (if x1.2=true then (some (.inr (92,s)))
 else (Option.bind (α:=(dA) ⊕ (Int×dA)) (if o.1=10 then ((jO s.1).bind fun x2 =>
(lD s.2 x1.1 ([(o.2.1,gen,x2)])).bind fun x3 =>
some (.inl (s.1,x3)))
 else (Option.bind (α:=(dA) ⊕ (Int×dA)) (if (!x1.2)=true then (some (.inr (91,s)))
 else (Option.bind (α:=(dA)) (if o.1=11 then ((kP s.2 x1.1 (IntKind.i64.wrap (x1.1+1))).bind fun x4 =>
some (s.1,x4))
 else ((aD s.2 x1.1).bind fun x5 =>
(jO x5.2.2).bind fun x6 =>
some (x6,s.2))) fun r0=>some (.inl r0))) fun o0=>Sum.elim (fun r1=>some (.inl r1)) (fun rv=>some (.inr rv)) o0)) fun o1=>Sum.elim (fun r2=>some (.inl r2)) (fun rv=>some (.inr rv)) o1)) fun o2=>Sum.elim (fun r3=>some (.inl r3)) (fun rv=>some (.inr rv)) o2)
 else (Option.bind (α:=(dA) ⊕ (Int×dA)) (if o.1=10 then ((jO s.1).bind fun x7 =>
(lD s.2 x1.1 ([(o.2.1,gen,x7)])).bind fun x8 =>
some (.inl (s.1,x8)))
 else (Option.bind (α:=(dA) ⊕ (Int×dA)) (if (!x1.2)=true then (some (.inr (91,s)))
 else (Option.bind (α:=(dA)) (if o.1=11 then ((kP s.2 x1.1 (IntKind.i64.wrap (x1.1+1))).bind fun x9 =>
some (s.1,x9))
 else ((aD s.2 x1.1).bind fun x10 =>
(jO x10.2.2).bind fun x11 =>
some (x11,s.2))) fun r4=>some (.inl r4))) fun o3=>Sum.elim (fun r5=>some (.inl r5)) (fun rv=>some (.inr rv)) o3)) fun o4=>Sum.elim (fun r6=>some (.inl r6)) (fun rv=>some (.inr rv)) o4)) fun o5=>Sum.elim (fun r7=>some (0,r7)) (fun rv=>some rv) o5)
noncomputable def nDo (s:cQ) (o:cK) (gen:Int):Option (cQ×bM) :=
(mE s).bind fun x0 =>
Option.bind (α:=(dA×bM×cQ)) (Option.bind (α:=(Bool)) (if o.1=10 then (some (decide (o.1=10)))
 else (Option.bind (α:=(Bool)) (if o.1=11 then (some (decide (o.1=11)))
 else (some (decide (o.1=12)))) fun r0=>some r0)) fun r1=>Option.bind (α:=(dA×bM×cQ)) (if r1=true then ((jF (x0.1,x0.2) (o.1,o.2.1,o.2.2.1,o.2.2.2.1,o.2.2.2.2.1,o.2.2.2.2.2) gen).bind fun x1 =>
some (x1.2,(x1.1,0,([]:List UInt8),([]:List (List UInt8))),s))
 else (Option.bind (α:=(dA×bM×cQ)) (if o.1=13 then ((oH s o.2.2.1).bind fun x2 =>
some ((x0.1,x0.2),x2,s))
 else ((fDo s.1 (o.1,o.2.1,o.2.2.1,o.2.2.2.1,o.2.2.2.2.1,o.2.2.2.2.2)).bind fun x3 =>
some ((x3.1,(x0.1,x0.2).2),x3.2,(s.1,s.2)))) fun r2=>some (r2.1,r2.2.1,r2.2.2))) fun r3=>some (r3.1,r3.2.1,r3.2.2)) fun r4=>if r4.2.1.1=0 then ((iQ (r4.1.1,r4.1.2)).bind fun x4 =>
Option.bind (α:=((Int×Int×(List UInt8)×(List (List UInt8))))) (if 48<x4 then (some (98,0,([]:List UInt8),([]:List (List UInt8))))
 else (some (r4.2.1.1,r4.2.1.2.1,r4.2.1.2.2.1,r4.2.1.2.2.2))) fun r5=>if r5.1=0 then (some ((r4.1.1,r4.1.2),(r5.1,r5.2.1,r5.2.2.1,r5.2.2.2)))
 else ((mE r4.2.2).bind fun x5 =>
some ((x5.1,x5.2),(r5.1,r5.2.1,r5.2.2.1,r5.2.2.2))))
 else (if r4.2.1.1=0 then (some ((r4.1.1,r4.1.2),(r4.2.1.1,r4.2.1.2.1,r4.2.1.2.2.1,r4.2.1.2.2.2)))
 else ((mE r4.2.2).bind fun x6 =>
some ((x6.1,x6.2),(r4.2.1.1,r4.2.1.2.1,r4.2.1.2.2.1,r4.2.1.2.2.2))))
noncomputable def mA (list:List aM):Option (List aM) :=
Option.bind (α:=((List aM))) (aU (fun (s0:(List aM)×Int)=>if s0.2<((list).length:Int) then (Option.bind (α:=((List aM))) ((aD list s0.2).bind fun x0 =>
(aD list s0.2).bind fun x1 =>
(aY ([]:List UInt8) x0.1).bind fun x2 =>
(aY ([]:List UInt8) x1.2).bind fun x3 =>
(aY s0.1 ([(x2,x3)])).bind fun x4 =>
some x4) fun r0=>some (.inl (r0,IntKind.i64.wrap (s0.2+1))))
 else (some (.inr s0.1))) (([]:List aM),0)) fun r1=>some r1
noncomputable def lX (a_:List aM) (b_:List aM):Option Bool :=
if ((a_).length:Int)=((b_).length:Int) then (Option.bind (α:=(Unit) ⊕ Bool) (aU (fun (s0:Int)=>if s0<((a_).length:Int) then ((aD a_ s0).bind fun x0 =>
(aD b_ s0).bind fun x1 =>
if x0.1=x1.1 then ((aD a_ s0).bind fun x2 =>
(aD b_ s0).bind fun x3 =>
if x2.2=x3.2 then (some (.inl (IntKind.i64.wrap (s0+1))))
 else (some (.inr (.inr false))))
 else (some (.inr (.inr false))))
 else (some (.inr (.inl ())))) 0) fun o0=>Sum.elim (fun r0=>some true) (fun rv=>some rv) o0)
 else (some false)
noncomputable def iV (list:List aM):Option Bool :=
Option.bind (α:=(Int) ⊕ Bool) (aU (fun (s0:Int×Int)=>if s0.2<((list).length:Int) then (if s0.1<=8000 then ((aD list s0.2).bind fun x0 =>
if 8000<((x0.1).length:Int) then (some (.inr (.inr true)))
 else ((aD list s0.2).bind fun x1 =>
if 8000<((x1.2).length:Int) then (some (.inr (.inr true)))
 else ((aD list s0.2).bind fun x2 =>
(aD list s0.2).bind fun x3 =>
some (.inl (IntKind.i64.wrap (s0.1+(IntKind.i64.wrap ((IntKind.i64.wrap (8+((x2.1).length:Int)))+((x3.2).length:Int)))),IntKind.i64.wrap (s0.2+1))))))
 else (some (.inr (.inl s0.1))))
 else (some (.inr (.inl s0.1)))) (0,0)) fun o0=>Sum.elim (fun r0=>some (decide (8000<r0))) (fun rv=>some rv) o0
noncomputable def pK (o:cK):Option Bool :=
if 400<((o.2.1).length:Int) then (some true)
 else (if 400<((o.2.2.1).length:Int) then (some true)
 else (some (decide (400<((o.2.2.2.2.2).length:Int)))))
noncomputable def mS (a_:cQ) (b_:cQ):Option Bool :=
(lX a_.1 b_.1).bind fun x0 =>
if (!x0)=true then (some false)
 else (if ((a_.2).length:Int)=((b_.2).length:Int) then (Option.bind (α:=(Unit) ⊕ Bool) (aU (fun (s0:Int)=>if s0<((a_.2).length:Int) then (Option.bind (α:=(cE×cE)) ((aD a_.2 s0).bind fun x1 =>
(aD b_.2 s0).bind fun x2 =>
some (x1,x2)) fun r0=>if r0.1.1=r0.2.1 then (if r0.1.2.1=r0.2.2.1 then ((lX r0.1.2.2 r0.2.2.2).bind fun x3 =>
if (!x3)=true then (some (.inr (.inr false)))
 else (some (.inl (IntKind.i64.wrap (s0+1)))))
 else (some (.inr (.inr false))))
 else (some (.inr (.inr false))))
 else (some (.inr (.inl ())))) 0) fun o0=>Sum.elim (fun r1=>some true) (fun rv=>some rv) o0)
 else (some false))
noncomputable def lC (s:cQ):Option Bool :=
(iV s.1).bind fun x0 =>
if x0=true then (some true)
 else (if 60<((s.1).length:Int) then (some true)
 else (if 40<((s.2).length:Int) then (some true)
 else (Option.bind (α:=(Unit) ⊕ Bool) (aU (fun (s0:Int)=>if s0<((s.2).length:Int) then ((aD s.2 s0).bind fun x1 =>
(iV x1.2.2).bind fun x2 =>
if x2=true then (some (.inr (.inr true)))
 else ((aD s.2 s0).bind fun x3 =>
if 60<((x3.2.2).length:Int) then (some (.inr (.inr true)))
 else ((aD s.2 s0).bind fun x4 =>
if 50<((x4.1).length:Int) then (some (.inr (.inr true)))
 else (some (.inl (IntKind.i64.wrap (s0+1)))))))
 else (some (.inr (.inl ())))) 0) fun o0=>Sum.elim (fun r0=>some false) (fun rv=>some rv) o0)))
noncomputable def sT :Option Bool :=
(mZ).bind fun x0 =>
(nDo x0 (10,[115],[],0,0,([]:List UInt8)) 1).bind fun x1 =>
(nDo x1.1 (1,[47,97],[],0,0,([]:List UInt8)) 2).bind fun x2 =>
(nDo x2.1 (12,[115],[],0,0,([]:List UInt8)) 3).bind fun x3 =>
(nDo x3.1 (9,[47,97],[],0,0,([]:List UInt8)) 4).bind fun x4 =>
if (IntKind.i64.wrap ((IntKind.i64.wrap (x1.2.1+x2.2.1))+x3.2.1))=0 then (if x4.2.1=91 then ((mZ).bind fun x5 =>
(iQ x5).bind fun x6 =>
some (decide (x6=1)))
 else (some false))
 else (some false)
noncomputable def kW (x0_:List UInt8):Option Bool :=
if ((x0_).length:Int)<1 then (some false)
 else (if 8<((x0_).length:Int) then (some false)
 else (Option.bind (α:=(Unit) ⊕ Bool) (aU (fun (s0:Int)=>if s0<((x0_).length:Int) then ((aD x0_ s0).bind fun x0 =>
if ((x0).toNat:Int)<33 then (some (.inr (.inr false)))
 else ((aD x0_ s0).bind fun x1 =>
if 126<((x1).toNat:Int) then (some (.inr (.inr false)))
 else ((aD x0_ s0).bind fun x2 =>
if ((x2).toNat:Int)=47 then (some (.inr (.inr false)))
 else (some (.inl (IntKind.i64.wrap (s0+1)))))))
 else (some (.inr (.inl ())))) 0) fun o0=>Sum.elim (fun r0=>some true) (fun rv=>some rv) o0))
noncomputable def lG (x0_:List UInt8):Option ((List (List UInt8))×Bool) :=
if x0_=([47]) then (some (([]:List (List UInt8)),true))
 else (if ((x0_).length:Int)<2 then (some (([]:List (List UInt8)),false))
 else (if 24<((x0_).length:Int) then (some (([]:List (List UInt8)),false))
 else ((aD x0_ 0).bind fun x0 =>
if ((x0).toNat:Int)=47 then (Option.bind (α:=((List (List UInt8))) ⊕ ((List (List UInt8))×Bool)) (aU (fun (s0:(List (List UInt8))×Int×Int)=>if s0.2.2<=((x0_).length:Int) then (Option.bind (α:=((List (List UInt8))×Int) ⊕ ((List (List UInt8))×Bool)) (if s0.2.2<((x0_).length:Int) then ((aD x0_ s0.2.2).bind fun x1 =>
if ((x1).toNat:Int)=47 then ((bN x0_ s0.2.1 s0.2.2).bind fun x2 =>
(kW x2).bind fun x3 =>
if (!x3)=true then (some (.inr (([]:List (List UInt8)),false)))
 else ((bN x0_ s0.2.1 s0.2.2).bind fun x4 =>
(aY s0.1 ([x4])).bind fun x5 =>
some (.inl (x5,IntKind.i64.wrap (s0.2.2+1)))))
 else (some (.inl (s0.1,s0.2.1))))
 else ((bN x0_ s0.2.1 s0.2.2).bind fun x6 =>
(kW x6).bind fun x7 =>
if (!x7)=true then (some (.inr (([]:List (List UInt8)),false)))
 else ((bN x0_ s0.2.1 s0.2.2).bind fun x8 =>
(aY s0.1 ([x8])).bind fun x9 =>
some (.inl (x9,IntKind.i64.wrap (s0.2.2+1)))))) fun o0=>Sum.elim (fun r0=>some (.inl (r0.1,r0.2,IntKind.i64.wrap (s0.2.2+1)))) (fun rv=>some (.inr (.inr rv))) o0)
 else (some (.inr (.inl s0.1)))) (([]:List (List UInt8)),1,1)) fun o1=>Sum.elim (fun r1=>some (r1,true)) (fun rv=>some rv) o1)
 else (some (([]:List (List UInt8)),false)))))
noncomputable def nU (x0_:List (List UInt8)):Option (List UInt8) :=
if ((x0_).length:Int)=0 then (some ([47]))
 else (Option.bind (α:=((List UInt8))) (aU (fun (s0:(List UInt8)×Int)=>if s0.2<((x0_).length:Int) then ((aD x0_ s0.2).bind fun x0 =>
(aY ([47]) x0).bind fun x1 =>
(aY s0.1 x1).bind fun x2 =>
some (.inl (x2,IntKind.i64.wrap (s0.2+1))))
 else (some (.inr s0.1))) ([],0)) fun r0=>some r0)
noncomputable def iZ (x0_:List UInt8):Option Bool :=
(lG x0_).bind fun x0 =>
some x0.2
noncomputable def mI (x0_:List UInt8):Option (List UInt8) :=
(lG x0_).bind fun x0 =>
if ((x0.1).length:Int)=0 then (some ([]))
 else ((bN x0.1 0 (IntKind.i64.wrap (((x0.1).length:Int)-1))).bind fun x1 =>
(nU x1).bind fun x2 =>
some x2)
noncomputable def pV (x0_:List UInt8):Option (List UInt8) :=
(lG x0_).bind fun x0 =>
if ((x0.1).length:Int)=0 then (some ([]))
 else ((aD x0.1 (IntKind.i64.wrap (((x0.1).length:Int)-1))).bind fun x1 =>
some x1)
noncomputable def pG (x0_:List UInt8) (x1_:List UInt8):Option Bool :=
(iZ x0_).bind fun x0 =>
if (!x0)=true then (some false)
 else ((iZ x1_).bind fun x1 =>
if (!x1)=true then (some false)
 else (if x0_=([47]) then (some true)
 else (if x0_=x1_ then (some true)
 else (if ((x0_).length:Int)<((x1_).length:Int) then ((bN x1_ 0 ((x0_).length:Int)).bind fun x2 =>
if x2=x0_ then ((aD x1_ ((x0_).length:Int)).bind fun x3 =>
some (decide (((x3).toNat:Int)=47)))
 else (some false))
 else (some false)))))
noncomputable def sI (a_:List (List UInt8)) (b_:List (List UInt8)):Option Bool :=
if ((a_).length:Int)=((b_).length:Int) then (Option.bind (α:=(Unit) ⊕ Bool) (aU (fun (s0:Int)=>if s0<((a_).length:Int) then ((aD a_ s0).bind fun x0 =>
(aD b_ s0).bind fun x1 =>
if x0=x1 then (some (.inl (IntKind.i64.wrap (s0+1))))
 else (some (.inr (.inr false))))
 else (some (.inr (.inl ())))) 0) fun o0=>Sum.elim (fun r0=>some true) (fun rv=>some rv) o0)
 else (some false)
noncomputable def rZ (a_:bM) (b_:bM):Option Bool :=
if a_.1=b_.1 then (if a_.2.1=b_.2.1 then (if a_.2.2.1=b_.2.2.1 then ((sI a_.2.2.2 b_.2.2.2).bind fun x0 =>
some x0)
 else (some false))
 else (some false))
 else (some false)
noncomputable def lK (x0_:List aT) (x1_:List UInt8):Option Int :=
Option.bind (α:=(Unit) ⊕ Int) (aU (fun (s0:Int)=>if s0<((x0_).length:Int) then ((aD x0_ s0).bind fun x0 =>
if x0.1=x1_ then (some (.inr (.inr s0)))
 else (some (.inl (IntKind.i64.wrap (s0+1)))))
 else (some (.inr (.inl ())))) 0) fun o0=>Sum.elim (fun r0=>some (-1)) (fun rv=>some rv) o0
noncomputable def mX (x0_:List aM) (x1_:aM):Option (List aM) :=
Option.bind (α:=((List aM))) ((aY ([]:List aM) x0_).bind fun x0 =>
(aY x0 ([x1_])).bind fun x1 =>
some x1) fun r0=>Option.bind (α:=((List aM))) (aU (fun (s0:(List aM)×Int)=>if 0<s0.2 then ((aD s0.1 s0.2).bind fun x2 =>
(aD s0.1 (IntKind.i64.wrap (s0.2-1))).bind fun x3 =>
if (aZ x2.1 x3.1)=true then ((aD s0.1 s0.2).bind fun x4 =>
(aD s0.1 (IntKind.i64.wrap (s0.2-1))).bind fun x5 =>
(aD s0.1 s0.2).bind fun x6 =>
(aD ((s0.1).set (s0.2:Int).toNat x5) (IntKind.i64.wrap (s0.2-1))).bind fun x7 =>
some (.inl (((s0.1).set (s0.2:Int).toNat x5).set (IntKind.i64.wrap (s0.2-1):Int).toNat x4,IntKind.i64.wrap (s0.2-1))))
 else (some (.inr s0.1)))
 else (some (.inr s0.1))) (r0,IntKind.i64.wrap (((r0).length:Int)-1))) fun r1=>some r1
noncomputable def iJ (x0_:List aT):Option (List aM) :=
Option.bind (α:=((List aM))) (aU (fun (s0:(List aM)×Int)=>if s0.2<((x0_).length:Int) then (Option.bind (α:=((List aM))) ((aD x0_ s0.2).bind fun x0 =>
if x0.2.1=true then ((aY ([110]) x0.1).bind fun x1 =>
(u8O 100).bind fun x2 =>
(mX s0.1 (x1,[x2])).bind fun x3 =>
some x3)
 else ((aY ([110]) x0.1).bind fun x4 =>
(pT .i64 ((x0.2.2).length:Int) 256).bind fun x5 =>
(qE ((x0.2.2).length:Int) 256).bind fun x6 =>
(u8O 102).bind fun x7 =>
(u8O (IntKind.u8.wrap (x5))).bind fun x8 =>
(u8O (IntKind.u8.wrap (x6))).bind fun x9 =>
(mX s0.1 (x4,[x7,x8,x9])).bind fun x10 =>
Option.bind (α:=((List aM))) (aU (fun (s1:(List aM)×Int)=>if (IntKind.i64.wrap (64*s1.2))<((x0.2.2).length:Int) then (Option.bind (α:=((List aM))) (Option.bind (α:=(Int)) (if ((x0.2.2).length:Int)<(IntKind.i64.wrap ((IntKind.i64.wrap (64*s1.2))+64)) then (some ((x0.2.2).length:Int))
 else (some (IntKind.i64.wrap ((IntKind.i64.wrap (64*s1.2))+64)))) fun r0=>Option.bind (α:=((List aM))) ((aY ([99]) x0.1).bind fun x11 =>
(bN x0.2.2 (IntKind.i64.wrap (64*s1.2)) r0).bind fun x12 =>
(u8O 0).bind fun x13 =>
(u8O (IntKind.u8.wrap (s1.2))).bind fun x14 =>
(aY x11 ([x13,x14])).bind fun x15 =>
(mX s1.1 (x15,x12)).bind fun x16 =>
some x16) fun r1=>some r1) fun r2=>some (.inl (r2,IntKind.i64.wrap (s1.2+1))))
 else (some (.inr s1.1))) (x10,0)) fun r3=>some r3)) fun r4=>some (.inl (r4,IntKind.i64.wrap (s0.2+1))))
 else (some (.inr s0.1))) (([]:List aM),0)) fun r5=>some r5
noncomputable def kZ (x0_:List aT) (x1_:List UInt8):Option (Int×Int) :=
(lG x1_).bind fun x0 =>
if (!x0.2)=true then (some (-1,90))
 else (Option.bind (α:=(Unit) ⊕ (Int×Int)) (aU (fun (s0:Int)=>if s0<((x0.1).length:Int) then ((bN x0.1 0 s0).bind fun x1 =>
(nU x1).bind fun x2 =>
(lK x0_ x2).bind fun x3 =>
if x3<0 then (some (.inr (.inr (-1,91))))
 else ((aD x0_ x3).bind fun x4 =>
if (!x4.2.1)=true then (some (.inr (.inr (-1,93))))
 else (some (.inl (IntKind.i64.wrap (s0+1))))))
 else (some (.inr (.inl ())))) 0) fun o0=>Sum.elim (fun r0=>(lK x0_ x1_).bind fun x5 =>
if x5<0 then (some (-1,91))
 else (some (x5,0))) (fun rv=>some rv) o0)
noncomputable def pB (x0_:List aT) (x1_:List UInt8):Option Int :=
(iZ x1_).bind fun x0 =>
if (!x0)=true then (some 90)
 else (if x1_=([47]) then (some 92)
 else ((mI x1_).bind fun x1 =>
(kZ x0_ x1).bind fun x2 =>
if x2.2=0 then ((aD x0_ x2.1).bind fun x3 =>
if (!x3.2.1)=true then (some 93)
 else ((lK x0_ x1_).bind fun x4 =>
if 0<=x4 then (some 92)
 else (some 0)))
 else (some x2.2)))
noncomputable def sC (x0_:List aT) (x1_:List UInt8):Option (List (List UInt8)) :=
Option.bind (α:=((List (List UInt8)))) (aU (fun (s0:(List (List UInt8))×Int)=>if s0.2<((x0_).length:Int) then (Option.bind (α:=((List (List UInt8)))) ((aD x0_ s0.2).bind fun x0 =>
if x0.1=([47]) then (some s0.1)
 else ((mI x0.1).bind fun x1 =>
if x1=x1_ then ((pV x0.1).bind fun x2 =>
(aY s0.1 ([x2])).bind fun x3 =>
Option.bind (α:=((List (List UInt8)))) (aU (fun (s1:(List (List UInt8))×Int)=>if 0<s1.2 then ((aD s1.1 s1.2).bind fun x4 =>
(aD s1.1 (IntKind.i64.wrap (s1.2-1))).bind fun x5 =>
if (aZ x4 x5)=true then ((aD s1.1 s1.2).bind fun x6 =>
(aD s1.1 (IntKind.i64.wrap (s1.2-1))).bind fun x7 =>
(aD s1.1 s1.2).bind fun x8 =>
(aD ((s1.1).set (s1.2:Int).toNat x7) (IntKind.i64.wrap (s1.2-1))).bind fun x9 =>
some (.inl (((s1.1).set (s1.2:Int).toNat x7).set (IntKind.i64.wrap (s1.2-1):Int).toNat x6,IntKind.i64.wrap (s1.2-1))))
 else (some (.inr s1.1)))
 else (some (.inr s1.1))) (x3,IntKind.i64.wrap (((x3).length:Int)-1))) fun r0=>some r0)
 else (some s0.1))) fun r1=>some (.inl (r1,IntKind.i64.wrap (s0.2+1))))
 else (some (.inr s0.1))) (([]:List (List UInt8)),0)) fun r2=>some r2
noncomputable def lT (x0_:List UInt8) (x1_:Int):Option (List UInt8) :=
Option.bind (α:=((List UInt8))) (aU (fun (s0:(List UInt8)×Int)=>if s0.2<x1_ then (Option.bind (α:=((List UInt8))) (Option.bind (α:=((List UInt8))) (if s0.2<((x0_).length:Int) then ((aD x0_ s0.2).bind fun x0 =>
(u8O ((x0).toNat:Int)).bind fun x1 =>
(aY s0.1 ([x1])).bind fun x2 =>
some x2)
 else ((u8O 0).bind fun x3 =>
(aY s0.1 ([x3])).bind fun x4 =>
some x4)) fun r0=>some r0) fun r1=>some (.inl (r1,IntKind.i64.wrap (s0.2+1))))
 else (some (.inr s0.1))) (([]:List UInt8),0)) fun r2=>some r2
noncomputable def eO (x0_:List aT) (x1_:Int):Option ((List aT)×bM) :=
some (x0_,(x1_,0,([]:List UInt8),([]:List (List UInt8))))
noncomputable def kC (list:List aT) (oq:cK):Option ((List aT)×bM) :=
(kZ list oq.2.1).bind fun x0 =>
if x0.2=0 then ((aD list x0.1).bind fun x1 =>
if x1.2.1=true then ((eO list 94).bind fun x2 =>
some (x2.1,x2.2))
 else (Option.bind (α:=(Bool)) (if oq.1=4 then (if oq.1=3 then (some false)
 else (some (decide (oq.2.2.2.2.1<0))))
 else (if oq.2.2.2.1<0 then (some true)
 else (if oq.1=3 then (some false)
 else (some (decide (oq.2.2.2.2.1<0)))))) fun r0=>if r0=true then ((eO list 1).bind fun x3 =>
some (x3.1,x3.2))
 else (Option.bind (α:=((Int×(List UInt8))×(List UInt8)) ⊕ ((List aT)×bM)) (Option.bind (α:=((Int×(List UInt8))×(List UInt8)) ⊕ ((List aT)×bM)) (if oq.1=5 then (Option.bind (α:=((List UInt8))) (aU (fun (s0:(List UInt8)×Int)=>if s0.2<((x1.2.2).length:Int) then (Option.bind (α:=((List UInt8))) (Option.bind (α:=(Bool)) (if oq.2.2.2.1<=s0.2 then (if (IntKind.i64.wrap (s0.2-oq.2.2.2.1))<oq.2.2.2.2.1 then (some (decide ((IntKind.i64.wrap (s0.2-oq.2.2.2.1))<64)))
 else (some false))
 else (some false)) fun r1=>Option.bind (α:=((List UInt8))) (if r1=true then ((aD x1.2.2 s0.2).bind fun x4 =>
(u8O ((x4).toNat:Int)).bind fun x5 =>
(aY s0.1 ([x5])).bind fun x6 =>
some x6)
 else (some s0.1)) fun r2=>some r2) fun r3=>some (.inl (r3,IntKind.i64.wrap (s0.2+1))))
 else (some (.inr s0.1))) (([]:List UInt8),0)) fun r4=>some (.inl ((((x1.2.2).length:Int),r4),x1.2.2)))
 else (Option.bind (α:=(Int×(List UInt8)) ⊕ ((List aT)×bM)) (if oq.1=4 then (if 192<oq.2.2.2.2.1 then ((eO list 97).bind fun x7 =>
some (.inr (x7.1,x7.2)))
 else ((lT x1.2.2 oq.2.2.2.2.1).bind fun x8 =>
some (.inl (0,x8))))
 else (if 192<oq.2.2.2.1 then ((eO list 97).bind fun x9 =>
some (.inr (x9.1,x9.2)))
 else (if 192<(IntKind.i64.wrap (oq.2.2.2.1+((oq.2.2.2.2.2).length:Int))) then ((eO list 97).bind fun x10 =>
some (.inr (x10.1,x10.2)))
 else (Option.bind (α:=((List UInt8))) (aU (fun (s1:(List UInt8)×Int)=>if s1.2<((oq.2.2.2.2.2).length:Int) then (Option.bind (α:=((List UInt8))) (Option.bind (α:=((List UInt8))) (if ((s1.1).length:Int)<=(IntKind.i64.wrap (oq.2.2.2.1+s1.2)) then ((lT s1.1 (IntKind.i64.wrap ((IntKind.i64.wrap (oq.2.2.2.1+s1.2))+1))).bind fun x11 =>
some x11)
 else (some s1.1)) fun r5=>Option.bind (α:=((List UInt8))) ((bN r5 0 (IntKind.i64.wrap (oq.2.2.2.1+s1.2))).bind fun x12 =>
(aD oq.2.2.2.2.2 s1.2).bind fun x13 =>
(bN r5 (IntKind.i64.wrap ((IntKind.i64.wrap (oq.2.2.2.1+s1.2))+1)) ((r5).length:Int)).bind fun x14 =>
(aY ([]:List UInt8) x12).bind fun x15 =>
(u8O ((x13).toNat:Int)).bind fun x16 =>
(aY x15 ([x16])).bind fun x17 =>
(aY x17 x14).bind fun x18 =>
some x18) fun r6=>some r6) fun r7=>some (.inl (r7,IntKind.i64.wrap (s1.2+1))))
 else (some (.inr s1.1))) (x1.2.2,0)) fun r8=>some (.inl (((oq.2.2.2.2.2).length:Int),r8)))))) fun o0=>Sum.elim (fun r9=>some (.inl ((r9.1,([]:List UInt8)),r9.2))) (fun rv=>some (.inr rv)) o0)) fun o1=>Sum.elim (fun r10=>some (.inl ((r10.1.1,r10.1.2),r10.2))) (fun rv=>some (.inr rv)) o1) fun o2=>Sum.elim (fun r11=>(aY ([]:List aT) list).bind fun x19 =>
(aD x19 x0.1).bind fun x20 =>
some ((x19).set (x0.1:Int).toNat (x1.1,false,r11.2),(0,r11.1.1,r11.1.2,([]:List (List UInt8))))) (fun rv=>some rv) o2)))
 else ((eO list x0.2).bind fun x21 =>
some (x21.1,x21.2))
noncomputable def rO (x0_:List aT) (x1_:cK):Option ((List aT)×bM) :=
(iZ x1_.2.1).bind fun x0 =>
if (!x0)=true then ((eO x0_ 90).bind fun x1 =>
some (x1.1,x1.2))
 else ((iZ x1_.2.2.1).bind fun x2 =>
if (!x2)=true then ((eO x0_ 90).bind fun x3 =>
some (x3.1,x3.2))
 else ((kZ x0_ x1_.2.1).bind fun x4 =>
if x4.2=0 then (if x1_.2.1=([47]) then ((eO x0_ 96).bind fun x5 =>
some (x5.1,x5.2))
 else ((pG x1_.2.1 x1_.2.2.1).bind fun x6 =>
if x6=true then ((eO x0_ 96).bind fun x7 =>
some (x7.1,x7.2))
 else ((pB x0_ x1_.2.2.1).bind fun x8 =>
if x8=0 then (Option.bind (α:=((List aT)) ⊕ ((List aT)×bM)) (aU (fun (s0:(List aT)×Int)=>if s0.2<((x0_).length:Int) then (Option.bind (α:=((List aT)) ⊕ ((List aT)×bM)) ((aD x0_ s0.2).bind fun x9 =>
(pG x1_.2.1 x9.1).bind fun x10 =>
Option.bind (α:=((List UInt8)) ⊕ ((List aT)×bM)) (if x10=true then ((bN x9.1 ((x1_.2.1).length:Int) ((x9.1).length:Int)).bind fun x11 =>
(aY x1_.2.2.1 x11).bind fun x12 =>
if 24<((x12).length:Int) then ((eO x0_ 90).bind fun x13 =>
some (.inr (x13.1,x13.2)))
 else (some (.inl x12)))
 else (some (.inl x9.1))) fun o0=>Sum.elim (fun r0=>(aY s0.1 ([(r0,x9.2.1,x9.2.2)])).bind fun x14 =>
some (.inl x14)) (fun rv=>some (.inr rv)) o0) fun o1=>Sum.elim (fun r1=>some (.inl (r1,IntKind.i64.wrap (s0.2+1)))) (fun rv=>some (.inr (.inr rv))) o1)
 else (some (.inr (.inl s0.1)))) (([]:List aT),0)) fun o2=>Sum.elim (fun r2=>some (r2,(0,0,([]:List UInt8),([]:List (List UInt8))))) (fun rv=>some rv) o2)
 else ((eO x0_ x8).bind fun x15 =>
some (x15.1,x15.2)))))
 else ((eO x0_ x4.2).bind fun x16 =>
some (x16.1,x16.2))))
noncomputable def oW (x0_:List aT) (x1_:cK):Option ((List aT)×bM) :=
Option.bind (α:=(Unit) ⊕ ((List aT)×bM)) (Option.bind (α:=(Bool)) (if x1_.1=1 then (some (decide (x1_.1=1)))
 else (some (decide (x1_.1=2)))) fun r0=>Option.bind (α:=(Unit) ⊕ ((List aT)×bM)) (if r0=true then ((pB x0_ x1_.2.1).bind fun x0 =>
if x0=0 then (Option.bind (α:=((List aT))) ((aY ([]:List aT) x0_).bind fun x1 =>
(aY x1 ([(x1_.2.1,decide (x1_.1=2),([]:List UInt8))])).bind fun x2 =>
some x2) fun r1=>some (.inr (r1,(0,0,([]:List UInt8),([]:List (List UInt8))))))
 else ((eO x0_ x0).bind fun x3 =>
some (.inr (x3.1,x3.2))))
 else (Option.bind (α:=(Bool)) (if x1_.1=3 then (some (decide (x1_.1=3)))
 else (Option.bind (α:=(Bool)) (if x1_.1=4 then (some (decide (x1_.1=4)))
 else (some (decide (x1_.1=5)))) fun r2=>some r2)) fun r3=>Option.bind (α:=(Unit) ⊕ ((List aT)×bM)) (if r3=true then ((kC x0_ (x1_.1,x1_.2.1,x1_.2.2.1,x1_.2.2.2.1,x1_.2.2.2.2.1,x1_.2.2.2.2.2)).bind fun x4 =>
some (.inr (x4.1,x4.2)))
 else (Option.bind (α:=(Unit) ⊕ ((List aT)×bM)) (if x1_.1=6 then ((rO x0_ (x1_.1,x1_.2.1,x1_.2.2.1,x1_.2.2.2.1,x1_.2.2.2.2.1,x1_.2.2.2.2.2)).bind fun x5 =>
some (.inr (x5.1,x5.2)))
 else (Option.bind (α:=(Bool)) (if x1_.1=7 then (some (decide (x1_.1=7)))
 else (Option.bind (α:=(Bool)) (if x1_.1=8 then (some (decide (x1_.1=8)))
 else (some (decide (x1_.1=9)))) fun r4=>some r4)) fun r5=>if r5=true then (some (.inl ()))
 else ((eO x0_ 1).bind fun x6 =>
some (.inr (x6.1,x6.2))))) fun o0=>Sum.elim (fun r6=>some (.inl ())) (fun rv=>some (.inr rv)) o0)) fun o1=>Sum.elim (fun r7=>some (.inl ())) (fun rv=>some (.inr rv)) o1)) fun o2=>Sum.elim (fun r8=>some (.inl ())) (fun rv=>some (.inr rv)) o2) fun o3=>Sum.elim (fun r9=>(kZ x0_ x1_.2.1).bind fun x7 =>
if x7.2=0 then (Option.bind (α:=(aT×(List (List UInt8)))) ((aD x0_ x7.1).bind fun x8 =>
(sC x0_ x1_.2.1).bind fun x9 =>
some (x8,x9)) fun r10=>if x1_.1=9 then (if r10.1.2.1=true then ((u8O 100).bind fun x10 =>
some (x0_,(0,((r10.2).length:Int),[x10],([]:List (List UInt8)))))
 else ((u8O 102).bind fun x11 =>
some (x0_,(0,((r10.1.2.2).length:Int),[x11],([]:List (List UInt8))))))
 else (if x1_.1=8 then (if (!r10.1.2.1)=true then ((eO x0_ 93).bind fun x12 =>
some (x12.1,x12.2))
 else (Option.bind (α:=((List (List UInt8)))) (aU (fun (s0:(List (List UInt8))×Int)=>if s0.2<((r10.2).length:Int) then (Option.bind (α:=((List (List UInt8)))) ((aD r10.2 s0.2).bind fun x13 =>
if (gV x13 x1_.2.2.1)=true then (Option.bind (α:=((List (List UInt8)))) (if ((s0.1).length:Int)<6 then ((aD r10.2 s0.2).bind fun x14 =>
(aY s0.1 ([x14])).bind fun x15 =>
some x15)
 else (some s0.1)) fun r11=>some r11)
 else (some s0.1)) fun r12=>some (.inl (r12,IntKind.i64.wrap (s0.2+1))))
 else (some (.inr s0.1))) (([]:List (List UInt8)),0)) fun r13=>some (x0_,(0,((r10.2).length:Int),([]:List UInt8),r13))))
 else (if x1_.2.1=([47]) then ((eO x0_ 96).bind fun x16 =>
some (x16.1,x16.2))
 else (if 0<((r10.2).length:Int) then ((eO x0_ 95).bind fun x17 =>
some (x17.1,x17.2))
 else ((bN x0_ 0 x7.1).bind fun x18 =>
(bN x0_ (IntKind.i64.wrap (x7.1+1)) ((x0_).length:Int)).bind fun x19 =>
(aY ([]:List aT) x18).bind fun x20 =>
(aY x20 x19).bind fun x21 =>
some (x21,(0,0,([]:List UInt8),([]:List (List UInt8)))))))))
 else ((eO x0_ x7.2).bind fun x22 =>
some (x22.1,x22.2))) (fun rv=>some rv) o3
noncomputable def kO (s:dJ):Option Int :=
(iJ s.1).bind fun x0 =>
Option.bind (α:=(Int)) (aU (fun (s0:Int×Int)=>if s0.2<((s.2).length:Int) then ((aD s.2 s0.2).bind fun x1 =>
(iJ x1.2.2).bind fun x2 =>
some (.inl (IntKind.i64.wrap (s0.1+(IntKind.i64.wrap (1+((x2).length:Int)))),IntKind.i64.wrap (s0.2+1))))
 else (some (.inr s0.1))) (((x0).length:Int),0)) fun r0=>some r0
noncomputable def rR (s:dJ):Option cQ :=
(iJ s.1).bind fun x0 =>
Option.bind (α:=(dA)) (aU (fun (s0:dA×Int)=>if s0.2<((s.2).length:Int) then ((aD s.2 s0.2).bind fun x1 =>
(iJ x1.2.2).bind fun x2 =>
(aY s0.1.2 ([(x1.1,x1.2.1,x2)])).bind fun x3 =>
some (.inl ((s0.1.1,x3),IntKind.i64.wrap (s0.2+1))))
 else (some (.inr s0.1))) ((x0,([]:List cE)),0)) fun r0=>some (r0.1,r0.2)
noncomputable def kY (s:dJ) (name:List UInt8):Option Int :=
Option.bind (α:=(dJ) ⊕ Int) (aU (fun (s0:dJ×Int)=>if s0.2<((s0.1.2).length:Int) then ((aD s0.1.2 s0.2).bind fun x0 =>
if x0.1=name then (some (.inr (.inr s0.2)))
 else (some (.inl ((s0.1.1,s0.1.2),IntKind.i64.wrap (s0.2+1)))))
 else (some (.inr (.inl (s0.1.1,s0.1.2))))) (s,0)) fun o0=>Sum.elim (fun r0=>some (-1)) (fun rv=>some rv) o0
noncomputable def pD (s:dJ) (oq:cK) (gen:Int):Option (dJ×Int) :=
(kW oq.2.1).bind fun x0 =>
if (!x0)=true then (some (s,90))
 else ((kY s oq.2.1).bind fun x1 =>
Option.bind (α:=(dJ×jB)) ((aY ([]:List fQ) s.2).bind fun x2 =>
some ((s.1,s.2),(s.1,x2))) fun r0=>if oq.1=10 then (if 0<=x1 then (some (r0.1,92))
 else ((aY r0.2.2 ([(oq.2.1,gen,r0.1.1)])).bind fun x3 =>
Option.bind (α:=(jB)) (aU (fun (s0:jB×Int)=>if 0<s0.2 then ((aD s0.1.2 s0.2).bind fun x4 =>
(aD s0.1.2 (IntKind.i64.wrap (s0.2-1))).bind fun x5 =>
if (aZ x4.1 x5.1)=true then ((aD s0.1.2 s0.2).bind fun x6 =>
(aD s0.1.2 (IntKind.i64.wrap (s0.2-1))).bind fun x7 =>
(aD s0.1.2 s0.2).bind fun x8 =>
(aD ((s0.1.2).set (s0.2:Int).toNat x7) (IntKind.i64.wrap (s0.2-1))).bind fun x9 =>
some (.inl ((s0.1.1,((s0.1.2).set (s0.2:Int).toNat x7).set (IntKind.i64.wrap (s0.2-1):Int).toNat x6),IntKind.i64.wrap (s0.2-1))))
 else (some (.inr s0.1)))
 else (some (.inr s0.1))) ((r0.2.1,x3),IntKind.i64.wrap (((x3).length:Int)-1))) fun r1=>some ((r1.1,r1.2),0)))
 else (if x1<0 then (some (r0.1,91))
 else (if oq.1=12 then ((aD r0.1.2 x1).bind fun x10 =>
some ((x10.2.2,r0.2.2),0))
 else ((bN r0.1.2 0 x1).bind fun x11 =>
(bN r0.1.2 (IntKind.i64.wrap (x1+1)) ((r0.1.2).length:Int)).bind fun x12 =>
(aY ([]:List fQ) x11).bind fun x13 =>
(aY x13 x12).bind fun x14 =>
some ((r0.2.1,x14),0)))))
noncomputable def jU (s:dJ) (oq:cK) (gen:Int):Option (dJ×bM) :=
Option.bind (α:=(bM×dJ×dJ)) (Option.bind (α:=(Bool)) (if oq.1=10 then (some (decide (oq.1=10)))
 else (Option.bind (α:=(Bool)) (if oq.1=11 then (some (decide (oq.1=11)))
 else (some (decide (oq.1=12)))) fun r0=>some r0)) fun r1=>Option.bind (α:=(bM×dJ×dJ)) (if r1=true then ((pD s (oq.1,oq.2.1,oq.2.2.1,oq.2.2.2.1,oq.2.2.2.2.1,oq.2.2.2.2.2) gen).bind fun x0 =>
some ((x0.2,0,([]:List UInt8),([]:List (List UInt8))),x0.1,s))
 else (Option.bind (α:=(bM×dJ×dJ)) (if oq.1=13 then (Option.bind (α:=((List (List UInt8)))) (aU (fun (s0:(List (List UInt8))×Int)=>if s0.2<((s.2).length:Int) then (Option.bind (α:=((List (List UInt8)))) ((aD s.2 s0.2).bind fun x1 =>
if (gV x1.1 oq.2.2.1)=true then (Option.bind (α:=((List (List UInt8)))) (if ((s0.1).length:Int)<6 then ((aD s.2 s0.2).bind fun x2 =>
(aY s0.1 ([x2.1])).bind fun x3 =>
some x3)
 else (some s0.1)) fun r2=>some r2)
 else (some s0.1)) fun r3=>some (.inl (r3,IntKind.i64.wrap (s0.2+1))))
 else (some (.inr s0.1))) (([]:List (List UInt8)),0)) fun r4=>some ((0,((s.2).length:Int),([]:List UInt8),r4),(s.1,s.2),(s.1,s.2)))
 else ((oW s.1 (oq.1,oq.2.1,oq.2.2.1,oq.2.2.2.1,oq.2.2.2.2.1,oq.2.2.2.2.2)).bind fun x4 =>
some (x4.2,(x4.1,s.2),(s.1,s.2)))) fun r5=>some (r5.1,r5.2.1,r5.2.2))) fun r6=>some (r6.1,r6.2.1,r6.2.2)) fun r7=>if r7.1.1=0 then ((kO r7.2.1).bind fun x5 =>
if 48<x5 then (some (r7.2.2,(98,0,([]:List UInt8),([]:List (List UInt8)))))
 else (if r7.1.1=0 then (some (r7.2.1,(r7.1.1,r7.1.2.1,r7.1.2.2.1,r7.1.2.2.2)))
 else (some (r7.2.2,(r7.1.1,0,([]:List UInt8),([]:List (List UInt8)))))))
 else (if r7.1.1=0 then (some (r7.2.1,(r7.1.1,r7.1.2.1,r7.1.2.2.1,r7.1.2.2.2)))
 else (some (r7.2.2,(r7.1.1,0,([]:List UInt8),([]:List (List UInt8))))))
noncomputable def jT (list:List aT) (p:List UInt8):Option Int :=
Option.bind (α:=(Unit) ⊕ Int) (aU (fun (s0:Int)=>if s0<((list).length:Int) then ((aD list s0).bind fun x0 =>
if x0.1=p then (some (.inr (.inr s0)))
 else (some (.inl (IntKind.i64.wrap (s0+1)))))
 else (some (.inr (.inl ())))) 0) fun o0=>Sum.elim (fun r0=>some (-1)) (fun rv=>some rv) o0
noncomputable def sY (oq:cK):Option cK :=
(aY ([]:List UInt8) oq.2.2.2.2.2).bind fun x0 =>
some (oq.1,oq.2.1,oq.2.2.1,oq.2.2.2.1,oq.2.2.2.2.1,x0)
noncomputable def sA (a_:cK) (b_:cK):Option Bool :=
if a_.1=b_.1 then (if a_.2.1=b_.2.1 then (if a_.2.2.1=b_.2.2.1 then (if a_.2.2.2.1=b_.2.2.2.1 then (if a_.2.2.2.2.1=b_.2.2.2.2.1 then (some (decide (a_.2.2.2.2.2=b_.2.2.2.2.2)))
 else (some false))
 else (some false))
 else (some false))
 else (some false))
 else (some false)
noncomputable def pP (list:List aM):Option Bool :=
Option.bind (α:=(Unit) ⊕ Bool) (aU (fun (s0:Int)=>if s0<((list).length:Int) then ((aD list (IntKind.i64.wrap (s0-1))).bind fun x0 =>
(aD list s0).bind fun x1 =>
if (rN x0.1 x1.1)=true then (some (.inr (.inr false)))
 else (some (.inl (IntKind.i64.wrap (s0+1)))))
 else (some (.inr (.inl ())))) 1) fun o0=>Sum.elim (fun r0=>some true) (fun rv=>some rv) o0
noncomputable def kJ (pairs:List aM):Option ((List aT)×Bool) :=
Option.bind (α:=((List aT))) (aU (fun (s0:(List aT)×Int)=>if s0.2<((pairs).length:Int) then (Option.bind (α:=((List aT))) ((aD pairs s0.2).bind fun x0 =>
(aD pairs s0.2).bind fun x1 =>
if ((x0.1).length:Int)<1 then (some s0.1)
 else ((aD x0.1 0).bind fun x2 =>
if ((x2).toNat:Int)=110 then (if ((x1.2).length:Int)<1 then (some s0.1)
 else ((bN x0.1 1 ((x0.1).length:Int)).bind fun x3 =>
(aY s0.1 ([(x3,decide (x1.2=([100])),([]:List UInt8))])).bind fun x4 =>
some x4))
 else (some s0.1))) fun r0=>some (.inl (r0,IntKind.i64.wrap (s0.2+1))))
 else (some (.inr s0.1))) (([]:List aT),0)) fun r1=>Option.bind (α:=((List aT)) ⊕ ((List aT)×Bool)) (aU (fun (s1:(List aT)×Int)=>if s1.2<((pairs).length:Int) then (Option.bind (α:=((List aT)) ⊕ ((List aT)×Bool)) ((aD pairs s1.2).bind fun x5 =>
if ((x5.1).length:Int)<3 then (some (.inl s1.1))
 else ((aD x5.1 0).bind fun x6 =>
if ((x6).toNat:Int)=99 then ((bN x5.1 1 (IntKind.i64.wrap (((x5.1).length:Int)-2))).bind fun x7 =>
(jT s1.1 x7).bind fun x8 =>
if x8<0 then (some (.inr (s1.1,false)))
 else ((aD s1.1 x8).bind fun x9 =>
if x9.2.1=true then (some (.inr (s1.1,false)))
 else ((aD s1.1 x8).bind fun x10 =>
(aD pairs s1.2).bind fun x11 =>
(aY ([]:List UInt8) x10.2.2).bind fun x12 =>
(aY x12 x11.2).bind fun x13 =>
(aD s1.1 x8).bind fun x14 =>
some (.inl ((s1.1).set (x8:Int).toNat (x14.1,x14.2.1,x13))))))
 else (some (.inl s1.1)))) fun o0=>Sum.elim (fun r2=>some (.inl (r2,IntKind.i64.wrap (s1.2+1)))) (fun rv=>some (.inr (.inr rv))) o0)
 else (some (.inr (.inl s1.1)))) (r1,0)) fun o1=>Sum.elim (fun r3=>Option.bind (α:=(Unit) ⊕ ((List aT)×Bool)) (aU (fun (s2:Int)=>if s2<((r3).length:Int) then (Option.bind (α:=(Unit) ⊕ ((List aT)×Bool)) ((aD r3 s2).bind fun x15 =>
(iZ x15.1).bind fun x16 =>
if (!x16)=true then (some (.inr (r3,false)))
 else (if 192<((x15.2.2).length:Int) then (some (.inr (r3,false)))
 else (if x15.1=([47]) then (if (!x15.2.1)=true then (some (.inr (r3,false)))
 else (some (.inl ())))
 else ((mI x15.1).bind fun x17 =>
(jT r3 x17).bind fun x18 =>
if x18<0 then (some (.inr (r3,false)))
 else ((aD r3 x18).bind fun x19 =>
if (!x19.2.1)=true then (some (.inr (r3,false)))
 else (some (.inl ()))))))) fun o2=>Sum.elim (fun r4=>some (.inl (IntKind.i64.wrap (s2+1)))) (fun rv=>some (.inr (.inr rv))) o2)
 else (some (.inr (.inl ())))) 0) fun o3=>Sum.elim (fun r5=>(jT r3 ([47])).bind fun x20 =>
if 0<=x20 then ((pP pairs).bind fun x21 =>
if x21=true then ((iJ r3).bind fun x22 =>
(lX x22 pairs).bind fun x23 =>
some (r3,x23))
 else (some (r3,false)))
 else (some (r3,false))) (fun rv=>some rv) o3) (fun rv=>some rv) o1
noncomputable def qP (s:cQ):Option (dJ×Bool) :=
(kJ s.1).bind fun x0 =>
Option.bind (α:=(jB×Bool)) (aU (fun (s0:jB×Bool×Int)=>if s0.2.2<((s.2).length:Int) then ((aD s.2 s0.2.2).bind fun x1 =>
(kJ x1.2.2).bind fun x2 =>
if s0.2.1=true then (if x2.2=true then ((kW x1.1).bind fun x3 =>
if x3=true then (if s0.2.2=0 then ((aY s0.1.2 ([(x1.1,x1.2.1,x2.1)])).bind fun x4 =>
some (.inl ((s0.1.1,x4),true,IntKind.i64.wrap (s0.2.2+1))))
 else ((aD s.2 (IntKind.i64.wrap (s0.2.2-1))).bind fun x5 =>
(aY s0.1.2 ([(x1.1,x1.2.1,x2.1)])).bind fun x6 =>
some (.inl ((s0.1.1,x6),aZ x5.1 x1.1,IntKind.i64.wrap (s0.2.2+1)))))
 else ((aY s0.1.2 ([(x1.1,x1.2.1,x2.1)])).bind fun x7 =>
some (.inl ((s0.1.1,x7),false,IntKind.i64.wrap (s0.2.2+1)))))
 else ((aY s0.1.2 ([(x1.1,x1.2.1,x2.1)])).bind fun x8 =>
some (.inl ((s0.1.1,x8),false,IntKind.i64.wrap (s0.2.2+1)))))
 else ((aY s0.1.2 ([(x1.1,x1.2.1,x2.1)])).bind fun x9 =>
some (.inl ((s0.1.1,x9),false,IntKind.i64.wrap (s0.2.2+1)))))
 else (some (.inr (s0.1,s0.2.1)))) ((x0.1,([]:List fQ)),x0.2,0)) fun r0=>if r0.2=true then ((kO (r0.1.1,r0.1.2)).bind fun x10 =>
some ((r0.1.1,r0.1.2),decide (x10<=48)))
 else (some ((r0.1.1,r0.1.2),false))
noncomputable def pZ (s:cQ):Option cQ :=
(mA s.1).bind fun x0 =>
Option.bind (α:=(dA)) (aU (fun (s0:dA×Int)=>if s0.2<((s.2).length:Int) then ((aD s.2 s0.2).bind fun x1 =>
(mA x1.2.2).bind fun x2 =>
(aY s0.1.2 ([(x1.1,x1.2.1,x2)])).bind fun x3 =>
some (.inl ((s0.1.1,x3),IntKind.i64.wrap (s0.2+1))))
 else (some (.inr s0.1))) ((x0,([]:List cE)),0)) fun r0=>some (r0.1,r0.2)
noncomputable def vH (s:cQ) (oq:cK) (gen:Int):Option Bool :=
(sT).bind fun x0 =>
if (!x0)=true then (some false)
 else ((lC s).bind fun x1 =>
if x1=true then (some true)
 else ((pK oq).bind fun x2 =>
if x2=true then (some true)
 else (Option.bind (α:=(cQ×cK)) ((pZ s).bind fun x3 =>
(sY oq).bind fun x4 =>
some (x3,x4)) fun r0=>(qP s).bind fun x5 =>
Option.bind (α:=(Int)) (aU (fun (s0:Int×Int)=>if s0.2<((s.2).length:Int) then ((aD s.2 s0.2).bind fun x6 =>
some (.inl (IntKind.i64.wrap (s0.1+(IntKind.i64.wrap (1+((x6.2.2).length:Int)))),IntKind.i64.wrap (s0.2+1))))
 else (some (.inr s0.1))) (((s.1).length:Int),0)) fun r1=>(nDo r0.1 r0.2 gen).bind fun x7 =>
(mY r0.1).bind fun x8 =>
if (decide (x8=0))=(x5.2) then ((iQ r0.1).bind fun x9 =>
if x9=r1 then (if (!x5.2)=true then ((mY r0.1).bind fun x10 =>
some (decide (x10=22)))
 else ((jU x5.1 oq gen).bind fun x11 =>
(rZ x7.2 x11.2).bind fun x12 =>
if x12=true then ((rR x11.1).bind fun x13 =>
(mS x7.1 x13).bind fun x14 =>
if x14=true then ((mS r0.1 (s.1,s.2)).bind fun x15 =>
if x15=true then ((sA r0.2 oq).bind fun x16 =>
some x16)
 else (some false))
 else (some false))
 else (some false)))
 else (some false))
 else (some false))))
end Go.Proofs.YtnagibpmfabkjaaGreatDoor
namespace Go.Tri
open Go.RowKit Go.ChangeShapes Go.WideShapes Go.ChangeAt Go.Deep
section
variable {α β H:Type} (enc:TypeId×Value->H) (P:Program) (w:World) (base:Nat) (spare:Nat->Bool) (held:Bool)
def lW (R:Rp α) (e:TypeId) (p:α->Prop):Prop:=∀ (fuel:Nat) (cs:List Value) (x:DataW H×List MemPlace),DataW.trod enc P w base spare held fuel e cs=some x->(x.1.weights P e).all (·<=reachBytes)=true->∃ y,R.rd (gJ w) cs y/\p y
end
section
variable {α β H:Type} {enc:TypeId×Value->H} {P:Program} {w:World} {base:Nat} {spare:Nat->Bool} {held:Bool} {R:Rp α} {Q:Rp β} {e t:TypeId} {p:α->Prop} {q:β->Prop}
theorem iE (h:Opn enc P w base spare held R e):lW enc P w base spare held R e (fun _=>True):=fun fuel cs x hx _=>by
 obtain ⟨y,hy⟩:=h fuel cs x hx;exact ⟨y,hy,trivial⟩
theorem aDg {ns:List Nat} (h:ns.all (·<=reachBytes)=true) {n:Nat} (hn:n∈ns):n<=reachBytes:=by simpa using List.all_eq_true.1 h n hn
theorem weightsAll_mem:∀ {ds:List (DataW H)} {d:DataW H} {n:Nat},d∈ds->n∈d.weights P e->n∈DataW.weightsAll P e ds
 | c::ds,d,n,hd,hn=>by
  unfold DataW.weightsAll;rcases List.mem_cons.1 hd with rfl | hd
  ·exact List.mem_append_left _ hn
  ·exact List.mem_append_right _ (weightsAll_mem hd hn)
theorem aMb (hO:lW enc P w base spare held R e p) (ht:P.underlying t=some (.slice e)) (hC:P.cellsOf e=R.n) (hs:0<R.n) {fuel:Nat} {cs:List Value} {x:DataW H×List MemPlace} (h:DataW.trod enc P w base spare held fuel t cs=some x) (hw:(x.1.weights P t).all (·<=reachBytes)=true) :
  ∃ a xs cap,cs=[.slice a xs.length cap]/\(∀ (w':World) (S:Nat->Prop),(HP.sl R a cap xs).pr (gJ w) w' S)/\(∀ x∈xs,p x)/\xs.length*P.bytesOf e<=reachBytes:=by
 rcases DataW.trod_slice ht h with ⟨rfl,rfl⟩ | ⟨a,len,cap,elems,rest,n,_,rfl,rfl,hb,hl,hm,hlen,hel,_,_⟩
 ·exact ⟨none,[],0,rfl,fun _ _=>⟨[],trivial,fun w' hw=>.inl ⟨rfl,rfl,rfl⟩⟩,(fun x hx=>absurd hx (by simp)),by simp⟩
 ·simp only [DataW.weights,ht] at hw;have hw0:(elems.map (·.1)).length+(rest.map (·.1)).length=elems.length+rest.length:=by simp
  rw [hw0] at hw;have hsz:(elems.length+rest.length)*P.bytesOf e<=reachBytes:=aDg hw List.mem_cons_self;have hwe:∀ y∈elems,(y.1.weights P e).all (·<=reachBytes)=true:=fun y hy=>List.all_eq_true.2 fun k hk=>by
   have:=aDg hw (List.mem_cons_of_mem _ (List.mem_append_left _ (weightsAll_mem (List.mem_map_of_mem hy) hk)));simpa using this
  obtain ⟨css,hcl,hp⟩:=yH (p:=fun i (c:List Value)=>c.length=R.n/\(∃ y,R.rd (gJ w) c y/\p y)/\∀ j u,c[j]?=some u->w.cell? ((a.add (i*R.n)).add j)=some u) len (fun i hin=>by
   have hi:=hel i hin
   rw [List.getElem?_eq_getElem (by omega:i<elems.length)] at hi
   obtain ⟨cs',hc,ht'⟩:=Option.bind_eq_some_iff.1 hi
   obtain ⟨y,hy,hpy⟩:=hO _ _ _ ht' (hwe _ (List.getElem_mem _))
   obtain ⟨_,hcl,hat⟩:=World.cells?_some hc
   have hln:=R.len hy
   refine ⟨cs',hln,⟨y,hy,hpy⟩,fun j u hj=>?_⟩
   rw [<- hC,hat j (by rw [hC,<- hln];exact (List.getElem?_eq_some_iff.1 hj).1)];exact hj)
  obtain ⟨xs,hxl,hx⟩:=yH (p:=fun i (y:α)=>p y/\∃ c,css[i]?=some c/\R.rd (gJ w) c y) len (fun i hin=>by
   obtain ⟨c,hc⟩:∃ c,css[i]?=some c:=⟨_,List.getElem?_eq_getElem (by omega)⟩
   obtain ⟨_,⟨y,hy,hpy⟩,_⟩:=hp i c hc
   exact ⟨y,hpy,c,hc,hy⟩)
  have hrdl:RdL R (gJ w) css xs:=rdl_of (by omega) fun i c y hc hy=>by
   obtain ⟨_,c',h1,h2⟩:=hx i y hy;rw [hc] at h1;injection h1 with h1;rw [h1];exact h2
  have hsl:Sl w (.slice (some a) len cap) len css.flatten:=by
   by_cases h0:len=0
   ·obtain rfl:css=[]:=List.length_eq_zero_iff.1 (by omega);subst h0;exact .inr (.inl ⟨a,cap,rfl,rfl,rfl⟩)
   ·obtain ⟨c0,hc0⟩:∃ c,css[0]?=some c:=⟨_,List.getElem?_eq_getElem (by omega)⟩;obtain ⟨hl0,_,hq0⟩:=hp 0 c0 hc0;obtain ⟨u0,hu0⟩:∃ u,c0[0]?=some u:=⟨_,List.getElem?_eq_getElem (by omega)⟩;have hcell:=hq0 0 u0 hu0;rw [Nat.zero_mul] at hcell;obtain ⟨b,off,spot⟩:=a;have hspot:spot=none:=by simpa [Addr.add] using World.cell?_spot hcell
    subst hspot;refine .inr (.inr ⟨b,off,cap,rfl,by omega,?_⟩);have:=aBc (w:=w) (fun c:List Value=>c) (ok:=fun c=>c.length=R.n) (fun c hc=>hc) css off (b:=b) (fun c hc=>by
     obtain ⟨i,hi,rfl⟩:=List.getElem_of_mem hc
     exact (hp i _ (List.getElem?_eq_getElem hi)).1) fun i c hc=>by
     intro j u hj;have:=(hp i c hc).2.2 j u hj;rw [fU,fU] at this;exact this
    rw [List.flatMap_id'] at this;exact this
  subst hxl;refine ⟨some a,xs,cap,rfl,fun _ _=>⟨css,hrdl,fun w' hw'=>aLp hw' hsl⟩,fun y hy=>?_,Nat.le_trans (Nat.mul_le_mul_right _ (by omega)) hsz⟩;obtain ⟨i,hi,rfl⟩:=List.getElem_of_mem hy;exact (hx i _ (List.getElem?_eq_getElem hi)).1
where
 rdl_of {α:Type} {R:Rp α} {B:Base}:∀ {css:List (List Value)} {xs:List α},css.length=xs.length->(∀ i c y,css[i]?=some c->xs[i]?=some y->R.rd B c y)->RdL R B css xs
  | [],[],_,_=>trivial
  | c::css,x::xs,hl,h=>⟨h 0 c x rfl rfl,rdl_of (by simpa using hl) fun i c' y h1 h2=>h (i+1) c' y (by simpa using h1) (by simpa using h2)⟩
theorem kM (hO:lW enc P w base spare held R e p) (ht:P.underlying t=some (.slice e)) (hC:P.cellsOf e=R.n) (hs:0<R.n):lW enc P w base spare held (rSl R) t (fun xs=>(∀ x∈xs,p x)/\xs.length*P.bytesOf e<=reachBytes):=fun fuel cs x h hw=>by
 obtain ⟨a,xs,cap,e1,e2,e3,e4⟩:=aMb hO ht hC hs h hw;exact ⟨xs,⟨a,cap,e1,e2 _ _⟩,e3,e4⟩
def uF (enc:TypeId×Value->H) (P:Program) (w:World) (base:Nat) (spare:Nat->Bool) (held:Bool) (R:Rp α) (off:Nat) (fs:List Field) (p:α->Prop):Prop :=
 ∀ (n:Nat) (cs:List Value) (xs:List (DataW H×List MemPlace)),xs.length=fs.length->(∀ (i:Nat) (f:Field),fs[i]?=some f->DataW.trod enc P w base spare held n f.type ((cs.drop f.offset).take (P.cellsOf f.type))=xs[i]?) ->
  (DataW.weightsEach P (fs.map (·.type)) (xs.map (·.1))).all (·<=reachBytes)=true->∃ y,R.rd (gJ w) ((cs.drop off).take R.n) y/\p y
theorem rW {f:Field} {off:Nat} (hO:lW enc P w base spare held R f.type p) (ho:f.offset=off) (hC:P.cellsOf f.type=R.n):uF enc P w base spare held R off [f] p:=fun n cs xs hl hx hw=>by
 match xs,hl with
 | [x],_ =>
  have h:=hx 0 f rfl;rw [ho,hC] at h;refine hO _ _ _ h ?_;simpa [DataW.weightsEach] using hw
theorem jI {f:Field} {fs:List Field} {off:Nat} (hO:lW enc P w base spare held R f.type p) (ho:f.offset=off) (hC:P.cellsOf f.type=R.n) (hF:uF enc P w base spare held Q (off+R.n) fs q):uF enc P w base spare held (dX R Q) off (f::fs) (fun y=>p y.1/\q y.2):=fun n cs xs hl hx hw=>by
 match xs,hl with
 | x::xs,hl =>
  have h:=hx 0 f rfl;rw [ho,hC] at h;simp only [List.map_cons,DataW.weightsEach,List.all_append,Bool.and_eq_true] at hw;obtain ⟨y,hy,hpy⟩:=hO _ _ _ h hw.1;obtain ⟨z,hz,hqz⟩:=hF n cs xs (by simpa using hl) (fun i g hg=>by simpa using hx (i+1) g (by simpa using hg)) hw.2;refine ⟨(y,z),⟨_,_,?_,hy,hz⟩,hpy,hqz⟩;show (cs.drop off).take (R.n+Q.n)=_;rw [List.take_add,List.drop_drop]
theorem rU {fs:List Field} (ht:P.underlying t=some (.struct fs.toArray)) (hF:uF enc P w base spare held R 0 fs p) (hC:P.cellsOf t=R.n):lW enc P w base spare held R t p:=fun fuel cs x h hw=>by
 obtain ⟨xs,n,_,rfl,hl,hxl,hx⟩:=DataW.trod_struct ht h;simp only [DataW.weights,ht] at hw;obtain ⟨y,hy,hp⟩:=hF n cs xs (by simpa using hxl) (fun i f hf=>hx i f (by simpa using hf)) (by simpa using hw);rw [List.drop_zero,List.take_of_length_le (by omega)] at hy;exact ⟨y,hy,hp⟩
end
section
variable {H:Type} {enc:TypeId×Value->H} {P:Program} {w:World} {base:Nat} {spare:Nat->Bool} {held:Bool} {t:TypeId}
theorem zX (ht:P.underlying t=some .string):Opn enc P w base spare held rStr t:=fun fuel cs x h=>by
 obtain ⟨s,h1,h2,h3⟩:=DataW.trod_string ht h;exact ⟨s.data.toList,h1⟩
end
end Go.Tri
namespace Go.Proofs.YtnagibpmfabkjaaGreatDoor
open Go.RowKit Go.Tri
variable {w0 w:World} {l:List HP}
set_option maxRecDepth 100000
set_option maxHeartbeats 4000000
theorem aLc {s:List UInt8} {p:List UInt8}  {r:(List UInt8)×Bool} (hm:pU s p=some r) (H:St w0 w (l)) :
  Calls Tryz.prog 167 [.string (txb (s)),.string (txb (p))].toArray w (fun e w'=>∃ v,e=.returned v/\v=.tuple [.string (txb (r.1)),.bool (r.2)].toArray/\St w0 w' (l)):=by
 unfold pU at hm;cases hm;exact (Tryz.strings_CutPrefix (txb s) (txb p) w).mono fun e w' ⟨he,hw⟩=>⟨_,by rw [he,kB,kB];rfl,rfl,hw▸H⟩
theorem aOx {s:List UInt8} {sep:List UInt8} {sv:Int} {n:Int}  {r:(List (List UInt8))} (hm:genSplit s sep sv n=some r) (H:St w0 w (l)) :
  Calls Tryz.prog 183 [.string (txb (s)),.string (txb (sep)),.int .i64 (sv),.int .i64 (n)].toArray w (fun e w'=>∃ v,e=.returned v/\∃ (p0:Option Addr) (c0:Nat),v=.slice p0 (r).length c0/\St w0 w' (HP.ow rStr 9 p0 c0 r::l)):=by
 unfold genSplit at hm;obtain ⟨rfl,rfl,rfl,hl,rfl⟩:=aH9 hm;have hsz:(txb s).size<4294967281:=by rw [kL];omega
 have hC:Calls Tryz.prog 201 #[.string (txb s),.string ⟨#[47]⟩] w fun e w'=>e=.returned (.int .i64 (Lib.countB (txb s) ⟨#[47]⟩))/\w'=w:=by
   refine (Tryz.strings_Count_one (txb s) 47 w).mono fun e w' ⟨he,hw⟩=>⟨?_,hw⟩;rw [he];show _=Ending.returned (Value.int .i64 ((Lib.count (txb s).data.toList [47]:Nat):Int));rw [Lib.count_one];rfl
 have hle:=Lib.countB_le (⟨#[47]⟩:ByteArray) (by decide) (txb s).size (txb s) (Nat.le_refl _);have c:=Any.strings_genSplit_core Tryz.lays221 (by kernel_rfl) (txb s) ⟨#[47]⟩ 0 (-1) (Lib.countB (txb s) ⟨#[47]⟩+1) w hsz (by decide) (by decide)
   (fun x c hx=>(Tryz.strings_Index_one x 47 _).mono fun e w' ⟨he,hw⟩=>⟨by
     rw [he]
     show _=Ending.returned (Value.int .i64 (Lib.index x.data.toList [47]))
     rw [Lib.index_one],hw⟩) hC (by decide) (by decide) (by rw [if_pos (by decide)];omega)
 have hlen:=Lib.splitB_all (⟨#[47]⟩:ByteArray) (by decide) 0 _ (txb s) rfl;rw [Nat.add_sub_cancel,hlen] at c;have hd:=Lib.splitB_data (⟨#[47]⟩:ByteArray) 0 (Lib.countB (txb s) ⟨#[47]⟩) (txb s);have e0:(⟨#[47]⟩:ByteArray).data.toList=[47]:=rfl;rw [e0,kB] at hd;have hcb:Lib.countB (txb s) ⟨#[47]⟩=Lib.count s [47]:=by
   show Lib.count (txb s).data.toList [47]=_;rw [kB]
 rw [hcb] at hd hlen c;rw [aFh] at hd;have hB:Lib.splitB ⟨#[47]⟩ 0 (Lib.count s [47]) (txb s)=(sp s).map txb:=by
   have:((sp s).map txb).map (·.data.toList)=sp s:=by
     rw [List.map_map]
     conv=>rhs;rw [<- List.map_id (sp s)]
     exact List.map_congr_left fun x _=>kB x
   rw [<- hd,List.map_map]
   conv=>lhs;rw [<- List.map_id (Lib.splitB ⟨#[47]⟩ 0 (Lib.count s [47]) (txb s))]
   exact List.map_congr_left fun x _=>(aI2 x).symm
 have hn:(sp s).length=Lib.count s [47]+1:=by rw [<- hlen,hB,List.length_map]
 have hx:Lib.cellsOf (Lib.splitB ⟨#[47]⟩ 0 (Lib.count s [47]) (txb s)) (Lib.count s [47]+1)=((sp s).map fun x=>Value.string (txb x)).toArray:=by
   rw [<- hlen,Lib.cellsOf_full,hB,List.map_map];rfl
 rw [hx] at c;rw [<- hn] at c;refine c.mono fun e w' ⟨he,hw⟩=>⟨_,he,_,_,rfl,?_⟩;subst hw;have hm0:(sp s).length<=maxLen:=by
   have h1:Lib.countB (txb s) ⟨#[47]⟩<=(txb s).size:=hle;rw [hcb,kL] at h1;unfold maxLen;omega
 exact H.newTexts 9 (sp s) hm0
theorem aIn {xs:List (List UInt8)} {sep:List UInt8} {p0:Option Addr} {c0:Nat} {r:(List UInt8)} (hm:tX xs sep=some r) (H:St w0 w (HP.sl rStr p0 c0 xs::l)) :
  Calls Tryz.prog 170 [.slice p0 (xs).length c0,.string (txb (sep))].toArray w (fun e w'=>∃ v,e=.returned v/\v=.string (txb (r))/\St w0 w' (l)):=by
 unfold tX at hm;obtain ⟨rfl,hx,hj,rfl⟩:=aO1 hm;have hsl:Sl w (.slice p0 (xs).length c0) (xs).length (xs.map fun l=>Value.string (txb l)):=by
   obtain ⟨B,S,hs,⟨css,h1,h2⟩,_⟩:=H.get 0 rfl;have h3:=h2 w hs;have h4:∀ (css:List (List Value)) (xs:List (List UInt8)),RdL rStr B css xs->css.flatten=xs.map fun l=>Value.string (txb l):=by
     intro css
     induction css with
     | nil=>intro xs h;cases xs with
       | nil=>rfl
       | cons x xs=>exact h.elim
     | cons c css ih=>intro xs h;cases xs with
       | nil=>exact h.elim
       | cons x xs =>
         obtain ⟨e1,e2⟩:=h;have e1:c=[.string (txb x)]:=e1;simp [e1,ih xs e2]
   rwa [h4 css xs h1] at h3
 have hcap:=H.slCap 0 rfl;cases xs with
 | nil=>exact (Tryz.strings_Join_none p0 c0 ⟨#[47]⟩ w).mono fun e w' ⟨he,hw⟩=>⟨_,he,rfl,hw▸H.tail⟩
 | cons x r =>
   obtain ⟨b,off,rfl,hrow⟩:=hsl.rowAt (c:=c0) rfl (by simp);have hd:((x::r).map txb).map (·.data.toList)=x::r:=by
     rw [List.map_map]
     conv=>rhs;rw [<- List.map_id (x::r)]
     exact List.map_congr_left fun y _=>kB y
   have hcells:∀ (j:Nat) y,((x::r).map txb)[j]?=some y->w.cell? ⟨b,off+j,none⟩=some (.string y):=by
     intro j y hy;refine hrow j _ ?_;rw [List.getElem?_map] at hy ⊢;cases hz:(x::r)[j]? with
     | none=>rw [hz] at hy;cases hy
     | some z=>rw [hz] at hy;cases hy;rfl
   have h0:=hcells 0 (txb x) rfl;have e0:(⟨#[47]⟩:ByteArray).data.toList=[47]:=rfl;have c:=Tryz.strings_Join b off c0 ((x::r).map txb) ⟨#[47]⟩ w hcells (World.block_lt_of_cell? _ _ h0) (by simp at hx ⊢;omega) (by simpa using hcap) (by rw [hd,e0];unfold jn at hj;omega);rw [hd,e0,List.length_map] at c;exact c.mono fun e w' ⟨he,hw⟩=>⟨_,he,rfl,(H.below hw).tail⟩
theorem aOv {s:List UInt8} {p:List UInt8}  {r:Int} (hm:vG s p=some r) (H:St w0 w (l)) :
  Calls Tryz.prog 162 [.string (txb (s)),.string (txb (p))].toArray w (fun e w'=>∃ v,e=.returned v/\v=.int .i64 (r)/\St w0 w' (l)):=by
 unfold vG at hm;obtain ⟨c,rfl,rfl⟩:=aGz hm;exact (Tryz.stringslite_Index_one (txb s) c w).mono fun e w' ⟨he,hw⟩=>⟨_,by rw [he,kB],rfl,hw▸H⟩
theorem aIj:En Tryz.prog 162:=enters Tryz.func162 (by kernel_rfl) rfl
theorem aPs {x0_:List UInt8} {x1_:List UInt8}  {r:(List UInt8)×(List UInt8)×Bool} (hm:vB x0_ x1_=some r) (H:St w0 w (l)) :
  Calls Tryz.prog 139 [.string (txb (x0_)),.string (txb (x1_))].toArray w (fun e w'=>∃ v,e=.returned v/\v=.tuple [.string (txb (r.1)),.string (txb (r.2.1)),.bool (r.2.2)].toArray/\St w0 w' (l)):=by
 unfold vB at hm;refine aO Tryz.func139 rfl rfl rfl ?_;intro a F;refine sb [0,0,0] F H rfl fun a F=>nl (sq (sb [0,0] F H rfl fun a F=>?_));obtain ⟨x0,ex0,hm⟩:=ob hm;refine sd F rfl aIj (aOv ex0 H:) ?_;rintro _ w a ⟨rfl,H⟩ F;refine bb [0] F H rfl fun a F=>nb [0,0] F H rfl fun a F=>?_;refine nl (cPm F rfl hm (fun hg0 hm=>?_) (fun hg0 hm=>?_));refine sq ?_;obtain ⟨x1,ex1,hm⟩:=ob hm;obtain ⟨x2,ex2,hm⟩:=ob hm;refine qr H (by kernel_rfl) (by kernel_rfl) ?_;refine qb [0,0] F rfl fun a F=>qv F rfl (fun u hu=>aBj F rfl u9 rfl rfl ex1) fun a F=>qb [0,0,0] F rfl fun a F=>qv F rfl (fun u hu=>eK (l:=x1_) F rfl u9 rfl) fun a F=>qb [0] F rfl fun a F=>qv F rfl (fun u hu=>zA F rfl u9 rfl rfl ex2) fun a F=>qb [0,0,0] F rfl fun a F=>?_;refine dB fun w H=>?_;refine ct (wr (tr ?_));cases hm;refine aAo F rfl rfl rfl rfl ?_;exact ⟨_,rfl,rfl,H⟩;refine sk (ct (sb [0,0,0,0] F H rfl fun a F=>nl (wr ?_)));cases hm;refine aAo F rfl rfl rfl rfl ?_;exact ⟨_,rfl,rfl,H⟩
theorem aHw:En Tryz.prog 139:=enters Tryz.func139 (by kernel_rfl) rfl
theorem aKp {x0_:List UInt8} {x1_:List UInt8}  {r:(List UInt8)×(List UInt8)×Bool} (hm:rX x0_ x1_=some r) (H:St w0 w (l)) :
  Calls Tryz.prog 112 [.string (txb (x0_)),.string (txb (x1_))].toArray w (fun e w'=>∃ v,e=.returned v/\v=.tuple [.string (txb (r.1)),.string (txb (r.2.1)),.bool (r.2.2)].toArray/\St w0 w' (l)):=by
 unfold rX at hm;refine aO Tryz.func112 rfl rfl rfl ?_;intro a F;refine sb [0,0,0] F H rfl fun a F=>nb [0,0] F H rfl fun a F=>?_;obtain ⟨x0,ex0,hm⟩:=ob hm;refine sd F rfl aHw (aPs ex0 H:) ?_;rintro _ w a ⟨rfl,H⟩ F;refine bb (List.replicate 6 0) F H rfl fun a F=>nl (wr ?_);cases hm;refine aAo F rfl rfl rfl rfl ?_;exact ⟨_,rfl,rfl,H⟩
theorem aHg:En Tryz.prog 183:=enters Tryz.func183 (by kernel_rfl) rfl
theorem aJ5 {s:List UInt8} {sep:List UInt8}  {r:(List (List UInt8))} (hm:sJ s sep=some r) (H:St w0 w (l)) :
  Calls Tryz.prog 168 [.string (txb (s)),.string (txb (sep))].toArray w (fun e w'=>∃ v,e=.returned v/\∃ (p0:Option Addr) (c0:Nat),v=.slice p0 (r).length c0/\St w0 w' (HP.ow rStr 9 p0 c0 r::l)):=by
 unfold sJ at hm;refine aO Tryz.func168 rfl rfl rfl ?_;intro a F;refine sb [0] F H rfl fun a F=>nb [0,0] F H rfl fun a F=>?_;obtain ⟨x0,ex0,hm⟩:=ob hm;refine sd F rfl aHg (aOx ex0 H:) ?_;rintro _ w a ⟨p1,c1,rfl,H⟩ F;refine bb [0] F H rfl fun a F=>?_;replace H:=H.nf 1 rfl;refine nl (wr ?_);cases hm;refine aC F rfl rfl ?_;exact ⟨_,rfl,p1,c1,rfl,H⟩
end Go.Proofs.YtnagibpmfabkjaaGreatDoor
