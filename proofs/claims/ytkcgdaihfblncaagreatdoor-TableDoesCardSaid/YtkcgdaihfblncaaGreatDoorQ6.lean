/- Texts Mod, Oq, Os. -/
import Derived.Test.YtkcgdaihfblncaaGreatDoorQ4
import Derived.Test.YtkcgdaihfblncaaGreatDoorQ5
import GoSem.ClaimJoined
import Derived.ChangeMaps5
set_option linter.unusedSimpArgs false
set_option linter.unusedVariables false
namespace Go.Proofs.YtkcgdaihfblncaaGreatDoor
open Go.RowKit Go.Tri
variable {w0 w:World} {l:List HP}
abbrev T_api_Pair:Type:=(List UInt8)×(List UInt8)
abbrev R_api_Pair:Rp T_api_Pair:=(bP (rSl rByte) (rSl rByte))
abbrev T_pack_Pen_o:Type:=(List UInt8)
def O_pack_Pen (b:Nat) (x:T_pack_Pen_o):HP:=HP.ex fun (i:(Option Addr)×Nat)=>[HP.blk b ([.slice i.1 (x).length i.2]) 113,HP.ow rByte 5 i.1 i.2 x]
theorem O_pack_Pen_s {w0 w:World} {l:List HP} {b:Nat} {i1:Option Addr} {c1:Nat} {x0:List UInt8}  (H:St w0 w (HP.blk b ([.slice i1 (x0).length c1]) 113::HP.ow rByte 5 i1 c1 x0::l)):St w0 w (O_pack_Pen b x0::l):=by
 unfold O_pack_Pen
 exact St.exShut (i1,c1) H
def O_pack_Pen_1 (b:Nat) (x:T_pack_Pen_o):HP:=HP.ex fun (i:(Option Addr)×Nat)=>[HP.blk b ([.slice i.1 (x).length i.2]) 113,HP.sl rByte i.1 i.2 x]
abbrev aG:Type:=Bool×(List UInt8)
abbrev aO:Rp aG:=(bP iW (rSl rByte))
theorem lV {w0 w:World} {l:List HP} {cs:List Value} {x:aG} (H:St w0 w (HP.rc aO cs x::l)):∃ (p2:Option Addr) (c2:Nat),cs=[.bool (x.1),.slice p2 (x.2).length c2]/\St w0 w (HP.sl rByte p2 c2 x.2::l):=by
 obtain ⟨u1,v1,rfl,H⟩:=H.rcPair 0 rfl
 replace H:=H.dp 2 rfl
 obtain rfl:=H.rB 0 rfl
 replace H:=H.dp 0 rfl
 obtain ⟨p2,c2,rfl,H⟩:=H.rcSl 0 rfl
 replace H:=H.dp 1 rfl
 exact ⟨p2,c2,rfl,H⟩
theorem tX {w0 w:World} {l:List HP} (H:St w0 w l) (s0:Bool) {p1:Option Addr} {c1:Nat} {x1:List UInt8} (i1:Nat) (h1:l[i1]?=some (HP.sl rByte p1 c1 x1)):St w0 w (HP.rc aO [.bool s0,.slice p1 x1.length c1] (s0,x1)::l):=H.mR (fun gg=>⟨_,_,rfl,rfl,⟨_,_,rfl,(gg i1 _ h1).choose_spec⟩⟩)
abbrev T_api_Op:Type:=Int×(List UInt8)×(List UInt8)×Int×Int×(List UInt8)
abbrev R_api_Op:Rp T_api_Op:=(bP (dC .i64) (bP rStr (bP rStr (bP (dC .i64) (bP (dC .i64) (rSl rByte))))))
abbrev T_api_Answer:Type:=Int×Int×(List UInt8)×(List (List UInt8))
abbrev R_api_Answer:Rp T_api_Answer:=(bP (dC .i64) (bP (dC .i64) (bP (rSl rByte) (rSl rStr))))
theorem rc_api_Op {w0 w:World} {l:List HP} {cs:List Value} {x:T_api_Op} (H:St w0 w (HP.rc R_api_Op cs x::l)):∃ (p6:Option Addr) (c6:Nat),cs=[.int .i64 (x.1),.string (txb (x.2.1)),.string (txb (x.2.2.1)),.int .i64 (x.2.2.2.1),.int .i64 (x.2.2.2.2.1),.slice p6 (x.2.2.2.2.2).length c6]/\St w0 w (HP.sl rByte p6 c6 x.2.2.2.2.2::l):=by
 obtain ⟨u1,v1,rfl,H⟩:=H.rcPair 0 rfl
 replace H:=H.dp 2 rfl
 obtain rfl:=H.rcI 0 rfl
 replace H:=H.dp 0 rfl
 obtain ⟨u2,v2,rfl,H⟩:=H.rcPair 0 rfl
 replace H:=H.dp 2 rfl
 obtain rfl:=H.rS 0 rfl
 replace H:=H.dp 0 rfl
 obtain ⟨u3,v3,rfl,H⟩:=H.rcPair 0 rfl
 replace H:=H.dp 2 rfl
 obtain rfl:=H.rS 0 rfl
 replace H:=H.dp 0 rfl
 obtain ⟨u4,v4,rfl,H⟩:=H.rcPair 0 rfl
 replace H:=H.dp 2 rfl
 obtain rfl:=H.rcI 0 rfl
 replace H:=H.dp 0 rfl
 obtain ⟨u5,v5,rfl,H⟩:=H.rcPair 0 rfl
 replace H:=H.dp 2 rfl
 obtain rfl:=H.rcI 0 rfl
 replace H:=H.dp 0 rfl
 obtain ⟨p6,c6,rfl,H⟩:=H.rcSl 0 rfl
 replace H:=H.dp 1 rfl
 exact ⟨p6,c6,rfl,H⟩
theorem mk_api_Answer {w0 w:World} {l:List HP} (H:St w0 w l) (s0:Int) (s1:Int) {p2:Option Addr} {c2:Nat} {x2:List UInt8} {p3:Option Addr} {c3:Nat} {x3:List (List UInt8)} (i2:Nat) (h2:l[i2]?=some (HP.sl rByte p2 c2 x2)) (i3:Nat) (h3:l[i3]?=some (HP.sl rStr p3 c3 x3)):St w0 w (HP.rc R_api_Answer [.int .i64 s0,.int .i64 s1,.slice p2 x2.length c2,.slice p3 x3.length c3] (s0,s1,x2,x3)::l):=H.mR (fun gg=>⟨_,_,rfl,rfl,⟨_,_,rfl,rfl,⟨_,_,rfl,⟨_,_,rfl,(gg i2 _ h2).choose_spec⟩,⟨_,_,rfl,(gg i3 _ h3).choose_spec⟩⟩⟩⟩)
theorem mk_api_Op {w0 w:World} {l:List HP} (H:St w0 w l) (s0:Int) (s1:List UInt8) (s2:List UInt8) (s3:Int) (s4:Int) {p5:Option Addr} {c5:Nat} {x5:List UInt8} (i5:Nat) (h5:l[i5]?=some (HP.sl rByte p5 c5 x5)):St w0 w (HP.rc R_api_Op [.int .i64 s0,.string (txb s1),.string (txb s2),.int .i64 s3,.int .i64 s4,.slice p5 x5.length c5] (s0,s1,s2,s3,s4,x5)::l):=H.mR (fun gg=>⟨_,_,rfl,rfl,⟨_,_,rfl,rfl,⟨_,_,rfl,rfl,⟨_,_,rfl,rfl,⟨_,_,rfl,rfl,⟨_,_,rfl,(gg i5 _ h5).choose_spec⟩⟩⟩⟩⟩⟩)
theorem rc_api_Pair {w0 w:World} {l:List HP} {cs:List Value} {x:T_api_Pair} (H:St w0 w (HP.rc R_api_Pair cs x::l)):∃ (p2:Option Addr) (c2:Nat) (p3:Option Addr) (c3:Nat),cs=[.slice p2 (x.1).length c2,.slice p3 (x.2).length c3]/\St w0 w (HP.sl rByte p2 c2 x.1::HP.sl rByte p3 c3 x.2::l):=by
 obtain ⟨u1,v1,rfl,H⟩:=H.rcPair 0 rfl
 replace H:=H.dp 2 rfl
 obtain ⟨p2,c2,rfl,H⟩:=H.rcSl 0 rfl
 replace H:=H.dp 1 rfl
 obtain ⟨p3,c3,rfl,H⟩:=H.rcSl 1 rfl
 replace H:=H.dp 2 rfl
 exact ⟨p2,c2,p3,c3,rfl,(H.pm 2 [1,0] rfl:)⟩
theorem rc_api_Answer {w0 w:World} {l:List HP} {cs:List Value} {x:T_api_Answer} (H:St w0 w (HP.rc R_api_Answer cs x::l)):∃ (p4:Option Addr) (c4:Nat) (p5:Option Addr) (c5:Nat),cs=[.int .i64 (x.1),.int .i64 (x.2.1),.slice p4 (x.2.2.1).length c4,.slice p5 (x.2.2.2).length c5]/\St w0 w (HP.sl rByte p4 c4 x.2.2.1::HP.sl rStr p5 c5 x.2.2.2::l):=by
 obtain ⟨u1,v1,rfl,H⟩:=H.rcPair 0 rfl
 replace H:=H.dp 2 rfl
 obtain rfl:=H.rcI 0 rfl
 replace H:=H.dp 0 rfl
 obtain ⟨u2,v2,rfl,H⟩:=H.rcPair 0 rfl
 replace H:=H.dp 2 rfl
 obtain rfl:=H.rcI 0 rfl
 replace H:=H.dp 0 rfl
 obtain ⟨u3,v3,rfl,H⟩:=H.rcPair 0 rfl
 replace H:=H.dp 2 rfl
 obtain ⟨p4,c4,rfl,H⟩:=H.rcSl 0 rfl
 replace H:=H.dp 1 rfl
 obtain ⟨p5,c5,rfl,H⟩:=H.rcSl 1 rfl
 replace H:=H.dp 2 rfl
 exact ⟨p4,c4,p5,c5,rfl,(H.pm 2 [1,0] rfl:)⟩
abbrev T_api_Snap:Type:=(List UInt8)×Int×(List T_api_Pair)
abbrev R_api_Snap:Rp T_api_Snap:=(bP rStr (bP (dC .u64) (rSl R_api_Pair)))
abbrev T_api_State:Type:=(List T_api_Pair)×(List T_api_Snap)
abbrev R_api_State:Rp T_api_State:=(bP (rSl R_api_Pair) (rSl R_api_Snap))
theorem rc_api_State {w0 w:World} {l:List HP} {cs:List Value} {x:T_api_State} (H:St w0 w (HP.rc R_api_State cs x::l)):∃ (p2:Option Addr) (c2:Nat) (p3:Option Addr) (c3:Nat),cs=[.slice p2 (x.1).length c2,.slice p3 (x.2).length c3]/\St w0 w (HP.sl R_api_Pair p2 c2 x.1::HP.sl R_api_Snap p3 c3 x.2::l):=by
 obtain ⟨u1,v1,rfl,H⟩:=H.rcPair 0 rfl
 replace H:=H.dp 2 rfl
 obtain ⟨p2,c2,rfl,H⟩:=H.rcSl 0 rfl
 replace H:=H.dp 1 rfl
 obtain ⟨p3,c3,rfl,H⟩:=H.rcSl 1 rfl
 replace H:=H.dp 2 rfl
 exact ⟨p2,c2,p3,c3,rfl,(H.pm 2 [1,0] rfl:)⟩
abbrev bX:Type:=(List T_api_Pair)×(List T_api_Snap)
def jW (b:Nat) (x:bX):HP:=HP.ex fun (i:(Option Addr)×Nat×(Option Addr)×Nat)=>[HP.blk b ([.slice i.1 (x.1).length i.2.1,.slice i.2.2.1 (x.2).length i.2.2.2]) 25,HP.sl R_api_Pair i.1 i.2.1 x.1,HP.ow R_api_Snap 90 i.2.2.1 i.2.2.2 x.2]
abbrev T_triremeref11_Node:Type:=(List UInt8)×Bool×(List UInt8)
abbrev R_triremeref11_Node:Rp T_triremeref11_Node:=(bP rStr (bP iW (rSl rByte)))
theorem rc_triremeref11_Node {w0 w:World} {l:List HP} {cs:List Value} {x:T_triremeref11_Node} (H:St w0 w (HP.rc R_triremeref11_Node cs x::l)):∃ (p3:Option Addr) (c3:Nat),cs=[.string (txb (x.1)),.bool (x.2.1),.slice p3 (x.2.2).length c3]/\St w0 w (HP.sl rByte p3 c3 x.2.2::l):=by
 obtain ⟨u1,v1,rfl,H⟩:=H.rcPair 0 rfl
 replace H:=H.dp 2 rfl
 obtain rfl:=H.rS 0 rfl
 replace H:=H.dp 0 rfl
 obtain ⟨u2,v2,rfl,H⟩:=H.rcPair 0 rfl
 replace H:=H.dp 2 rfl
 obtain rfl:=H.rB 0 rfl
 replace H:=H.dp 0 rfl
 obtain ⟨p3,c3,rfl,H⟩:=H.rcSl 0 rfl
 replace H:=H.dp 1 rfl
 exact ⟨p3,c3,rfl,H⟩
theorem mk_api_Pair {w0 w:World} {l:List HP} (H:St w0 w l) {p0:Option Addr} {c0:Nat} {x0:List UInt8} {p1:Option Addr} {c1:Nat} {x1:List UInt8} (i0:Nat) (h0:l[i0]?=some (HP.sl rByte p0 c0 x0)) (i1:Nat) (h1:l[i1]?=some (HP.sl rByte p1 c1 x1)):St w0 w (HP.rc R_api_Pair [.slice p0 x0.length c0,.slice p1 x1.length c1] (x0,x1)::l):=H.mR (fun gg=>⟨_,_,rfl,⟨_,_,rfl,(gg i0 _ h0).choose_spec⟩,⟨_,_,rfl,(gg i1 _ h1).choose_spec⟩⟩)
abbrev T_triremeref12_Snap:Type:=(List UInt8)×Int×(List T_triremeref11_Node)
abbrev T_triremeref12_State:Type:=(List T_triremeref11_Node)×(List T_triremeref12_Snap)
abbrev R_triremeref12_Snap:Rp T_triremeref12_Snap:=(bP rStr (bP (dC .u64) (rSl R_triremeref11_Node)))
abbrev R_triremeref12_State:Rp T_triremeref12_State:=(bP (rSl R_triremeref11_Node) (rSl R_triremeref12_Snap))
theorem rc_triremeref12_State {w0 w:World} {l:List HP} {cs:List Value} {x:T_triremeref12_State} (H:St w0 w (HP.rc R_triremeref12_State cs x::l)):∃ (p2:Option Addr) (c2:Nat) (p3:Option Addr) (c3:Nat),cs=[.slice p2 (x.1).length c2,.slice p3 (x.2).length c3]/\St w0 w (HP.sl R_triremeref11_Node p2 c2 x.1::HP.sl R_triremeref12_Snap p3 c3 x.2::l):=by
 obtain ⟨u1,v1,rfl,H⟩:=H.rcPair 0 rfl
 replace H:=H.dp 2 rfl
 obtain ⟨p2,c2,rfl,H⟩:=H.rcSl 0 rfl
 replace H:=H.dp 1 rfl
 obtain ⟨p3,c3,rfl,H⟩:=H.rcSl 1 rfl
 replace H:=H.dp 2 rfl
 exact ⟨p2,c2,p3,c3,rfl,(H.pm 2 [1,0] rfl:)⟩
abbrev T_triremeref12_State_o:Type:=(List T_triremeref11_Node)×(List T_triremeref12_Snap)
def O_triremeref12_State (b:Nat) (x:T_triremeref12_State_o):HP:=HP.ex fun (i:(Option Addr)×Nat×(Option Addr)×Nat)=>[HP.blk b ([.slice i.1 (x.1).length i.2.1,.slice i.2.2.1 (x.2).length i.2.2.2]) 43,HP.sl R_triremeref11_Node i.1 i.2.1 x.1,HP.ow R_triremeref12_Snap 96 i.2.2.1 i.2.2.2 x.2]
abbrev T_api_Seat:Type:=Int×Int×T_api_Answer
abbrev R_api_Seat:Rp T_api_Seat:=(bP (dC .i64) (bP (dC .u64) R_api_Answer))
theorem rc_api_Seat {w0 w:World} {l:List HP} {cs:List Value} {x:T_api_Seat} (H:St w0 w (HP.rc R_api_Seat cs x::l)):∃ (v2:List Value),cs=[Value.int .i64 (x.1),Value.int .u64 (x.2.1)]++(v2)/\St w0 w (HP.rc R_api_Answer v2 x.2.2::l):=by
 obtain ⟨u1,v1,rfl,H⟩:=H.rcPair 0 rfl
 replace H:=H.dp 2 rfl
 obtain rfl:=H.rcI 0 rfl
 replace H:=H.dp 0 rfl
 obtain ⟨u2,v2,rfl,H⟩:=H.rcPair 0 rfl
 replace H:=H.dp 2 rfl
 obtain rfl:=H.rcI 0 rfl
 replace H:=H.dp 0 rfl
 exact ⟨v2,rfl,H⟩
abbrev T_api_Whole:Type:=T_api_State×(List T_api_Seat)
abbrev R_api_Whole:Rp T_api_Whole:=(bP R_api_State (rSl R_api_Seat))
theorem rc_api_Whole {w0 w:World} {l:List HP} {cs:List Value} {x:T_api_Whole} (H:St w0 w (HP.rc R_api_Whole cs x::l)):∃ (u1:List Value) (p2:Option Addr) (c2:Nat),cs=u1++([Value.slice p2 (x.2).length c2])/\St w0 w (HP.rc R_api_State u1 x.1::HP.sl R_api_Seat p2 c2 x.2::l):=by
 obtain ⟨u1,v1,rfl,H⟩:=H.rcPair 0 rfl
 replace H:=H.dp 2 rfl
 obtain ⟨p2,c2,rfl,H⟩:=H.rcSl 1 rfl
 replace H:=H.dp 2 rfl
 exact ⟨u1,p2,c2,rfl,(H.pm 2 [1,0] rfl:)⟩
abbrev T_api_Call:Type:=Int×Int×T_api_Op
abbrev R_api_Call:Rp T_api_Call:=(bP (dC .i64) (bP (dC .u64) R_api_Op))
theorem rc_api_Call {w0 w:World} {l:List HP} {cs:List Value} {x:T_api_Call} (H:St w0 w (HP.rc R_api_Call cs x::l)):∃ (v2:List Value),cs=[Value.int .i64 (x.1),Value.int .u64 (x.2.1)]++(v2)/\St w0 w (HP.rc R_api_Op v2 x.2.2::l):=by
 obtain ⟨u1,v1,rfl,H⟩:=H.rcPair 0 rfl
 replace H:=H.dp 2 rfl
 obtain rfl:=H.rcI 0 rfl
 replace H:=H.dp 0 rfl
 obtain ⟨u2,v2,rfl,H⟩:=H.rcPair 0 rfl
 replace H:=H.dp 2 rfl
 obtain rfl:=H.rcI 0 rfl
 replace H:=H.dp 0 rfl
 exact ⟨v2,rfl,H⟩
abbrev T_triremeref13_Whole:Type:=T_triremeref12_State×(List T_api_Seat)
abbrev R_triremeref13_Whole:Rp T_triremeref13_Whole:=(bP R_triremeref12_State (cW R_api_Seat 4))
theorem rc_triremeref13_Whole {w0 w:World} {l:List HP} {cs:List Value} {x:T_triremeref13_Whole} (H:St w0 w (HP.rc R_triremeref13_Whole cs x::l)):∃ (u1:List Value) (v1:List Value),cs=u1++(v1)/\St w0 w (HP.rc R_triremeref12_State u1 x.1::HP.rc (cW R_api_Seat 4) v1 x.2::l):=by
 obtain ⟨u1,v1,rfl,H⟩:=H.rcPair 0 rfl
 replace H:=H.dp 2 rfl
 exact ⟨u1,v1,rfl,H⟩
noncomputable def pF (s:List UInt8) (p:List UInt8):Option ((List UInt8)×Bool):=some (Lib.trimPrefix s p,Lib.hasPrefix s p)
noncomputable def genSplit (s:List UInt8) (sep:List UInt8) (sv:Int) (n:Int):Option (List (List UInt8)):=rR s sep sv n
noncomputable def tA (xs:List (List UInt8)) (sep:List UInt8):Option (List UInt8):=rO xs sep
noncomputable def sP (s:List UInt8) (p:List UInt8):Option Int:=rN s p
noncomputable def qM (x0_:List UInt8) (x1_:List UInt8):Option ((List UInt8)×(List UInt8)×Bool) :=
(sP x0_ x1_).bind fun x0 =>
if 0<=x0 then ((aY x0_ 0 x0).bind fun x1 =>
(aY x0_ (IntKind.i64.wrap (x0+((x1_).length:Int))) ((x0_).length:Int)).bind fun x2 =>
some (x1,x2,true))
 else (some (x0_,[],false))
noncomputable def nS (x0_:List UInt8) (x1_:List UInt8):Option ((List UInt8)×(List UInt8)×Bool) :=
(qM x0_ x1_).bind fun x0 =>
some (x0.1,x0.2.1,x0.2.2)
noncomputable def pY (s:List UInt8) (sep:List UInt8):Option (List (List UInt8)) :=
(genSplit s sep 0 (-1)).bind fun x0 =>
some x0
noncomputable def jL (x0_:List UInt8):Option Bool :=
Option.bind (α:=(Unit) ⊕ Bool) (aH (fun (s0:Int)=>if s0<((x0_).length:Int) then ((aD x0_ s0).bind fun x0 =>
if ((x0).toNat:Int)<33 then (some (.inr (.inr false)))
 else ((aD x0_ s0).bind fun x1 =>
if 126<((x1).toNat:Int) then (some (.inr (.inr false)))
 else ((aD x0_ s0).bind fun x2 =>
if ((x2).toNat:Int)=47 then (some (.inr (.inr false)))
 else (some (.inl (IntKind.i64.wrap (s0+1)))))))
 else (some (.inr (.inl ())))) 0) fun o0=>Sum.elim (fun r0=>if x0_=([]) then (some false)
 else (some (decide (((x0_).length:Int)<=8)))) (fun rv=>some rv) o0
noncomputable def oA (x0_:List UInt8):Option Bool :=
(jL x0_).bind fun x0 =>
some (!x0)
noncomputable def tB (s:List (List UInt8)):Option Int :=
Option.bind (α:=(Unit) ⊕ Int) (aH (fun (s0:Int)=>if s0<((s).length:Int) then ((aD s s0).bind fun x0 =>
(oA x0).bind fun x1 =>
if x1=true then (some (.inr (.inr s0)))
 else (some (.inl (IntKind.i64.wrap (s0+1)))))
 else (some (.inr (.inl ())))) 0) fun o0=>Sum.elim (fun r0=>some (-1)) (fun rv=>some rv) o0
noncomputable def qA (s:List (List UInt8)):Option Bool :=
(tB s).bind fun x0 =>
some (decide (0<=x0))
noncomputable def fT (p:List UInt8):Option ((List (List UInt8))×Bool) :=
if p=([47]) then (some (([]:List (List UInt8)),true))
 else ((pF p ([47])).bind fun x0 =>
(pY x0.1 ([47])).bind fun x1 =>
if (!x0.2)=true then (some (([]:List (List UInt8)),false))
 else (if 24<((p).length:Int) then (some (([]:List (List UInt8)),false))
 else ((qA x1).bind fun x2 =>
if x2=true then (some (([]:List (List UInt8)),false))
 else (some (x1,true)))))
noncomputable def kL (x0_:List (List UInt8)):Option (List UInt8) :=
(tA x0_ ([47])).bind fun x0 =>
(aL ([47]) x0).bind fun x1 =>
some x1
noncomputable def gL (x0_:List UInt8):Option Int :=
(fT x0_).bind fun x0 =>
if (!x0.2)=true then (some 90)
 else (some 0)
noncomputable def jT (x0_:List UInt8):Option (List UInt8) :=
(fT x0_).bind fun x0 =>
if ((x0.1).length:Int)=0 then (some ([]))
 else ((aY x0.1 0 (IntKind.i64.wrap (((x0.1).length:Int)-1))).bind fun x1 =>
(kL x1).bind fun x2 =>
some x2)
noncomputable def oX (x0_:List UInt8):Option (List UInt8) :=
(fT x0_).bind fun x0 =>
if ((x0.1).length:Int)=0 then (some ([]))
 else ((aD x0.1 (IntKind.i64.wrap (((x0.1).length:Int)-1))).bind fun x1 =>
some x1)
noncomputable def kX (x0_:List (List UInt8)) (x1_:List (List UInt8)):Option Bool :=
if ((x0_).length:Int)=((x1_).length:Int) then (Option.bind (α:=(Unit) ⊕ Bool) (aH (fun (s0:Int)=>if s0<((x0_).length:Int) then ((aD x0_ s0).bind fun x0 =>
(aD x1_ s0).bind fun x1 =>
if x0=x1 then (some (.inl (IntKind.i64.wrap (s0+1))))
 else (some (.inr (.inr false))))
 else (some (.inr (.inl ())))) 0) fun o0=>Sum.elim (fun r0=>some true) (fun rv=>some rv) o0)
 else (some false)
noncomputable def lT (x0_:List UInt8) (x1_:List UInt8):Option Bool :=
(fT x0_).bind fun x0 =>
(fT x1_).bind fun x1 =>
if x0.2=true then (if x1.2=true then (if ((x0.1).length:Int)<=((x1.1).length:Int) then ((aY x1.1 0 ((x0.1).length:Int)).bind fun x2 =>
(kX x0.1 x2).bind fun x3 =>
some x3)
 else (some false))
 else (some false))
 else (some false)
noncomputable def pD (x0_:List UInt8):Option (List (List UInt8)) :=
(fT x0_).bind fun x0 =>
Option.bind (α:=((List (List UInt8)))) (aH (fun (s0:(List (List UInt8))×Int)=>if s0.2<((x0.1).length:Int) then ((aY x0.1 0 s0.2).bind fun x1 =>
(kL x1).bind fun x2 =>
(aL s0.1 ([x2])).bind fun x3 =>
some (.inl (x3,IntKind.i64.wrap (s0.2+1))))
 else (some (.inr s0.1))) ([],0)) fun r0=>some r0
noncomputable def cmpB (a:List UInt8) (b:List UInt8):Option Int:=some (Lib.compareBytes a b)
noncomputable def sW (xs:List (List UInt8)):Option (List (List UInt8)):=tD xs
noncomputable def rP (xs:List T_api_Pair):Option (List T_api_Pair):=qK xs
noncomputable def cloneB (s:List UInt8):Option (List UInt8) :=
(aL ([]:List UInt8) s).bind fun x0 =>
some x0
noncomputable def penRaw (p:T_pack_Pen_o) (b:List UInt8):Option T_pack_Pen_o :=
(aL p b).bind fun x0 =>
some x0
noncomputable def penUint (p:T_pack_Pen_o) (n:Int) (size:Int):Option (Int×T_pack_Pen_o) :=
if size<1 then (some (1,p))
 else (if 8<size then (some (1,p))
 else (if size<8 then ((eG .u64 n (IntKind.i64.wrap (8*size))).bind fun x0 =>
if 0<x0 then (some (1,p))
 else (Option.bind (α:=(T_pack_Pen_o)) (aH (fun (s0:T_pack_Pen_o×Int)=>if 0<=s0.2 then ((eG .u64 n (IntKind.i64.wrap (8*s0.2))).bind fun x1 =>
(u8O (IntKind.u8.wrap (x1))).bind fun x2 =>
(aL s0.1 ([x2])).bind fun x3 =>
some (.inl (x3,IntKind.i64.wrap (s0.2-1))))
 else (some (.inr s0.1))) (p,IntKind.i64.wrap (size-1))) fun r0=>some (0,r0)))
 else (Option.bind (α:=(T_pack_Pen_o)) (aH (fun (s1:T_pack_Pen_o×Int)=>if 0<=s1.2 then ((eG .u64 n (IntKind.i64.wrap (8*s1.2))).bind fun x4 =>
(u8O (IntKind.u8.wrap (x4))).bind fun x5 =>
(aL s1.1 ([x5])).bind fun x6 =>
some (.inl (x6,IntKind.i64.wrap (s1.2-1))))
 else (some (.inr s1.1))) (p,IntKind.i64.wrap (size-1))) fun r1=>some (0,r1))))
noncomputable def penData (p:T_pack_Pen_o):Option ((List UInt8)×T_pack_Pen_o) :=
(cloneB p).bind fun x0 =>
some (x0,p)
noncomputable def fO (s:(List UInt8)->Option aG) (p:List UInt8):Option (aG×Int) :=
(gL p).bind fun x0 =>
if x0=0 then ((pD p).bind fun x1 =>
Option.bind (α:=(Unit) ⊕ (aG×Int)) (aH (fun (s0:Int)=>if s0<((x1).length:Int) then ((aD x1 s0).bind fun x2 =>
if (!((s x2).isSome))=true then (some (.inr (.inr ((false,([]:List UInt8)),91))))
 else (if (!(((s x2).getD (false,[])).1))=true then (some (.inr (.inr ((false,([]:List UInt8)),93))))
 else (some (.inl (IntKind.i64.wrap (s0+1))))))
 else (some (.inr (.inl ())))) 0) fun o0=>Sum.elim (fun r0=>if (!((s p).isSome))=true then (some ((false,([]:List UInt8)),91))
 else (some (((s p).getD (false,[])),0))) (fun rv=>some rv) o0)
 else (some ((false,([]:List UInt8)),x0))
noncomputable def lJ (s:(List UInt8)->Option aG) (p:List UInt8):Option (aG×Int) :=
(fO s p).bind fun x0 =>
if x0.2=0 then (if x0.1.1=true then (some ((false,([]:List UInt8)),94))
 else (some ((x0.1.1,x0.1.2),x0.2)))
 else (some (x0.1,x0.2))
noncomputable def mJ (s:(List UInt8)->Option aG) (p:List UInt8):Option Int :=
(gL p).bind fun x0 =>
if x0=0 then (if p=([47]) then (some 92)
 else ((jT p).bind fun x1 =>
(fO s x1).bind fun x2 =>
if x2.2=0 then (if (!x2.1.1)=true then (some 93)
 else (if ((s p).isSome)=true then (some 92)
 else (some 0)))
 else (some x2.2)))
 else (some x0)
noncomputable def pQ (s:(List UInt8)->Option aG):Option Bool :=
dX s (fun l39=>(bW (fun (s0:Unit) (x0:(List UInt8)×aG)=>(gL x0.1).bind fun x1 =>
if x1=0 then (if 192<((x0.2.2).length:Int) then (some (.inr false))
 else (if x0.1=([47]) then (some (.inl ()))
 else ((jT x0.1).bind fun x2 =>
if (!(((s x2).getD (false,[])).1))=true then (some (.inr false))
 else (some (.inl ())))))
 else (some (.inr false))) () l39).bind (Sum.elim (fun (s0:Unit)=>some (((s ([47])).getD (false,[])).1)) some))
noncomputable def sized (data:List UInt8) (n:Int):Option (List UInt8) :=
(mkO n (0:UInt8)).bind fun x0 =>
some (putAt x0 0 ((data).take (x0).length))
noncomputable def pV (s:(List UInt8)->Option aG) (o:T_api_Op):Option (T_api_Answer×((List UInt8)->Option aG)) :=
(lJ s o.2.1).bind fun x0 =>
Option.bind (α:=(Int)) (if o.1=3 then (some o.2.2.2.1)
 else (some o.2.2.2.2.1)) fun r0=>Option.bind (α:=(aG×((List UInt8)->Option aG)×(Int×Int))) (Option.bind (α:=(aG×((List UInt8)->Option aG)×(Int×Int))) (if x0.2=0 then (Option.bind (α:=(aG×((List UInt8)->Option aG)×(Int×Int))) (if r0<0 then (some (x0.1,s,(1,0)))
 else (if 192<r0 then (some (x0.1,s,(97,0)))
 else (if o.1=3 then (Option.bind (α:=(aG×((List UInt8)->Option aG)×(Int×Int))) (if 192<(IntKind.i64.wrap (r0+((o.2.2.2.2.2).length:Int))) then (some (x0.1,s,(97,0)))
 else (Option.bind (α:=(aG×((List UInt8)->Option aG)×Int)) (if o.1=4 then ((sized x0.1.2 r0).bind fun x1 =>
some ((x0.1.1,x0.1.2),aI o.2.1 (false,x1) s,0))
 else (Option.bind (α:=(aG×((List UInt8)->Option aG))) (if 0<((o.2.2.2.2.2).length:Int) then ((sized x0.1.2 (max ((x0.1.2).length:Int) (IntKind.i64.wrap (r0+((o.2.2.2.2.2).length:Int))))).bind fun x2 =>
(aY x2 r0 ((x2).length:Int)).bind fun x3 =>
some ((x0.1.1,x0.1.2),aI o.2.1 (false,(putAt x2 (r0:Int).toNat ((o.2.2.2.2.2).take (x3).length))) s))
 else (some (x0.1,s))) fun r1=>some (r1.1,r1.2,((o.2.2.2.2.2).length:Int)))) fun r2=>some (r2.1,r2.2.1,(0,r2.2.2)))) fun r3=>some (r3.1,r3.2.1,(r3.2.2.1,r3.2.2.2)))
 else (Option.bind (α:=(aG×((List UInt8)->Option aG)×Int)) (if o.1=4 then ((sized x0.1.2 r0).bind fun x4 =>
some ((x0.1.1,x0.1.2),aI o.2.1 (false,x4) s,0))
 else (Option.bind (α:=(aG×((List UInt8)->Option aG))) (if 0<((o.2.2.2.2.2).length:Int) then ((sized x0.1.2 (max ((x0.1.2).length:Int) (IntKind.i64.wrap (r0+((o.2.2.2.2.2).length:Int))))).bind fun x5 =>
(aY x5 r0 ((x5).length:Int)).bind fun x6 =>
some ((x0.1.1,x0.1.2),aI o.2.1 (false,(putAt x5 (r0:Int).toNat ((o.2.2.2.2.2).take (x6).length))) s))
 else (some (x0.1,s))) fun r4=>some (r4.1,r4.2,((o.2.2.2.2.2).length:Int)))) fun r5=>some (r5.1,r5.2.1,(0,r5.2.2)))))) fun r6=>some (r6.1,r6.2.1,(r6.2.2.1,r6.2.2.2)))
 else (some (x0.1,s,(x0.2,0)))) fun r7=>some (r7.1,r7.2.1,(r7.2.2.1,r7.2.2.2))) fun r8=>some ((r8.2.2.1,r8.2.2.2,([]:List UInt8),([]:List (List UInt8))),r8.2.1)
noncomputable def nD (s:(List UInt8)->Option aG) (o:T_api_Op):Option T_api_Answer :=
(lJ s o.2.1).bind fun x0 =>
Option.bind (α:=(aG×(Int×Int×(List UInt8)))) (Option.bind (α:=(aG×(Int×Int×(List UInt8)))) (if x0.2=0 then (if o.2.2.2.1<0 then (some (x0.1,(1,0,([]:List UInt8))))
 else (Option.bind (α:=(aG×(Int×Int×(List UInt8)))) (if o.2.2.2.2.1<0 then (some (x0.1,(1,0,([]:List UInt8))))
 else ((aY x0.1.2 (min o.2.2.2.1 ((x0.1.2).length:Int)) ((x0.1.2).length:Int)).bind fun x1 =>
(aY x1 0 (min (min o.2.2.2.2.1 64) (IntKind.i64.wrap (((x0.1.2).length:Int)-(min o.2.2.2.1 ((x0.1.2).length:Int)))))).bind fun x2 =>
(cloneB x2).bind fun x3 =>
some ((x0.1.1,x0.1.2),(0,((x0.1.2).length:Int),x3)))) fun r0=>some (r0.1,(r0.2.1,r0.2.2.1,r0.2.2.2))))
 else (some (x0.1,(x0.2,0,([]:List UInt8))))) fun r1=>some (r1.1,(r1.2.1,r1.2.2.1,r1.2.2.2))) fun r2=>some (r2.2.1,r2.2.2.1,r2.2.2.2,([]:List (List UInt8)))
noncomputable def gF (s:(List UInt8)->Option aG) (p:List UInt8):Option (List (List UInt8)) :=
dX s (fun l76=>(bW (fun (s0:(List (List UInt8))) (x0:(List UInt8)×aG)=>Option.bind (α:=((List (List UInt8)))) (if x0.1=([47]) then (some s0)
 else ((jT x0.1).bind fun x1 =>
Option.bind (α:=((List (List UInt8)))) (if x1=p then ((oX x0.1).bind fun x2 =>
(aL s0 ([x2])).bind fun x3 =>
some x3)
 else (some s0)) fun r0=>some r0)) fun r1=>some (.inl r1)) ([]) l76).bind (Sum.elim (fun (s0:(List (List UInt8)))=>(sW s0).bind fun x4 =>
some x4) some))
noncomputable def lO (s:(List UInt8)->Option aG) (o:T_api_Op):Option (Int×((List UInt8)->Option aG)) :=
(gL o.2.1).bind fun x0 =>
if x0=0 then ((gL o.2.2.1).bind fun x1 =>
if x1=0 then ((fO s o.2.1).bind fun x2 =>
if x2.2=0 then (if o.2.1=([47]) then (some (96,s))
 else ((lT o.2.1 o.2.2.1).bind fun x3 =>
if x3=true then (some (96,s))
 else ((mJ s o.2.2.1).bind fun x4 =>
if x4=0 then (dX s (fun l141=>(bW (fun (s0:((List UInt8)->Option (List UInt8))) (x5:(List UInt8)×aG)=>Option.bind (α:=(((List UInt8)->Option (List UInt8))) ⊕ (Int×((List UInt8)->Option aG))) ((lT o.2.1 x5.1).bind fun x6 =>
Option.bind (α:=(((List UInt8)->Option (List UInt8))) ⊕ (Int×((List UInt8)->Option aG))) (if x6=true then ((aY x5.1 ((o.2.1).length:Int) ((x5.1).length:Int)).bind fun x7 =>
(aL o.2.2.1 x7).bind fun x8 =>
if 24<(((((aI x5.1 x8 s0) x5.1).getD [])).length:Int) then (some (.inr (90,s)))
 else (some (.inl (aI x5.1 x8 s0))))
 else (some (.inl s0))) fun o0=>Sum.elim (fun r0=>some (.inl r0)) (fun rv=>some (.inr rv)) o0) fun o1=>Sum.elim (fun r1=>some (.inl r1)) (fun rv=>some (.inr rv)) o1) (bG:(List UInt8)->Option (List UInt8)) l141).bind (Sum.elim (fun (s0:((List UInt8)->Option (List UInt8)))=>Option.bind (α:=(((List UInt8)->Option aG))) (dX s0 (fun l166=>(bW (fun (s1:((List UInt8)->Option aG)) (x9:(List UInt8)×(List UInt8))=>some (.inl (bZ x9.1 (aI x9.2 ((s1 x9.1).getD (false,[])) s1)))) s l166).bind (Sum.elim (fun (s1:((List UInt8)->Option aG))=>some s1) some))) fun r2=>some (0,r2)) some)))
 else (some (x4,s)))))
 else (some (x2.2,s)))
 else (some (90,s)))
 else (some (90,s))
noncomputable def nW (s:(List UInt8)->Option aG) (p:List UInt8):Option (Int×((List UInt8)->Option aG)) :=
(fO s p).bind fun x0 =>
if x0.2=0 then (if p=([47]) then (some (96,s))
 else ((gF s p).bind fun x1 =>
if 0<((x1).length:Int) then (some (95,s))
 else (some (0,bZ p s))))
 else (some (x0.2,s))
noncomputable def iY (s:List (List UInt8)):Option (List (List UInt8)) :=
(aL ([]:List (List UInt8)) s).bind fun x0 =>
some x0
noncomputable def oS (s:(List UInt8)->Option aG) (o:T_api_Op):Option T_api_Answer :=
(fO s o.2.1).bind fun x0 =>
Option.bind (α:=(aG×(Int×Int×(List (List UInt8))))) (Option.bind (α:=(aG×(Int×Int×(List (List UInt8))))) (if x0.2=0 then (Option.bind (α:=((Int×Int×(List (List UInt8))))) (if (!x0.1.1)=true then (some (93,0,([]:List (List UInt8))))
 else ((gF s o.2.1).bind fun x1 =>
(pL x1 o.2.2.1).bind fun x2 =>
(aY x2 0 (min ((x2).length:Int) 6)).bind fun x3 =>
(iY x3).bind fun x4 =>
some (0,((x1).length:Int),x4))) fun r0=>some ((x0.1.1,x0.1.2),(r0.1,r0.2.1,r0.2.2)))
 else (some (x0.1,(x0.2,0,([]:List (List UInt8)))))) fun r1=>some (r1.1,(r1.2.1,r1.2.2.1,r1.2.2.2))) fun r2=>some (r2.2.1,r2.2.2.1,([]:List UInt8),r2.2.2.2)
noncomputable def pR (s:(List UInt8)->Option aG) (p:List UInt8):Option T_api_Answer :=
(fO s p).bind fun x0 =>
Option.bind (α:=(aG×(Int×Int×(List UInt8)))) (Option.bind (α:=(aG×(Int×Int×(List UInt8)))) (if x0.2=0 then (Option.bind (α:=((Int×(List UInt8)))) (if x0.1.1=true then ((u8O 100).bind fun x1 =>
(gF s p).bind fun x2 =>
some (((x2).length:Int),[x1]))
 else ((u8O 102).bind fun x3 =>
some (((x0.1.2).length:Int),[x3]))) fun r0=>some ((x0.1.1,x0.1.2),(0,r0.1,r0.2)))
 else (some (x0.1,(x0.2,0,([]:List UInt8))))) fun r1=>some (r1.1,(r1.2.1,r1.2.2.1,r1.2.2.2))) fun r2=>some (r2.2.1,r2.2.2.1,r2.2.2.2,([]:List (List UInt8)))
noncomputable def sDo (s:(List UInt8)->Option aG) (o:T_api_Op):Option (T_api_Answer×((List UInt8)->Option aG)) :=
Option.bind (α:=(Int×((List UInt8)->Option aG)) ⊕ (T_api_Answer×((List UInt8)->Option aG))) (Option.bind (α:=(Bool)) (if o.1=1 then (some (decide (o.1=1)))
 else (some (decide (o.1=2)))) fun r0=>Option.bind (α:=(Int×((List UInt8)->Option aG)) ⊕ (T_api_Answer×((List UInt8)->Option aG))) (if r0=true then ((mJ s o.2.1).bind fun x0 =>
Option.bind (α:=(((List UInt8)->Option aG))) (if x0=0 then (some (aI o.2.1 (decide (o.1=2),([]:List UInt8)) s))
 else (some s)) fun r1=>some (.inl (x0,r1)))
 else (Option.bind (α:=(Bool)) (if o.1=3 then (some (decide (o.1=3)))
 else (some (decide (o.1=4)))) fun r2=>Option.bind (α:=(Int×((List UInt8)->Option aG)) ⊕ (T_api_Answer×((List UInt8)->Option aG))) (if r2=true then ((pV s (o.1,o.2.1,o.2.2.1,o.2.2.2.1,o.2.2.2.2.1,o.2.2.2.2.2)).bind fun x1 =>
some (.inr (x1.1,x1.2)))
 else (Option.bind (α:=(Int×((List UInt8)->Option aG)) ⊕ (T_api_Answer×((List UInt8)->Option aG))) (if o.1=5 then ((nD s (o.1,o.2.1,o.2.2.1,o.2.2.2.1,o.2.2.2.2.1,o.2.2.2.2.2)).bind fun x2 =>
some (.inr (x2,s)))
 else (Option.bind (α:=(Int×((List UInt8)->Option aG)) ⊕ (T_api_Answer×((List UInt8)->Option aG))) (if o.1=6 then ((lO s (o.1,o.2.1,o.2.2.1,o.2.2.2.1,o.2.2.2.2.1,o.2.2.2.2.2)).bind fun x3 =>
some (.inl (x3.1,x3.2)))
 else (Option.bind (α:=(Int×((List UInt8)->Option aG)) ⊕ (T_api_Answer×((List UInt8)->Option aG))) (if o.1=7 then ((nW s o.2.1).bind fun x4 =>
some (.inl (x4.1,x4.2)))
 else (if o.1=8 then ((oS s (o.1,o.2.1,o.2.2.1,o.2.2.2.1,o.2.2.2.2.1,o.2.2.2.2.2)).bind fun x5 =>
some (.inr (x5,s)))
 else (if o.1=9 then ((pR s o.2.1).bind fun x6 =>
some (.inr (x6,s)))
 else (some (.inl (1,s)))))) fun o0=>Sum.elim (fun r3=>some (.inl (r3.1,r3.2))) (fun rv=>some (.inr rv)) o0)) fun o1=>Sum.elim (fun r4=>some (.inl (r4.1,r4.2))) (fun rv=>some (.inr rv)) o1)) fun o2=>Sum.elim (fun r5=>some (.inl (r5.1,r5.2))) (fun rv=>some (.inr rv)) o2)) fun o3=>Sum.elim (fun r6=>some (.inl (r6.1,r6.2))) (fun rv=>some (.inr rv)) o3)) fun o4=>Sum.elim (fun r7=>some (.inl (r7.1,r7.2))) (fun rv=>some (.inr rv)) o4) fun o5=>Sum.elim (fun r8=>some ((r8.1,0,([]:List UInt8),([]:List (List UInt8))),r8.2)) (fun rv=>some rv) o5
noncomputable def lS (list:List T_api_Pair):Option ((List UInt8)->Option aG) :=
Option.bind (α:=(((List UInt8)->Option (List UInt8))×((List UInt8)->Option aG))) (aH (fun (s0:((List UInt8)->Option (List UInt8))×((List UInt8)->Option aG)×Int)=>if s0.2.2<((list).length:Int) then (Option.bind (α:=(((List UInt8)->Option (List UInt8))×((List UInt8)->Option aG))) ((aD list s0.2.2).bind fun x0 =>
Option.bind (α:=((List UInt8)×(List UInt8))) (if 0<((x0.1).length:Int) then ((aY x0.1 0 1).bind fun x1 =>
(aY x0.1 1 ((x0.1).length:Int)).bind fun x2 =>
some (x1,x2))
 else (some ([],[]))) fun r0=>Option.bind (α:=(((List UInt8)->Option (List UInt8))×((List UInt8)->Option aG))) (Option.bind (α:=(((List UInt8)->Option (List UInt8))×((List UInt8)->Option aG))) (if r0.1=([99]) then ((nS r0.2 ([0])).bind fun x3 =>
(aL ((s0.1 x3.1).getD []) x0.2).bind fun x4 =>
some (aI x3.1 x4 s0.1,s0.2.1))
 else (Option.bind (α:=(((List UInt8)->Option aG))) (if r0.1=([110]) then (if ((x0.2).length:Int)=1 then ((aD x0.2 0).bind fun x5 =>
some (aI r0.2 (decide (((x5).toNat:Int)=100),([]:List UInt8)) s0.2.1))
 else (some (aI r0.2 (false,([]:List UInt8)) s0.2.1)))
 else (some s0.2.1)) fun r1=>some (s0.1,r1))) fun r2=>some (r2.1,r2.2)) fun r3=>some (r3.1,r3.2)) fun r4=>some (.inl (r4.1,r4.2,IntKind.i64.wrap (s0.2.2+1))))
 else (some (.inr (s0.1,s0.2.1)))) ((bG:(List UInt8)->Option (List UInt8)),(bG:(List UInt8)->Option aG),0)) fun r5=>dX r5.2 (fun l1109=>(bW (fun (s1:((List UInt8)->Option aG)) (x6:(List UInt8)×aG)=>Option.bind (α:=(((List UInt8)->Option aG))) (Option.bind (α:=(((List UInt8)->Option aG))) (if (!x6.2.1)=true then (some (aI x6.1 (false,((r5.1 x6.1).getD [])) s1))
 else (some s1)) fun r6=>some r6) fun r7=>some (.inl r7)) r5.2 l1109).bind (Sum.elim (fun (s1:((List UInt8)->Option aG))=>some s1) some))
noncomputable def eJ (s:(List UInt8)->Option aG):Option (List T_api_Pair) :=
dX s (fun l733=>(bW (fun (s0:(List T_api_Pair)) (x0:(List UInt8)×aG)=>Option.bind (α:=((List T_api_Pair))) ((aL ([110]) x0.1).bind fun x1 =>
if x0.2.1=true then ((u8O 100).bind fun x2 =>
(aL s0 ([(x1,[x2])])).bind fun x3 =>
some x3)
 else ((u8O 102).bind fun x4 =>
(penRaw ([]:List UInt8) ([x4])).bind fun x5 =>
(penUint x5 (IntKind.u64.wrap (((x0.2.2).length:Int))) 2).bind fun x6 =>
(penData x6.2).bind fun x7 =>
(aL s0 ([(x1,x7.1)])).bind fun x8 =>
(pI 64 (x0.2.2).length).bind fun x9 =>
Option.bind (α:=(Int×(List T_api_Pair)) ⊕ Empty) (bW (fun (s1:Int×(List T_api_Pair)) (x10:List UInt8)=>Option.bind (α:=((List T_api_Pair))) ((aL ([99]) x0.1).bind fun x11 =>
(u8O 0).bind fun x12 =>
(u8O (IntKind.u8.wrap (s1.1))).bind fun x13 =>
(aL x11 ([x12,x13])).bind fun x14 =>
(cloneB x10).bind fun x15 =>
(aL s1.2 ([(x14,x15)])).bind fun x16 =>
some x16) fun r0=>some (.inl (IntKind.i64.wrap (s1.1+1),r0))) (0,x8) (dG x9 x0.2.2)) fun o0=>Sum.elim (fun s1=>some s1.2) (fun r1=>none) o0)) fun r2=>some (.inl r2)) ([]:List T_api_Pair) l733).bind (Sum.elim (fun (s0:(List T_api_Pair))=>(rP s0).bind fun x17 =>
some x17) some))
noncomputable def nV (s:(List UInt8)->Option aG):Option ((List UInt8)->Option aG):=some s
noncomputable def fDo (files:List T_api_Pair) (o:T_api_Op):Option ((List T_api_Pair)×T_api_Answer) :=
(lS files).bind fun x0 =>
(nV x0).bind fun x1 =>
(sDo x0 o).bind fun x2 =>
if x2.1.1=0 then ((eJ x2.2).bind fun x3 =>
some (x3,(x2.1.1,x2.1.2.1,x2.1.2.2.1,x2.1.2.2.2)))
 else ((eJ x1).bind fun x4 =>
some (x4,(x2.1.1,x2.1.2.1,x2.1.2.2.1,x2.1.2.2.2)))
noncomputable def nR (xs:List UInt8) (ys:List UInt8):Option Bool :=
some (decide (xs=ys))
noncomputable def pZ (x0_:T_api_Pair) (x1_:T_api_Pair):Option Bool :=
(nR x0_.1 x1_.1).bind fun x0 =>
if x0=true then ((nR x0_.2 x1_.2).bind fun x1 =>
some x1)
 else (some false)
noncomputable def nP (xs:List T_api_Pair) (ys:List T_api_Pair):Option Bool :=
if ((xs).length:Int)=((ys).length:Int) then (Option.bind (α:=(Unit) ⊕ Bool) (aH (fun (s0:Int)=>if s0<((xs).length:Int) then ((aD xs s0).bind fun x0 =>
(aD ys s0).bind fun x1 =>
(pZ x0 x1).bind fun x2 =>
if (!x2)=true then (some (.inr (.inr false)))
 else (some (.inl (IntKind.i64.wrap (s0+1)))))
 else (some (.inr (.inl ())))) 0) fun o0=>Sum.elim (fun r0=>some true) (fun rv=>some rv) o0)
 else (some false)
noncomputable def gJ (files:List T_api_Pair):Option Int :=
(lS files).bind fun x0 =>
(pQ x0).bind fun x1 =>
if (!x1)=true then (some 22)
 else ((eJ x0).bind fun x2 =>
(nP x2 files).bind fun x3 =>
if (!x3)=true then (some 22)
 else (some 0))
noncomputable def fNew :Option (List T_api_Pair) :=
(eJ (aI ([47]) (true,([]:List UInt8)) (bG:(List UInt8)->Option aG))).bind fun x0 =>
some x0
noncomputable def gX (s:List UInt8):Option (List UInt8) :=
(aL ([]:List UInt8) s).bind fun x0 =>
some x0
noncomputable def uE (a:List UInt8) (b:List UInt8):Option Int:=some (Lib.compareBytes a b)
noncomputable def xA (a:List UInt8) (b:List UInt8):Option Int :=
(uE a b).bind fun x0 =>
some x0
noncomputable def lG (a_:T_api_Snap) (b_:T_api_Snap):Option Int :=
(xA a_.1 b_.1).bind fun x0 =>
some x0
noncomputable def fY (list:List T_api_Pair):Option (List T_api_Pair) :=
Option.bind (α:=((List T_api_Pair))) (aH (fun (s0:(List T_api_Pair)×Int)=>if s0.2<((list).length:Int) then ((aD list s0.2).bind fun x0 =>
(gX x0.1).bind fun x1 =>
(gX x0.2).bind fun x2 =>
(aL s0.1 ([(x1,x2)])).bind fun x3 =>
some (.inl (x3,IntKind.i64.wrap (s0.2+1))))
 else (some (.inr s0.1))) ([],0)) fun r0=>some r0
noncomputable def kH (s:T_api_State):Option T_api_State :=
(fY s.1).bind fun x0 =>
Option.bind (α:=(bX)) (aH (fun (s0:bX×Int)=>if s0.2<((s.2).length:Int) then ((aD s.2 s0.2).bind fun x1 =>
(fY x1.2.2).bind fun x2 =>
(aL s0.1.2 ([(x1.1,x1.2.1,x2)])).bind fun x3 =>
some (.inl ((s0.1.1,x3),IntKind.i64.wrap (s0.2+1))))
 else (some (.inr s0.1))) ((x0,([]:List T_api_Snap)),0)) fun r0=>some (r0.1,r0.2)
noncomputable def pN :Option T_api_State :=
(fNew).bind fun x0 =>
some (x0,([]:List T_api_Snap))
noncomputable def gR (s:T_api_State):Option Int :=
Option.bind (α:=(Int)) (aH (fun (s0:Int×Int)=>if s0.2<((s.2).length:Int) then ((aD s.2 s0.2).bind fun x0 =>
some (.inl (IntKind.i64.wrap (s0.1+(IntKind.i64.wrap (1+((x0.2.2).length:Int)))),IntKind.i64.wrap (s0.2+1))))
 else (some (.inr s0.1))) (((s.1).length:Int),0)) fun r0=>some r0
noncomputable def jJ (s:T_api_State):Option Int :=
(gJ s.1).bind fun x0 =>
if x0=0 then ((gR (s.1,s.2)).bind fun x1 =>
Option.bind (α:=(Bool)) (aH (fun (s0:Bool×Int)=>if s0.2<((s.2).length:Int) then ((aD s.2 s0.2).bind fun x2 =>
if s0.1=true then (some (.inl (true,IntKind.i64.wrap (s0.2+1))))
 else ((gJ x2.2.2).bind fun x3 =>
if x3=0 then ((jL x2.1).bind fun x4 =>
if (!x4)=true then (some (.inl (true,IntKind.i64.wrap (s0.2+1))))
 else (if 0<s0.2 then ((aD s.2 (IntKind.i64.wrap (s0.2-1))).bind fun x5 =>
(lG x5 (x2.1,x2.2.1,x2.2.2)).bind fun x6 =>
some (.inl (decide (0<=x6),IntKind.i64.wrap (s0.2+1))))
 else (some (.inl (false,IntKind.i64.wrap (s0.2+1))))))
 else (some (.inl (true,IntKind.i64.wrap (s0.2+1))))))
 else (some (.inr s0.1))) (decide (48<x1),0)) fun r0=>if r0=true then (some 22)
 else (some 0))
 else (Option.bind (α:=(Unit)) (aH (fun (s1:Int)=>if s1<((s.2).length:Int) then ((aD s.2 s1).bind fun x7 =>
some (.inl (IntKind.i64.wrap (s1+1))))
 else (some (.inr ()))) 0) fun r1=>some 22)
noncomputable def mT (s:T_api_State) (behind:List UInt8):Option T_api_Answer :=
Option.bind (α:=((List (List UInt8)))) (aH (fun (s0:(List (List UInt8))×Int)=>if s0.2<((s.2).length:Int) then (Option.bind (α:=((List (List UInt8)))) ((aD s.2 s0.2).bind fun x0 =>
if (eY x0.1 behind)=true then (Option.bind (α:=((List (List UInt8)))) (if ((s0.1).length:Int)<6 then ((aL s0.1 ([x0.1])).bind fun x1 =>
some x1)
 else (some s0.1)) fun r0=>some r0)
 else (some s0.1)) fun r1=>some (.inl (r1,IntKind.i64.wrap (s0.2+1))))
 else (some (.inr s0.1))) (([]:List (List UInt8)),0)) fun r2=>some (0,((s.2).length:Int),([]:List UInt8),r2)
noncomputable def iB (xs:List T_api_Snap) (t_:T_api_Snap):Option (Int×Bool) :=
Option.bind (α:=(Int)) (aH (fun (s0:Int×Int)=>if s0.1<s0.2 then (Option.bind (α:=(Int×Int)) ((aD xs (IntKind.i64.wrap (cL .u64 (IntKind.u64.wrap (IntKind.i64.wrap (s0.1+s0.2))) 1))).bind fun x0 =>
(lG x0 t_).bind fun x1 =>
Option.bind (α:=(Int×Int)) (if x1<0 then (some (IntKind.i64.wrap ((IntKind.i64.wrap (cL .u64 (IntKind.u64.wrap (IntKind.i64.wrap (s0.1+s0.2))) 1))+1),s0.2))
 else (some (s0.1,IntKind.i64.wrap (cL .u64 (IntKind.u64.wrap (IntKind.i64.wrap (s0.1+s0.2))) 1)))) fun r0=>some (r0.1,r0.2)) fun r1=>some (.inl (r1.1,r1.2)))
 else (some (.inr s0.1))) (0,((xs).length:Int))) fun r2=>if r2<((xs).length:Int) then ((aD xs r2).bind fun x2 =>
(lG x2 t_).bind fun x3 =>
some (r2,decide (x3=0)))
 else (some (r2,false))
noncomputable def iN (s:List T_api_Snap) (i_:Int) (v:List T_api_Snap):Option (List T_api_Snap):=iM s i_ v
noncomputable def iD (s:List T_api_Snap) (i_:Int) (j_:Int):Option (List T_api_Snap):=pX s i_ j_
noncomputable def fP (s:bX) (o:T_api_Op) (gen:Int):Option (Int×bX) :=
(jL o.2.1).bind fun x0 =>
if (!x0)=true then (some (90,s))
 else ((iB s.2 (o.2.1,0,([]:List T_api_Pair))).bind fun x1 =>
Option.bind (α:=(bX) ⊕ (Int×bX)) (if o.1=10 then (Option.bind (α:=(bX) ⊕ (Int×bX)) (if x1.2=true then (some (.inr (92,s)))
 else (Option.bind (α:=(bX) ⊕ (Int×bX)) (if o.1=10 then ((fY s.1).bind fun x2 =>
(iN s.2 x1.1 ([(o.2.1,gen,x2)])).bind fun x3 =>
some (.inl (s.1,x3)))
 else (Option.bind (α:=(bX) ⊕ (Int×bX)) (if (!x1.2)=true then (some (.inr (91,s)))
 else (Option.bind (α:=(bX)) (if o.1=11 then ((iD s.2 x1.1 (IntKind.i64.wrap (x1.1+1))).bind fun x4 =>
some (s.1,x4))
 else ((aD s.2 x1.1).bind fun x5 =>
(fY x5.2.2).bind fun x6 =>
some (x6,s.2))) fun r0=>some (.inl r0))) fun o0=>Sum.elim (fun r1=>some (.inl r1)) (fun rv=>some (.inr rv)) o0)) fun o1=>Sum.elim (fun r2=>some (.inl r2)) (fun rv=>some (.inr rv)) o1)) fun o2=>Sum.elim (fun r3=>some (.inl r3)) (fun rv=>some (.inr rv)) o2)
 else (Option.bind (α:=(bX) ⊕ (Int×bX)) (if o.1=10 then ((fY s.1).bind fun x7 =>
(iN s.2 x1.1 ([(o.2.1,gen,x7)])).bind fun x8 =>
some (.inl (s.1,x8)))
 else (Option.bind (α:=(bX) ⊕ (Int×bX)) (if (!x1.2)=true then (some (.inr (91,s)))
 else (Option.bind (α:=(bX)) (if o.1=11 then ((iD s.2 x1.1 (IntKind.i64.wrap (x1.1+1))).bind fun x9 =>
some (s.1,x9))
 else ((aD s.2 x1.1).bind fun x10 =>
(fY x10.2.2).bind fun x11 =>
some (x11,s.2))) fun r4=>some (.inl r4))) fun o3=>Sum.elim (fun r5=>some (.inl r5)) (fun rv=>some (.inr rv)) o3)) fun o4=>Sum.elim (fun r6=>some (.inl r6)) (fun rv=>some (.inr rv)) o4)) fun o5=>Sum.elim (fun r7=>some (0,r7)) (fun rv=>some rv) o5)
noncomputable def nDo (s:T_api_State) (o:T_api_Op) (gen:Int):Option (T_api_State×T_api_Answer) :=
(kH s).bind fun x0 =>
Option.bind (α:=(bX×T_api_Answer×T_api_State)) (Option.bind (α:=(Bool)) (if o.1=10 then (some (decide (o.1=10)))
 else (Option.bind (α:=(Bool)) (if o.1=11 then (some (decide (o.1=11)))
 else (some (decide (o.1=12)))) fun r0=>some r0)) fun r1=>Option.bind (α:=(bX×T_api_Answer×T_api_State)) (if r1=true then ((fP (x0.1,x0.2) (o.1,o.2.1,o.2.2.1,o.2.2.2.1,o.2.2.2.2.1,o.2.2.2.2.2) gen).bind fun x1 =>
some (x1.2,(x1.1,0,([]:List UInt8),([]:List (List UInt8))),s))
 else (Option.bind (α:=(bX×T_api_Answer×T_api_State)) (if o.1=13 then ((mT s o.2.2.1).bind fun x2 =>
some ((x0.1,x0.2),x2,s))
 else ((fDo s.1 (o.1,o.2.1,o.2.2.1,o.2.2.2.1,o.2.2.2.2.1,o.2.2.2.2.2)).bind fun x3 =>
some ((x3.1,(x0.1,x0.2).2),x3.2,(s.1,s.2)))) fun r2=>some (r2.1,r2.2.1,r2.2.2))) fun r3=>some (r3.1,r3.2.1,r3.2.2)) fun r4=>if r4.2.1.1=0 then ((gR (r4.1.1,r4.1.2)).bind fun x4 =>
Option.bind (α:=((Int×Int×(List UInt8)×(List (List UInt8))))) (if 48<x4 then (some (98,0,([]:List UInt8),([]:List (List UInt8))))
 else (some (r4.2.1.1,r4.2.1.2.1,r4.2.1.2.2.1,r4.2.1.2.2.2))) fun r5=>if r5.1=0 then (some ((r4.1.1,r4.1.2),(r5.1,r5.2.1,r5.2.2.1,r5.2.2.2)))
 else ((kH r4.2.2).bind fun x5 =>
some ((x5.1,x5.2),(r5.1,r5.2.1,r5.2.2.1,r5.2.2.2))))
 else (if r4.2.1.1=0 then (some ((r4.1.1,r4.1.2),(r4.2.1.1,r4.2.1.2.1,r4.2.1.2.2.1,r4.2.1.2.2.2)))
 else ((kH r4.2.2).bind fun x6 =>
some ((x6.1,x6.2),(r4.2.1.1,r4.2.1.2.1,r4.2.1.2.2.1,r4.2.1.2.2.2))))
noncomputable def kK (list:List T_api_Pair):Option (List T_api_Pair) :=
Option.bind (α:=((List T_api_Pair))) (aH (fun (s0:(List T_api_Pair)×Int)=>if s0.2<((list).length:Int) then (Option.bind (α:=((List T_api_Pair))) ((aD list s0.2).bind fun x0 =>
(aD list s0.2).bind fun x1 =>
(aL ([]:List UInt8) x0.1).bind fun x2 =>
(aL ([]:List UInt8) x1.2).bind fun x3 =>
(aL s0.1 ([(x2,x3)])).bind fun x4 =>
some x4) fun r0=>some (.inl (r0,IntKind.i64.wrap (s0.2+1))))
 else (some (.inr s0.1))) (([]:List T_api_Pair),0)) fun r1=>some r1
noncomputable def jO (a_:List T_api_Pair) (b_:List T_api_Pair):Option Bool :=
if ((a_).length:Int)=((b_).length:Int) then (Option.bind (α:=(Unit) ⊕ Bool) (aH (fun (s0:Int)=>if s0<((a_).length:Int) then ((aD a_ s0).bind fun x0 =>
(aD b_ s0).bind fun x1 =>
if x0.1=x1.1 then ((aD a_ s0).bind fun x2 =>
(aD b_ s0).bind fun x3 =>
if x2.2=x3.2 then (some (.inl (IntKind.i64.wrap (s0+1))))
 else (some (.inr (.inr false))))
 else (some (.inr (.inr false))))
 else (some (.inr (.inl ())))) 0) fun o0=>Sum.elim (fun r0=>some true) (fun rv=>some rv) o0)
 else (some false)
noncomputable def gC (list:List T_api_Pair):Option Bool :=
Option.bind (α:=(Int) ⊕ Bool) (aH (fun (s0:Int×Int)=>if s0.2<((list).length:Int) then (if s0.1<=8000 then ((aD list s0.2).bind fun x0 =>
if 8000<((x0.1).length:Int) then (some (.inr (.inr true)))
 else ((aD list s0.2).bind fun x1 =>
if 8000<((x1.2).length:Int) then (some (.inr (.inr true)))
 else ((aD list s0.2).bind fun x2 =>
(aD list s0.2).bind fun x3 =>
some (.inl (IntKind.i64.wrap (s0.1+(IntKind.i64.wrap ((IntKind.i64.wrap (8+((x2.1).length:Int)))+((x3.2).length:Int)))),IntKind.i64.wrap (s0.2+1))))))
 else (some (.inr (.inl s0.1))))
 else (some (.inr (.inl s0.1)))) (0,0)) fun o0=>Sum.elim (fun r0=>some (decide (8000<r0))) (fun rv=>some rv) o0
noncomputable def rGreatOp (o:T_api_Op):Option Bool :=
if 400<((o.2.1).length:Int) then (some true)
 else (if 400<((o.2.2.1).length:Int) then (some true)
 else (some (decide (400<((o.2.2.2.2.2).length:Int)))))
noncomputable def pW (a_:T_api_State) (b_:T_api_State):Option Bool :=
(jO a_.1 b_.1).bind fun x0 =>
if (!x0)=true then (some false)
 else (if ((a_.2).length:Int)=((b_.2).length:Int) then (Option.bind (α:=(Unit) ⊕ Bool) (aH (fun (s0:Int)=>if s0<((a_.2).length:Int) then (Option.bind (α:=(T_api_Snap×T_api_Snap)) ((aD a_.2 s0).bind fun x1 =>
(aD b_.2 s0).bind fun x2 =>
some (x1,x2)) fun r0=>if r0.1.1=r0.2.1 then (if r0.1.2.1=r0.2.2.1 then ((jO r0.1.2.2 r0.2.2.2).bind fun x3 =>
if (!x3)=true then (some (.inr (.inr false)))
 else (some (.inl (IntKind.i64.wrap (s0+1)))))
 else (some (.inr (.inr false))))
 else (some (.inr (.inr false))))
 else (some (.inr (.inl ())))) 0) fun o0=>Sum.elim (fun r1=>some true) (fun rv=>some rv) o0)
 else (some false))
noncomputable def iF (s:T_api_State):Option Bool :=
(gC s.1).bind fun x0 =>
if x0=true then (some true)
 else (if 60<((s.1).length:Int) then (some true)
 else (if 40<((s.2).length:Int) then (some true)
 else (Option.bind (α:=(Unit) ⊕ Bool) (aH (fun (s0:Int)=>if s0<((s.2).length:Int) then ((aD s.2 s0).bind fun x1 =>
(gC x1.2.2).bind fun x2 =>
if x2=true then (some (.inr (.inr true)))
 else ((aD s.2 s0).bind fun x3 =>
if 60<((x3.2.2).length:Int) then (some (.inr (.inr true)))
 else ((aD s.2 s0).bind fun x4 =>
if 50<((x4.1).length:Int) then (some (.inr (.inr true)))
 else (some (.inl (IntKind.i64.wrap (s0+1)))))))
 else (some (.inr (.inl ())))) 0) fun o0=>Sum.elim (fun r0=>some false) (fun rv=>some rv) o0)))
noncomputable def m_triremeref09_Name (x0_:List UInt8):Option Bool :=
if ((x0_).length:Int)<1 then (some false)
 else (if 8<((x0_).length:Int) then (some false)
 else (Option.bind (α:=(Unit) ⊕ Bool) (aH (fun (s0:Int)=>if s0<((x0_).length:Int) then ((aD x0_ s0).bind fun x0 =>
if ((x0).toNat:Int)<33 then (some (.inr (.inr false)))
 else ((aD x0_ s0).bind fun x1 =>
if 126<((x1).toNat:Int) then (some (.inr (.inr false)))
 else ((aD x0_ s0).bind fun x2 =>
if ((x2).toNat:Int)=47 then (some (.inr (.inr false)))
 else (some (.inl (IntKind.i64.wrap (s0+1)))))))
 else (some (.inr (.inl ())))) 0) fun o0=>Sum.elim (fun r0=>some true) (fun rv=>some rv) o0))
noncomputable def m_triremeref09_Split (x0_:List UInt8):Option ((List (List UInt8))×Bool) :=
if x0_=([47]) then (some (([]:List (List UInt8)),true))
 else (if ((x0_).length:Int)<2 then (some (([]:List (List UInt8)),false))
 else (if 24<((x0_).length:Int) then (some (([]:List (List UInt8)),false))
 else ((aD x0_ 0).bind fun x0 =>
if ((x0).toNat:Int)=47 then (Option.bind (α:=((List (List UInt8))) ⊕ ((List (List UInt8))×Bool)) (aH (fun (s0:(List (List UInt8))×Int×Int)=>if s0.2.2<=((x0_).length:Int) then (Option.bind (α:=((List (List UInt8))×Int) ⊕ ((List (List UInt8))×Bool)) (if s0.2.2<((x0_).length:Int) then ((aD x0_ s0.2.2).bind fun x1 =>
if ((x1).toNat:Int)=47 then ((aY x0_ s0.2.1 s0.2.2).bind fun x2 =>
(m_triremeref09_Name x2).bind fun x3 =>
if (!x3)=true then (some (.inr (([]:List (List UInt8)),false)))
 else ((aY x0_ s0.2.1 s0.2.2).bind fun x4 =>
(aL s0.1 ([x4])).bind fun x5 =>
some (.inl (x5,IntKind.i64.wrap (s0.2.2+1)))))
 else (some (.inl (s0.1,s0.2.1))))
 else ((aY x0_ s0.2.1 s0.2.2).bind fun x6 =>
(m_triremeref09_Name x6).bind fun x7 =>
if (!x7)=true then (some (.inr (([]:List (List UInt8)),false)))
 else ((aY x0_ s0.2.1 s0.2.2).bind fun x8 =>
(aL s0.1 ([x8])).bind fun x9 =>
some (.inl (x9,IntKind.i64.wrap (s0.2.2+1)))))) fun o0=>Sum.elim (fun r0=>some (.inl (r0.1,r0.2,IntKind.i64.wrap (s0.2.2+1)))) (fun rv=>some (.inr (.inr rv))) o0)
 else (some (.inr (.inl s0.1)))) (([]:List (List UInt8)),1,1)) fun o1=>Sum.elim (fun r1=>some (r1,true)) (fun rv=>some rv) o1)
 else (some (([]:List (List UInt8)),false)))))
noncomputable def m_triremeref09_Join (x0_:List (List UInt8)):Option (List UInt8) :=
if ((x0_).length:Int)=0 then (some ([47]))
 else (Option.bind (α:=((List UInt8))) (aH (fun (s0:(List UInt8)×Int)=>if s0.2<((x0_).length:Int) then ((aD x0_ s0.2).bind fun x0 =>
(aL ([47]) x0).bind fun x1 =>
(aL s0.1 x1).bind fun x2 =>
some (.inl (x2,IntKind.i64.wrap (s0.2+1))))
 else (some (.inr s0.1))) ([],0)) fun r0=>some r0)
noncomputable def m_triremeref09_Right (x0_:List UInt8):Option Bool :=
(m_triremeref09_Split x0_).bind fun x0 =>
some x0.2
noncomputable def m_triremeref09_Parent (x0_:List UInt8):Option (List UInt8) :=
(m_triremeref09_Split x0_).bind fun x0 =>
if ((x0.1).length:Int)=0 then (some ([]))
 else ((aY x0.1 0 (IntKind.i64.wrap (((x0.1).length:Int)-1))).bind fun x1 =>
(m_triremeref09_Join x1).bind fun x2 =>
some x2)
noncomputable def m_triremeref09_Base (x0_:List UInt8):Option (List UInt8) :=
(m_triremeref09_Split x0_).bind fun x0 =>
if ((x0.1).length:Int)=0 then (some ([]))
 else ((aD x0.1 (IntKind.i64.wrap (((x0.1).length:Int)-1))).bind fun x1 =>
some x1)
noncomputable def m_triremeref09_Within (x0_:List UInt8) (x1_:List UInt8):Option Bool :=
(m_triremeref09_Right x0_).bind fun x0 =>
if (!x0)=true then (some false)
 else ((m_triremeref09_Right x1_).bind fun x1 =>
if (!x1)=true then (some false)
 else (if x0_=([47]) then (some true)
 else (if x0_=x1_ then (some true)
 else (if ((x0_).length:Int)<((x1_).length:Int) then ((aY x1_ 0 ((x0_).length:Int)).bind fun x2 =>
if x2=x0_ then ((aD x1_ ((x0_).length:Int)).bind fun x3 =>
some (decide (((x3).toNat:Int)=47)))
 else (some false))
 else (some false)))))
noncomputable def nC (a_:List (List UInt8)) (b_:List (List UInt8)):Option Bool :=
if ((a_).length:Int)=((b_).length:Int) then (Option.bind (α:=(Unit) ⊕ Bool) (aH (fun (s0:Int)=>if s0<((a_).length:Int) then ((aD a_ s0).bind fun x0 =>
(aD b_ s0).bind fun x1 =>
if x0=x1 then (some (.inl (IntKind.i64.wrap (s0+1))))
 else (some (.inr (.inr false))))
 else (some (.inr (.inl ())))) 0) fun o0=>Sum.elim (fun r0=>some true) (fun rv=>some rv) o0)
 else (some false)
noncomputable def gP (a_:T_api_Answer) (b_:T_api_Answer):Option Bool :=
if a_.1=b_.1 then (if a_.2.1=b_.2.1 then (if a_.2.2.1=b_.2.2.1 then ((nC a_.2.2.2 b_.2.2.2).bind fun x0 =>
some x0)
 else (some false))
 else (some false))
 else (some false)
noncomputable def m_triremeref11_Find (x0_:List T_triremeref11_Node) (x1_:List UInt8):Option Int :=
Option.bind (α:=(Unit) ⊕ Int) (aH (fun (s0:Int)=>if s0<((x0_).length:Int) then ((aD x0_ s0).bind fun x0 =>
if x0.1=x1_ then (some (.inr (.inr s0)))
 else (some (.inl (IntKind.i64.wrap (s0+1)))))
 else (some (.inr (.inl ())))) 0) fun o0=>Sum.elim (fun r0=>some (-1)) (fun rv=>some rv) o0
noncomputable def m_triremeref11_put (x0_:List T_api_Pair) (x1_:T_api_Pair):Option (List T_api_Pair) :=
Option.bind (α:=((List T_api_Pair))) ((aL ([]:List T_api_Pair) x0_).bind fun x0 =>
(aL x0 ([x1_])).bind fun x1 =>
some x1) fun r0=>Option.bind (α:=((List T_api_Pair))) (aH (fun (s0:(List T_api_Pair)×Int)=>if 0<s0.2 then ((aD s0.1 s0.2).bind fun x2 =>
(aD s0.1 (IntKind.i64.wrap (s0.2-1))).bind fun x3 =>
if (aT x2.1 x3.1)=true then ((aD s0.1 s0.2).bind fun x4 =>
(aD s0.1 (IntKind.i64.wrap (s0.2-1))).bind fun x5 =>
(aD s0.1 s0.2).bind fun x6 =>
(aD ((s0.1).set (s0.2:Int).toNat x5) (IntKind.i64.wrap (s0.2-1))).bind fun x7 =>
some (.inl (((s0.1).set (s0.2:Int).toNat x5).set (IntKind.i64.wrap (s0.2-1):Int).toNat x4,IntKind.i64.wrap (s0.2-1))))
 else (some (.inr s0.1)))
 else (some (.inr s0.1))) (r0,IntKind.i64.wrap (((r0).length:Int)-1))) fun r1=>some r1
noncomputable def m_triremeref11_Pairs (x0_:List T_triremeref11_Node):Option (List T_api_Pair) :=
Option.bind (α:=((List T_api_Pair))) (aH (fun (s0:(List T_api_Pair)×Int)=>if s0.2<((x0_).length:Int) then (Option.bind (α:=((List T_api_Pair))) ((aD x0_ s0.2).bind fun x0 =>
if x0.2.1=true then ((aL ([110]) x0.1).bind fun x1 =>
(u8O 100).bind fun x2 =>
(m_triremeref11_put s0.1 (x1,[x2])).bind fun x3 =>
some x3)
 else ((aL ([110]) x0.1).bind fun x4 =>
(kN .i64 ((x0.2.2).length:Int) 256).bind fun x5 =>
(mA ((x0.2.2).length:Int) 256).bind fun x6 =>
(u8O 102).bind fun x7 =>
(u8O (IntKind.u8.wrap (x5))).bind fun x8 =>
(u8O (IntKind.u8.wrap (x6))).bind fun x9 =>
(m_triremeref11_put s0.1 (x4,[x7,x8,x9])).bind fun x10 =>
Option.bind (α:=((List T_api_Pair))) (aH (fun (s1:(List T_api_Pair)×Int)=>if (IntKind.i64.wrap (64*s1.2))<((x0.2.2).length:Int) then (Option.bind (α:=((List T_api_Pair))) (Option.bind (α:=(Int)) (if ((x0.2.2).length:Int)<(IntKind.i64.wrap ((IntKind.i64.wrap (64*s1.2))+64)) then (some ((x0.2.2).length:Int))
 else (some (IntKind.i64.wrap ((IntKind.i64.wrap (64*s1.2))+64)))) fun r0=>Option.bind (α:=((List T_api_Pair))) ((aL ([99]) x0.1).bind fun x11 =>
(aY x0.2.2 (IntKind.i64.wrap (64*s1.2)) r0).bind fun x12 =>
(u8O 0).bind fun x13 =>
(u8O (IntKind.u8.wrap (s1.2))).bind fun x14 =>
(aL x11 ([x13,x14])).bind fun x15 =>
(m_triremeref11_put s1.1 (x15,x12)).bind fun x16 =>
some x16) fun r1=>some r1) fun r2=>some (.inl (r2,IntKind.i64.wrap (s1.2+1))))
 else (some (.inr s1.1))) (x10,0)) fun r3=>some r3)) fun r4=>some (.inl (r4,IntKind.i64.wrap (s0.2+1))))
 else (some (.inr s0.1))) (([]:List T_api_Pair),0)) fun r5=>some r5
noncomputable def m_triremeref11_Look (x0_:List T_triremeref11_Node) (x1_:List UInt8):Option (Int×Int) :=
(m_triremeref09_Split x1_).bind fun x0 =>
if (!x0.2)=true then (some (-1,90))
 else (Option.bind (α:=(Unit) ⊕ (Int×Int)) (aH (fun (s0:Int)=>if s0<((x0.1).length:Int) then ((aY x0.1 0 s0).bind fun x1 =>
(m_triremeref09_Join x1).bind fun x2 =>
(m_triremeref11_Find x0_ x2).bind fun x3 =>
if x3<0 then (some (.inr (.inr (-1,91))))
 else ((aD x0_ x3).bind fun x4 =>
if (!x4.2.1)=true then (some (.inr (.inr (-1,93))))
 else (some (.inl (IntKind.i64.wrap (s0+1))))))
 else (some (.inr (.inl ())))) 0) fun o0=>Sum.elim (fun r0=>(m_triremeref11_Find x0_ x1_).bind fun x5 =>
if x5<0 then (some (-1,91))
 else (some (x5,0))) (fun rv=>some rv) o0)
noncomputable def m_triremeref11_Room (x0_:List T_triremeref11_Node) (x1_:List UInt8):Option Int :=
(m_triremeref09_Right x1_).bind fun x0 =>
if (!x0)=true then (some 90)
 else (if x1_=([47]) then (some 92)
 else ((m_triremeref09_Parent x1_).bind fun x1 =>
(m_triremeref11_Look x0_ x1).bind fun x2 =>
if x2.2=0 then ((aD x0_ x2.1).bind fun x3 =>
if (!x3.2.1)=true then (some 93)
 else ((m_triremeref11_Find x0_ x1_).bind fun x4 =>
if 0<=x4 then (some 92)
 else (some 0)))
 else (some x2.2)))
noncomputable def m_triremeref11_Below (x0_:List T_triremeref11_Node) (x1_:List UInt8):Option (List (List UInt8)) :=
Option.bind (α:=((List (List UInt8)))) (aH (fun (s0:(List (List UInt8))×Int)=>if s0.2<((x0_).length:Int) then (Option.bind (α:=((List (List UInt8)))) ((aD x0_ s0.2).bind fun x0 =>
if x0.1=([47]) then (some s0.1)
 else ((m_triremeref09_Parent x0.1).bind fun x1 =>
if x1=x1_ then ((m_triremeref09_Base x0.1).bind fun x2 =>
(aL s0.1 ([x2])).bind fun x3 =>
Option.bind (α:=((List (List UInt8)))) (aH (fun (s1:(List (List UInt8))×Int)=>if 0<s1.2 then ((aD s1.1 s1.2).bind fun x4 =>
(aD s1.1 (IntKind.i64.wrap (s1.2-1))).bind fun x5 =>
if (aT x4 x5)=true then ((aD s1.1 s1.2).bind fun x6 =>
(aD s1.1 (IntKind.i64.wrap (s1.2-1))).bind fun x7 =>
(aD s1.1 s1.2).bind fun x8 =>
(aD ((s1.1).set (s1.2:Int).toNat x7) (IntKind.i64.wrap (s1.2-1))).bind fun x9 =>
some (.inl (((s1.1).set (s1.2:Int).toNat x7).set (IntKind.i64.wrap (s1.2-1):Int).toNat x6,IntKind.i64.wrap (s1.2-1))))
 else (some (.inr s1.1)))
 else (some (.inr s1.1))) (x3,IntKind.i64.wrap (((x3).length:Int)-1))) fun r0=>some r0)
 else (some s0.1))) fun r1=>some (.inl (r1,IntKind.i64.wrap (s0.2+1))))
 else (some (.inr s0.1))) (([]:List (List UInt8)),0)) fun r2=>some r2
noncomputable def m_triremeref11_resized (x0_:List UInt8) (x1_:Int):Option (List UInt8) :=
Option.bind (α:=((List UInt8))) (aH (fun (s0:(List UInt8)×Int)=>if s0.2<x1_ then (Option.bind (α:=((List UInt8))) (Option.bind (α:=((List UInt8))) (if s0.2<((x0_).length:Int) then ((aD x0_ s0.2).bind fun x0 =>
(u8O ((x0).toNat:Int)).bind fun x1 =>
(aL s0.1 ([x1])).bind fun x2 =>
some x2)
 else ((u8O 0).bind fun x3 =>
(aL s0.1 ([x3])).bind fun x4 =>
some x4)) fun r0=>some r0) fun r1=>some (.inl (r1,IntKind.i64.wrap (s0.2+1))))
 else (some (.inr s0.1))) (([]:List UInt8),0)) fun r2=>some r2
noncomputable def m_triremeref11_no (x0_:List T_triremeref11_Node) (x1_:Int):Option ((List T_triremeref11_Node)×T_api_Answer) :=
some (x0_,(x1_,0,([]:List UInt8),([]:List (List UInt8))))
noncomputable def rChange (list:List T_triremeref11_Node) (oq:T_api_Op):Option ((List T_triremeref11_Node)×T_api_Answer) :=
(m_triremeref11_Look list oq.2.1).bind fun x0 =>
if x0.2=0 then ((aD list x0.1).bind fun x1 =>
if x1.2.1=true then ((m_triremeref11_no list 94).bind fun x2 =>
some (x2.1,x2.2))
 else (Option.bind (α:=(Bool)) (if oq.1=4 then (if oq.1=3 then (some false)
 else (some (decide (oq.2.2.2.2.1<0))))
 else (if oq.2.2.2.1<0 then (some true)
 else (if oq.1=3 then (some false)
 else (some (decide (oq.2.2.2.2.1<0)))))) fun r0=>if r0=true then ((m_triremeref11_no list 1).bind fun x3 =>
some (x3.1,x3.2))
 else (Option.bind (α:=((Int×(List UInt8))×(List UInt8)) ⊕ ((List T_triremeref11_Node)×T_api_Answer)) (Option.bind (α:=((Int×(List UInt8))×(List UInt8)) ⊕ ((List T_triremeref11_Node)×T_api_Answer)) (if oq.1=5 then (Option.bind (α:=((List UInt8))) (aH (fun (s0:(List UInt8)×Int)=>if s0.2<((x1.2.2).length:Int) then (Option.bind (α:=((List UInt8))) (Option.bind (α:=(Bool)) (if oq.2.2.2.1<=s0.2 then (if (IntKind.i64.wrap (s0.2-oq.2.2.2.1))<oq.2.2.2.2.1 then (some (decide ((IntKind.i64.wrap (s0.2-oq.2.2.2.1))<64)))
 else (some false))
 else (some false)) fun r1=>Option.bind (α:=((List UInt8))) (if r1=true then ((aD x1.2.2 s0.2).bind fun x4 =>
(u8O ((x4).toNat:Int)).bind fun x5 =>
(aL s0.1 ([x5])).bind fun x6 =>
some x6)
 else (some s0.1)) fun r2=>some r2) fun r3=>some (.inl (r3,IntKind.i64.wrap (s0.2+1))))
 else (some (.inr s0.1))) (([]:List UInt8),0)) fun r4=>some (.inl ((((x1.2.2).length:Int),r4),x1.2.2)))
 else (Option.bind (α:=(Int×(List UInt8)) ⊕ ((List T_triremeref11_Node)×T_api_Answer)) (if oq.1=4 then (if 192<oq.2.2.2.2.1 then ((m_triremeref11_no list 97).bind fun x7 =>
some (.inr (x7.1,x7.2)))
 else ((m_triremeref11_resized x1.2.2 oq.2.2.2.2.1).bind fun x8 =>
some (.inl (0,x8))))
 else (if 192<oq.2.2.2.1 then ((m_triremeref11_no list 97).bind fun x9 =>
some (.inr (x9.1,x9.2)))
 else (if 192<(IntKind.i64.wrap (oq.2.2.2.1+((oq.2.2.2.2.2).length:Int))) then ((m_triremeref11_no list 97).bind fun x10 =>
some (.inr (x10.1,x10.2)))
 else (Option.bind (α:=((List UInt8))) (aH (fun (s1:(List UInt8)×Int)=>if s1.2<((oq.2.2.2.2.2).length:Int) then (Option.bind (α:=((List UInt8))) (Option.bind (α:=((List UInt8))) (if ((s1.1).length:Int)<=(IntKind.i64.wrap (oq.2.2.2.1+s1.2)) then ((m_triremeref11_resized s1.1 (IntKind.i64.wrap ((IntKind.i64.wrap (oq.2.2.2.1+s1.2))+1))).bind fun x11 =>
some x11)
 else (some s1.1)) fun r5=>Option.bind (α:=((List UInt8))) ((aY r5 0 (IntKind.i64.wrap (oq.2.2.2.1+s1.2))).bind fun x12 =>
(aD oq.2.2.2.2.2 s1.2).bind fun x13 =>
(aY r5 (IntKind.i64.wrap ((IntKind.i64.wrap (oq.2.2.2.1+s1.2))+1)) ((r5).length:Int)).bind fun x14 =>
(aL ([]:List UInt8) x12).bind fun x15 =>
(u8O ((x13).toNat:Int)).bind fun x16 =>
(aL x15 ([x16])).bind fun x17 =>
(aL x17 x14).bind fun x18 =>
some x18) fun r6=>some r6) fun r7=>some (.inl (r7,IntKind.i64.wrap (s1.2+1))))
 else (some (.inr s1.1))) (x1.2.2,0)) fun r8=>some (.inl (((oq.2.2.2.2.2).length:Int),r8)))))) fun o0=>Sum.elim (fun r9=>some (.inl ((r9.1,([]:List UInt8)),r9.2))) (fun rv=>some (.inr rv)) o0)) fun o1=>Sum.elim (fun r10=>some (.inl ((r10.1.1,r10.1.2),r10.2))) (fun rv=>some (.inr rv)) o1) fun o2=>Sum.elim (fun r11=>(aL ([]:List T_triremeref11_Node) list).bind fun x19 =>
(aD x19 x0.1).bind fun x20 =>
some ((x19).set (x0.1:Int).toNat (x1.1,false,r11.2),(0,r11.1.1,r11.1.2,([]:List (List UInt8))))) (fun rv=>some rv) o2)))
 else ((m_triremeref11_no list x0.2).bind fun x21 =>
some (x21.1,x21.2))
noncomputable def m_triremeref11_rename (x0_:List T_triremeref11_Node) (x1_:T_api_Op):Option ((List T_triremeref11_Node)×T_api_Answer) :=
(m_triremeref09_Right x1_.2.1).bind fun x0 =>
if (!x0)=true then ((m_triremeref11_no x0_ 90).bind fun x1 =>
some (x1.1,x1.2))
 else ((m_triremeref09_Right x1_.2.2.1).bind fun x2 =>
if (!x2)=true then ((m_triremeref11_no x0_ 90).bind fun x3 =>
some (x3.1,x3.2))
 else ((m_triremeref11_Look x0_ x1_.2.1).bind fun x4 =>
if x4.2=0 then (if x1_.2.1=([47]) then ((m_triremeref11_no x0_ 96).bind fun x5 =>
some (x5.1,x5.2))
 else ((m_triremeref09_Within x1_.2.1 x1_.2.2.1).bind fun x6 =>
if x6=true then ((m_triremeref11_no x0_ 96).bind fun x7 =>
some (x7.1,x7.2))
 else ((m_triremeref11_Room x0_ x1_.2.2.1).bind fun x8 =>
if x8=0 then (Option.bind (α:=((List T_triremeref11_Node)) ⊕ ((List T_triremeref11_Node)×T_api_Answer)) (aH (fun (s0:(List T_triremeref11_Node)×Int)=>if s0.2<((x0_).length:Int) then (Option.bind (α:=((List T_triremeref11_Node)) ⊕ ((List T_triremeref11_Node)×T_api_Answer)) ((aD x0_ s0.2).bind fun x9 =>
(m_triremeref09_Within x1_.2.1 x9.1).bind fun x10 =>
Option.bind (α:=((List UInt8)) ⊕ ((List T_triremeref11_Node)×T_api_Answer)) (if x10=true then ((aY x9.1 ((x1_.2.1).length:Int) ((x9.1).length:Int)).bind fun x11 =>
(aL x1_.2.2.1 x11).bind fun x12 =>
if 24<((x12).length:Int) then ((m_triremeref11_no x0_ 90).bind fun x13 =>
some (.inr (x13.1,x13.2)))
 else (some (.inl x12)))
 else (some (.inl x9.1))) fun o0=>Sum.elim (fun r0=>(aL s0.1 ([(r0,x9.2.1,x9.2.2)])).bind fun x14 =>
some (.inl x14)) (fun rv=>some (.inr rv)) o0) fun o1=>Sum.elim (fun r1=>some (.inl (r1,IntKind.i64.wrap (s0.2+1)))) (fun rv=>some (.inr (.inr rv))) o1)
 else (some (.inr (.inl s0.1)))) (([]:List T_triremeref11_Node),0)) fun o2=>Sum.elim (fun r2=>some (r2,(0,0,([]:List UInt8),([]:List (List UInt8))))) (fun rv=>some rv) o2)
 else ((m_triremeref11_no x0_ x8).bind fun x15 =>
some (x15.1,x15.2)))))
 else ((m_triremeref11_no x0_ x4.2).bind fun x16 =>
some (x16.1,x16.2))))
noncomputable def m_triremeref11_Do (x0_:List T_triremeref11_Node) (x1_:T_api_Op):Option ((List T_triremeref11_Node)×T_api_Answer) :=
Option.bind (α:=(Unit) ⊕ ((List T_triremeref11_Node)×T_api_Answer)) (Option.bind (α:=(Bool)) (if x1_.1=1 then (some (decide (x1_.1=1)))
 else (some (decide (x1_.1=2)))) fun r0=>Option.bind (α:=(Unit) ⊕ ((List T_triremeref11_Node)×T_api_Answer)) (if r0=true then ((m_triremeref11_Room x0_ x1_.2.1).bind fun x0 =>
if x0=0 then (Option.bind (α:=((List T_triremeref11_Node))) ((aL ([]:List T_triremeref11_Node) x0_).bind fun x1 =>
(aL x1 ([(x1_.2.1,decide (x1_.1=2),([]:List UInt8))])).bind fun x2 =>
some x2) fun r1=>some (.inr (r1,(0,0,([]:List UInt8),([]:List (List UInt8))))))
 else ((m_triremeref11_no x0_ x0).bind fun x3 =>
some (.inr (x3.1,x3.2))))
 else (Option.bind (α:=(Bool)) (if x1_.1=3 then (some (decide (x1_.1=3)))
 else (Option.bind (α:=(Bool)) (if x1_.1=4 then (some (decide (x1_.1=4)))
 else (some (decide (x1_.1=5)))) fun r2=>some r2)) fun r3=>Option.bind (α:=(Unit) ⊕ ((List T_triremeref11_Node)×T_api_Answer)) (if r3=true then ((rChange x0_ (x1_.1,x1_.2.1,x1_.2.2.1,x1_.2.2.2.1,x1_.2.2.2.2.1,x1_.2.2.2.2.2)).bind fun x4 =>
some (.inr (x4.1,x4.2)))
 else (Option.bind (α:=(Unit) ⊕ ((List T_triremeref11_Node)×T_api_Answer)) (if x1_.1=6 then ((m_triremeref11_rename x0_ (x1_.1,x1_.2.1,x1_.2.2.1,x1_.2.2.2.1,x1_.2.2.2.2.1,x1_.2.2.2.2.2)).bind fun x5 =>
some (.inr (x5.1,x5.2)))
 else (Option.bind (α:=(Bool)) (if x1_.1=7 then (some (decide (x1_.1=7)))
 else (Option.bind (α:=(Bool)) (if x1_.1=8 then (some (decide (x1_.1=8)))
 else (some (decide (x1_.1=9)))) fun r4=>some r4)) fun r5=>if r5=true then (some (.inl ()))
 else ((m_triremeref11_no x0_ 1).bind fun x6 =>
some (.inr (x6.1,x6.2))))) fun o0=>Sum.elim (fun r6=>some (.inl ())) (fun rv=>some (.inr rv)) o0)) fun o1=>Sum.elim (fun r7=>some (.inl ())) (fun rv=>some (.inr rv)) o1)) fun o2=>Sum.elim (fun r8=>some (.inl ())) (fun rv=>some (.inr rv)) o2) fun o3=>Sum.elim (fun r9=>(m_triremeref11_Look x0_ x1_.2.1).bind fun x7 =>
if x7.2=0 then (Option.bind (α:=(T_triremeref11_Node×(List (List UInt8)))) ((aD x0_ x7.1).bind fun x8 =>
(m_triremeref11_Below x0_ x1_.2.1).bind fun x9 =>
some (x8,x9)) fun r10=>if x1_.1=9 then (if r10.1.2.1=true then ((u8O 100).bind fun x10 =>
some (x0_,(0,((r10.2).length:Int),[x10],([]:List (List UInt8)))))
 else ((u8O 102).bind fun x11 =>
some (x0_,(0,((r10.1.2.2).length:Int),[x11],([]:List (List UInt8))))))
 else (if x1_.1=8 then (if (!r10.1.2.1)=true then ((m_triremeref11_no x0_ 93).bind fun x12 =>
some (x12.1,x12.2))
 else (Option.bind (α:=((List (List UInt8)))) (aH (fun (s0:(List (List UInt8))×Int)=>if s0.2<((r10.2).length:Int) then (Option.bind (α:=((List (List UInt8)))) ((aD r10.2 s0.2).bind fun x13 =>
if (eY x13 x1_.2.2.1)=true then (Option.bind (α:=((List (List UInt8)))) (if ((s0.1).length:Int)<6 then ((aD r10.2 s0.2).bind fun x14 =>
(aL s0.1 ([x14])).bind fun x15 =>
some x15)
 else (some s0.1)) fun r11=>some r11)
 else (some s0.1)) fun r12=>some (.inl (r12,IntKind.i64.wrap (s0.2+1))))
 else (some (.inr s0.1))) (([]:List (List UInt8)),0)) fun r13=>some (x0_,(0,((r10.2).length:Int),([]:List UInt8),r13))))
 else (if x1_.2.1=([47]) then ((m_triremeref11_no x0_ 96).bind fun x16 =>
some (x16.1,x16.2))
 else (if 0<((r10.2).length:Int) then ((m_triremeref11_no x0_ 95).bind fun x17 =>
some (x17.1,x17.2))
 else ((aY x0_ 0 x7.1).bind fun x18 =>
(aY x0_ (IntKind.i64.wrap (x7.1+1)) ((x0_).length:Int)).bind fun x19 =>
(aL ([]:List T_triremeref11_Node) x18).bind fun x20 =>
(aL x20 x19).bind fun x21 =>
some (x21,(0,0,([]:List UInt8),([]:List (List UInt8)))))))))
 else ((m_triremeref11_no x0_ x7.2).bind fun x22 =>
some (x22.1,x22.2))) (fun rv=>some rv) o3
noncomputable def rUnits (s:T_triremeref12_State):Option Int :=
(m_triremeref11_Pairs s.1).bind fun x0 =>
Option.bind (α:=(Int)) (aH (fun (s0:Int×Int)=>if s0.2<((s.2).length:Int) then ((aD s.2 s0.2).bind fun x1 =>
(m_triremeref11_Pairs x1.2.2).bind fun x2 =>
some (.inl (IntKind.i64.wrap (s0.1+(IntKind.i64.wrap (1+((x2).length:Int)))),IntKind.i64.wrap (s0.2+1))))
 else (some (.inr s0.1))) (((x0).length:Int),0)) fun r0=>some r0
noncomputable def rWriteS (s:T_triremeref12_State):Option T_api_State :=
(m_triremeref11_Pairs s.1).bind fun x0 =>
Option.bind (α:=(bX)) (aH (fun (s0:bX×Int)=>if s0.2<((s.2).length:Int) then ((aD s.2 s0.2).bind fun x1 =>
(m_triremeref11_Pairs x1.2.2).bind fun x2 =>
(aL s0.1.2 ([(x1.1,x1.2.1,x2)])).bind fun x3 =>
some (.inl ((s0.1.1,x3),IntKind.i64.wrap (s0.2+1))))
 else (some (.inr s0.1))) ((x0,([]:List T_api_Snap)),0)) fun r0=>some (r0.1,r0.2)
noncomputable def rFindS (s:T_triremeref12_State) (name:List UInt8):Option Int :=
Option.bind (α:=(T_triremeref12_State) ⊕ Int) (aH (fun (s0:T_triremeref12_State×Int)=>if s0.2<((s0.1.2).length:Int) then ((aD s0.1.2 s0.2).bind fun x0 =>
if x0.1=name then (some (.inr (.inr s0.2)))
 else (some (.inl ((s0.1.1,s0.1.2),IntKind.i64.wrap (s0.2+1)))))
 else (some (.inr (.inl (s0.1.1,s0.1.2))))) (s,0)) fun o0=>Sum.elim (fun r0=>some (-1)) (fun rv=>some rv) o0
noncomputable def rSnap (s:T_triremeref12_State) (oq:T_api_Op) (gen:Int):Option (T_triremeref12_State×Int) :=
(m_triremeref09_Name oq.2.1).bind fun x0 =>
if (!x0)=true then (some (s,90))
 else ((rFindS s oq.2.1).bind fun x1 =>
Option.bind (α:=(T_triremeref12_State×T_triremeref12_State_o)) ((aL ([]:List T_triremeref12_Snap) s.2).bind fun x2 =>
some ((s.1,s.2),(s.1,x2))) fun r0=>if oq.1=10 then (if 0<=x1 then (some (r0.1,92))
 else ((aL r0.2.2 ([(oq.2.1,gen,r0.1.1)])).bind fun x3 =>
Option.bind (α:=(T_triremeref12_State_o)) (aH (fun (s0:T_triremeref12_State_o×Int)=>if 0<s0.2 then ((aD s0.1.2 s0.2).bind fun x4 =>
(aD s0.1.2 (IntKind.i64.wrap (s0.2-1))).bind fun x5 =>
if (aT x4.1 x5.1)=true then ((aD s0.1.2 s0.2).bind fun x6 =>
(aD s0.1.2 (IntKind.i64.wrap (s0.2-1))).bind fun x7 =>
(aD s0.1.2 s0.2).bind fun x8 =>
(aD ((s0.1.2).set (s0.2:Int).toNat x7) (IntKind.i64.wrap (s0.2-1))).bind fun x9 =>
some (.inl ((s0.1.1,((s0.1.2).set (s0.2:Int).toNat x7).set (IntKind.i64.wrap (s0.2-1):Int).toNat x6),IntKind.i64.wrap (s0.2-1))))
 else (some (.inr s0.1)))
 else (some (.inr s0.1))) ((r0.2.1,x3),IntKind.i64.wrap (((x3).length:Int)-1))) fun r1=>some ((r1.1,r1.2),0)))
 else (if x1<0 then (some (r0.1,91))
 else (if oq.1=12 then ((aD r0.1.2 x1).bind fun x10 =>
some ((x10.2.2,r0.2.2),0))
 else ((aY r0.1.2 0 x1).bind fun x11 =>
(aY r0.1.2 (IntKind.i64.wrap (x1+1)) ((r0.1.2).length:Int)).bind fun x12 =>
(aL ([]:List T_triremeref12_Snap) x11).bind fun x13 =>
(aL x13 x12).bind fun x14 =>
some ((r0.2.1,x14),0)))))
noncomputable def rDoS (s:T_triremeref12_State) (oq:T_api_Op) (gen:Int):Option (T_triremeref12_State×T_api_Answer) :=
Option.bind (α:=(T_api_Answer×T_triremeref12_State×T_triremeref12_State)) (Option.bind (α:=(Bool)) (if oq.1=10 then (some (decide (oq.1=10)))
 else (Option.bind (α:=(Bool)) (if oq.1=11 then (some (decide (oq.1=11)))
 else (some (decide (oq.1=12)))) fun r0=>some r0)) fun r1=>Option.bind (α:=(T_api_Answer×T_triremeref12_State×T_triremeref12_State)) (if r1=true then ((rSnap s (oq.1,oq.2.1,oq.2.2.1,oq.2.2.2.1,oq.2.2.2.2.1,oq.2.2.2.2.2) gen).bind fun x0 =>
some ((x0.2,0,([]:List UInt8),([]:List (List UInt8))),x0.1,s))
 else (Option.bind (α:=(T_api_Answer×T_triremeref12_State×T_triremeref12_State)) (if oq.1=13 then (Option.bind (α:=((List (List UInt8)))) (aH (fun (s0:(List (List UInt8))×Int)=>if s0.2<((s.2).length:Int) then (Option.bind (α:=((List (List UInt8)))) ((aD s.2 s0.2).bind fun x1 =>
if (eY x1.1 oq.2.2.1)=true then (Option.bind (α:=((List (List UInt8)))) (if ((s0.1).length:Int)<6 then ((aD s.2 s0.2).bind fun x2 =>
(aL s0.1 ([x2.1])).bind fun x3 =>
some x3)
 else (some s0.1)) fun r2=>some r2)
 else (some s0.1)) fun r3=>some (.inl (r3,IntKind.i64.wrap (s0.2+1))))
 else (some (.inr s0.1))) (([]:List (List UInt8)),0)) fun r4=>some ((0,((s.2).length:Int),([]:List UInt8),r4),(s.1,s.2),(s.1,s.2)))
 else ((m_triremeref11_Do s.1 (oq.1,oq.2.1,oq.2.2.1,oq.2.2.2.1,oq.2.2.2.2.1,oq.2.2.2.2.2)).bind fun x4 =>
some (x4.2,(x4.1,s.2),(s.1,s.2)))) fun r5=>some (r5.1,r5.2.1,r5.2.2))) fun r6=>some (r6.1,r6.2.1,r6.2.2)) fun r7=>if r7.1.1=0 then ((rUnits r7.2.1).bind fun x5 =>
if 48<x5 then (some (r7.2.2,(98,0,([]:List UInt8),([]:List (List UInt8)))))
 else (if r7.1.1=0 then (some (r7.2.1,(r7.1.1,r7.1.2.1,r7.1.2.2.1,r7.1.2.2.2)))
 else (some (r7.2.2,(r7.1.1,0,([]:List UInt8),([]:List (List UInt8)))))))
 else (if r7.1.1=0 then (some (r7.2.1,(r7.1.1,r7.1.2.1,r7.1.2.2.1,r7.1.2.2.2)))
 else (some (r7.2.2,(r7.1.1,0,([]:List UInt8),([]:List (List UInt8))))))
noncomputable def rFindO (list:List T_triremeref11_Node) (p:List UInt8):Option Int :=
Option.bind (α:=(Unit) ⊕ Int) (aH (fun (s0:Int)=>if s0<((list).length:Int) then ((aD list s0).bind fun x0 =>
if x0.1=p then (some (.inr (.inr s0)))
 else (some (.inl (IntKind.i64.wrap (s0+1)))))
 else (some (.inr (.inl ())))) 0) fun o0=>Sum.elim (fun r0=>some (-1)) (fun rv=>some rv) o0
noncomputable def kP (oq:T_api_Op):Option T_api_Op :=
(aL ([]:List UInt8) oq.2.2.2.2.2).bind fun x0 =>
some (oq.1,oq.2.1,oq.2.2.1,oq.2.2.2.1,oq.2.2.2.2.1,x0)
noncomputable def oF (list:List T_api_Pair):Option Bool :=
Option.bind (α:=(Unit) ⊕ Bool) (aH (fun (s0:Int)=>if s0<((list).length:Int) then ((aD list (IntKind.i64.wrap (s0-1))).bind fun x0 =>
(aD list s0).bind fun x1 =>
if (mL x0.1 x1.1)=true then (some (.inr (.inr false)))
 else (some (.inl (IntKind.i64.wrap (s0+1)))))
 else (some (.inr (.inl ())))) 1) fun o0=>Sum.elim (fun r0=>some true) (fun rv=>some rv) o0
noncomputable def rNodes (pairs:List T_api_Pair):Option ((List T_triremeref11_Node)×Bool) :=
Option.bind (α:=((List T_triremeref11_Node))) (aH (fun (s0:(List T_triremeref11_Node)×Int)=>if s0.2<((pairs).length:Int) then (Option.bind (α:=((List T_triremeref11_Node))) ((aD pairs s0.2).bind fun x0 =>
(aD pairs s0.2).bind fun x1 =>
if ((x0.1).length:Int)<1 then (some s0.1)
 else ((aD x0.1 0).bind fun x2 =>
if ((x2).toNat:Int)=110 then (if ((x1.2).length:Int)<1 then (some s0.1)
 else ((aY x0.1 1 ((x0.1).length:Int)).bind fun x3 =>
(aL s0.1 ([(x3,decide (x1.2=([100])),([]:List UInt8))])).bind fun x4 =>
some x4))
 else (some s0.1))) fun r0=>some (.inl (r0,IntKind.i64.wrap (s0.2+1))))
 else (some (.inr s0.1))) (([]:List T_triremeref11_Node),0)) fun r1=>Option.bind (α:=((List T_triremeref11_Node)) ⊕ ((List T_triremeref11_Node)×Bool)) (aH (fun (s1:(List T_triremeref11_Node)×Int)=>if s1.2<((pairs).length:Int) then (Option.bind (α:=((List T_triremeref11_Node)) ⊕ ((List T_triremeref11_Node)×Bool)) ((aD pairs s1.2).bind fun x5 =>
if ((x5.1).length:Int)<3 then (some (.inl s1.1))
 else ((aD x5.1 0).bind fun x6 =>
if ((x6).toNat:Int)=99 then ((aY x5.1 1 (IntKind.i64.wrap (((x5.1).length:Int)-2))).bind fun x7 =>
(rFindO s1.1 x7).bind fun x8 =>
if x8<0 then (some (.inr (s1.1,false)))
 else ((aD s1.1 x8).bind fun x9 =>
if x9.2.1=true then (some (.inr (s1.1,false)))
 else ((aD s1.1 x8).bind fun x10 =>
(aD pairs s1.2).bind fun x11 =>
(aL ([]:List UInt8) x10.2.2).bind fun x12 =>
(aL x12 x11.2).bind fun x13 =>
(aD s1.1 x8).bind fun x14 =>
some (.inl ((s1.1).set (x8:Int).toNat (x14.1,x14.2.1,x13))))))
 else (some (.inl s1.1)))) fun o0=>Sum.elim (fun r2=>some (.inl (r2,IntKind.i64.wrap (s1.2+1)))) (fun rv=>some (.inr (.inr rv))) o0)
 else (some (.inr (.inl s1.1)))) (r1,0)) fun o1=>Sum.elim (fun r3=>Option.bind (α:=(Unit) ⊕ ((List T_triremeref11_Node)×Bool)) (aH (fun (s2:Int)=>if s2<((r3).length:Int) then (Option.bind (α:=(Unit) ⊕ ((List T_triremeref11_Node)×Bool)) ((aD r3 s2).bind fun x15 =>
(m_triremeref09_Right x15.1).bind fun x16 =>
if (!x16)=true then (some (.inr (r3,false)))
 else (if 192<((x15.2.2).length:Int) then (some (.inr (r3,false)))
 else (if x15.1=([47]) then (if (!x15.2.1)=true then (some (.inr (r3,false)))
 else (some (.inl ())))
 else ((m_triremeref09_Parent x15.1).bind fun x17 =>
(rFindO r3 x17).bind fun x18 =>
if x18<0 then (some (.inr (r3,false)))
 else ((aD r3 x18).bind fun x19 =>
if (!x19.2.1)=true then (some (.inr (r3,false)))
 else (some (.inl ()))))))) fun o2=>Sum.elim (fun r4=>some (.inl (IntKind.i64.wrap (s2+1)))) (fun rv=>some (.inr (.inr rv))) o2)
 else (some (.inr (.inl ())))) 0) fun o3=>Sum.elim (fun r5=>(rFindO r3 ([47])).bind fun x20 =>
if 0<=x20 then ((oF pairs).bind fun x21 =>
if x21=true then ((m_triremeref11_Pairs r3).bind fun x22 =>
(jO x22 pairs).bind fun x23 =>
some (r3,x23))
 else (some (r3,false)))
 else (some (r3,false))) (fun rv=>some rv) o3) (fun rv=>some rv) o1
noncomputable def rReadS (s:T_api_State):Option (T_triremeref12_State×Bool) :=
(rNodes s.1).bind fun x0 =>
Option.bind (α:=(T_triremeref12_State_o×Bool)) (aH (fun (s0:T_triremeref12_State_o×Bool×Int)=>if s0.2.2<((s.2).length:Int) then ((aD s.2 s0.2.2).bind fun x1 =>
(rNodes x1.2.2).bind fun x2 =>
if s0.2.1=true then (if x2.2=true then ((m_triremeref09_Name x1.1).bind fun x3 =>
if x3=true then (if s0.2.2=0 then ((aL s0.1.2 ([(x1.1,x1.2.1,x2.1)])).bind fun x4 =>
some (.inl ((s0.1.1,x4),true,IntKind.i64.wrap (s0.2.2+1))))
 else ((aD s.2 (IntKind.i64.wrap (s0.2.2-1))).bind fun x5 =>
(aL s0.1.2 ([(x1.1,x1.2.1,x2.1)])).bind fun x6 =>
some (.inl ((s0.1.1,x6),aT x5.1 x1.1,IntKind.i64.wrap (s0.2.2+1)))))
 else ((aL s0.1.2 ([(x1.1,x1.2.1,x2.1)])).bind fun x7 =>
some (.inl ((s0.1.1,x7),false,IntKind.i64.wrap (s0.2.2+1)))))
 else ((aL s0.1.2 ([(x1.1,x1.2.1,x2.1)])).bind fun x8 =>
some (.inl ((s0.1.1,x8),false,IntKind.i64.wrap (s0.2.2+1)))))
 else ((aL s0.1.2 ([(x1.1,x1.2.1,x2.1)])).bind fun x9 =>
some (.inl ((s0.1.1,x9),false,IntKind.i64.wrap (s0.2.2+1)))))
 else (some (.inr (s0.1,s0.2.1)))) ((x0.1,([]:List T_triremeref12_Snap)),x0.2,0)) fun r0=>if r0.2=true then ((rUnits (r0.1.1,r0.1.2)).bind fun x10 =>
some ((r0.1.1,r0.1.2),decide (x10<=48)))
 else (some ((r0.1.1,r0.1.2),false))
noncomputable def nM (s:T_api_State):Option T_api_State :=
(kK s.1).bind fun x0 =>
Option.bind (α:=(bX)) (aH (fun (s0:bX×Int)=>if s0.2<((s.2).length:Int) then ((aD s.2 s0.2).bind fun x1 =>
(kK x1.2.2).bind fun x2 =>
(aL s0.1.2 ([(x1.1,x1.2.1,x2)])).bind fun x3 =>
some (.inl ((s0.1.1,x3),IntKind.i64.wrap (s0.2+1))))
 else (some (.inr s0.1))) ((x0,([]:List T_api_Snap)),0)) fun r0=>some (r0.1,r0.2)
noncomputable def penText (p:T_pack_Pen_o) (b:List UInt8):Option (Int×T_pack_Pen_o) :=
(penUint p (IntKind.u64.wrap (((b).length:Int))) 2).bind fun x0 =>
if x0.1=0 then ((penRaw x0.2 b).bind fun x1 =>
some (0,x1))
 else (some (23,x0.2))
noncomputable def mE (x:Int):Option Bool :=
some (!decide (x=x))
noncomputable def rT (x:Int) (y:Int):Option Int :=
(mE x).bind fun x0 =>
(mE y).bind fun x1 =>
if x0=true then (if x1=true then (some 0)
 else (some (-1)))
 else (if x1=true then (some 1)
 else (if x<y then (some (-1))
 else (if y<x then (some 1)
 else (some 0))))
noncomputable def gH (a_:T_api_Seat) (b_:T_api_Seat):Option Int :=
(rT a_.1 b_.1).bind fun x0 =>
some x0
noncomputable def nH (xs:List T_api_Seat) (t_:T_api_Seat):Option (Int×Bool) :=
Option.bind (α:=(Int)) (aH (fun (s0:Int×Int)=>if s0.1<s0.2 then (Option.bind (α:=(Int×Int)) ((aD xs (IntKind.i64.wrap (cL .u64 (IntKind.u64.wrap (IntKind.i64.wrap (s0.1+s0.2))) 1))).bind fun x0 =>
(gH x0 t_).bind fun x1 =>
Option.bind (α:=(Int×Int)) (if x1<0 then (some (IntKind.i64.wrap ((IntKind.i64.wrap (cL .u64 (IntKind.u64.wrap (IntKind.i64.wrap (s0.1+s0.2))) 1))+1),s0.2))
 else (some (s0.1,IntKind.i64.wrap (cL .u64 (IntKind.u64.wrap (IntKind.i64.wrap (s0.1+s0.2))) 1)))) fun r0=>some (r0.1,r0.2)) fun r1=>some (.inl (r1.1,r1.2)))
 else (some (.inr s0.1))) (0,((xs).length:Int))) fun r2=>if r2<((xs).length:Int) then ((aD xs r2).bind fun x2 =>
(gH x2 t_).bind fun x3 =>
some (r2,decide (x3=0)))
 else (some (r2,false))
noncomputable def jB (seats:List T_api_Seat) (client:Int):Option (Int×Bool) :=
(nH seats (client,0,(0,0,([]:List UInt8),([]:List (List UInt8))))).bind fun x0 =>
some (x0.1,x0.2)
noncomputable def mG (n:Int):Option Bool :=
if 0<=n then (some (decide (n<=65535)))
 else (some false)
noncomputable def oR (s:List UInt8):Option Bool :=
if s=([]) then (some true)
 else (some (decide (8<((s).length:Int))))
noncomputable def oP (s:List (List UInt8)):Option Int :=
Option.bind (α:=(Unit) ⊕ Int) (aH (fun (s0:Int)=>if s0<((s).length:Int) then ((aD s s0).bind fun x0 =>
(oR x0).bind fun x1 =>
if x1=true then (some (.inr (.inr s0)))
 else (some (.inl (IntKind.i64.wrap (s0+1)))))
 else (some (.inr (.inl ())))) 0) fun o0=>Sum.elim (fun r0=>some (-1)) (fun rv=>some rv) o0
noncomputable def pG (s:List (List UInt8)):Option Bool :=
(oP s).bind fun x0 =>
some (decide (0<=x0))
noncomputable def pH (a_:T_api_Answer):Option ((List UInt8)×Int) :=
(mG a_.1).bind fun x0 =>
if (!x0)=true then (some (([]:List UInt8),1))
 else ((mG a_.2.1).bind fun x1 =>
if (!x1)=true then (some (([]:List UInt8),1))
 else (if 64<((a_.2.2.1).length:Int) then (some (([]:List UInt8),1))
 else (if 6<((a_.2.2.2).length:Int) then (some (([]:List UInt8),1))
 else ((pG a_.2.2.2).bind fun x2 =>
if x2=true then (some (([]:List UInt8),1))
 else ((penUint ([]:List UInt8) (IntKind.u64.wrap (a_.1)) 2).bind fun x3 =>
(penUint x3.2 (IntKind.u64.wrap (a_.2.1)) 2).bind fun x4 =>
(penText x4.2 a_.2.2.1).bind fun x5 =>
(penUint x5.2 (IntKind.u64.wrap (((a_.2.2.2).length:Int))) 1).bind fun x6 =>
Option.bind (α:=(T_pack_Pen_o)) (aH (fun (s0:T_pack_Pen_o×Int)=>if s0.2<((a_.2.2.2).length:Int) then ((aD a_.2.2.2 s0.2).bind fun x7 =>
(penText s0.1 x7).bind fun x8 =>
some (.inl (x8.2,IntKind.i64.wrap (s0.2+1))))
 else (some (.inr s0.1))) (x6.2,0)) fun r0=>(penData r0).bind fun x9 =>
some (x9.1,0))))))
noncomputable def oC (s:List T_api_Seat) (i_:Int) (v:List T_api_Seat):Option (List T_api_Seat):=iM s i_ v
noncomputable def fU (xs:List T_api_Seat) (t_:T_api_Seat):Option (Int×Bool) :=
Option.bind (α:=(Int)) (aH (fun (s0:Int×Int)=>if s0.1<s0.2 then (Option.bind (α:=(Int×Int)) ((aD xs (IntKind.i64.wrap (cL .u64 (IntKind.u64.wrap (IntKind.i64.wrap (s0.1+s0.2))) 1))).bind fun x0 =>
(gH x0 t_).bind fun x1 =>
Option.bind (α:=(Int×Int)) (if x1<0 then (some (IntKind.i64.wrap ((IntKind.i64.wrap (cL .u64 (IntKind.u64.wrap (IntKind.i64.wrap (s0.1+s0.2))) 1))+1),s0.2))
 else (some (s0.1,IntKind.i64.wrap (cL .u64 (IntKind.u64.wrap (IntKind.i64.wrap (s0.1+s0.2))) 1)))) fun r0=>some (r0.1,r0.2)) fun r1=>some (.inl (r1.1,r1.2)))
 else (some (.inr s0.1))) (0,((xs).length:Int))) fun r2=>if r2<((xs).length:Int) then ((aD xs r2).bind fun x2 =>
(gH x2 t_).bind fun x3 =>
some (r2,decide (x3=0)))
 else (some (r2,false))
noncomputable def jQ (seats:List T_api_Seat) (client:Int):Option (Int×Bool) :=
(fU seats (client,0,(0,0,([]:List UInt8),([]:List (List UInt8))))).bind fun x0 =>
some (x0.1,x0.2)
noncomputable def jV (a_:T_api_Answer):Option T_api_Answer :=
(gX a_.2.2.1).bind fun x0 =>
(iY a_.2.2.2).bind fun x1 =>
some (a_.1,a_.2.1,x0,x1)
noncomputable def kO (seats:List T_api_Seat):Option (List T_api_Seat) :=
Option.bind (α:=((List T_api_Seat))) (aH (fun (s0:(List T_api_Seat)×Int)=>if s0.2<((seats).length:Int) then ((aD seats s0.2).bind fun x0 =>
(jV (x0.2.2.1,x0.2.2.2.1,x0.2.2.2.2.1,x0.2.2.2.2.2)).bind fun x1 =>
(aL s0.1 ([(x0.1,x0.2.1,(x1.1,x1.2.1,x1.2.2.1,x1.2.2.2))])).bind fun x2 =>
some (.inl (x2,IntKind.i64.wrap (s0.2+1))))
 else (some (.inr s0.1))) ([],0)) fun r0=>some r0
noncomputable def jA (seats:List T_api_Seat) (client:Int) (number:Int):Option (Int×T_api_Answer) :=
(jQ seats client).bind fun x0 =>
Option.bind (α:=(Int)) (if x0.2=true then ((aD seats x0.1).bind fun x1 =>
some x1.2.1)
 else (some 0)) fun r0=>if r0<number then (some (0,(0,0,([]:List UInt8),([]:List (List UInt8)))))
 else (if x0.2=true then (if number=r0 then ((aD seats x0.1).bind fun x2 =>
(jV x2.2.2).bind fun x3 =>
some (1,x3))
 else (some (2,(0,0,([]:List UInt8),([]:List (List UInt8))))))
 else (some (2,(0,0,([]:List UInt8),([]:List (List UInt8))))))
noncomputable def iJ (seats:List T_api_Seat) (s:T_api_Seat):Option (List T_api_Seat) :=
(kO seats).bind fun x0 =>
(jV (s.2.2.1,s.2.2.2.1,s.2.2.2.2.1,s.2.2.2.2.2)).bind fun x1 =>
(jB x0 s.1).bind fun x2 =>
if x2.2=true then ((aD x0 x2.1).bind fun x3 =>
some ((x0).set (x2.1:Int).toNat (s.1,s.2.1,(x1.1,x1.2.1,x1.2.2.1,x1.2.2.2))))
 else ((oC x0 x2.1 ([(s.1,s.2.1,(x1.1,x1.2.1,x1.2.2.1,x1.2.2.2))])).bind fun x4 =>
some x4)
noncomputable def oH :Option T_api_Whole :=
(pN).bind fun x0 =>
some ((x0.1,x0.2),([]:List T_api_Seat))
noncomputable def fZ (client:Int):Option Bool :=
if 0<=client then (some (decide (client<4)))
 else (some false)
noncomputable def gW (w_:T_api_Whole):Option Int :=
(jJ (w_.1.1,w_.1.2)).bind fun x0 =>
Option.bind (α:=(Bool)) (aH (fun (s0:Bool×Int)=>if s0.2<((w_.2).length:Int) then ((aD w_.2 s0.2).bind fun x1 =>
(pH (x1.2.2.1,x1.2.2.2.1,x1.2.2.2.2.1,x1.2.2.2.2.2)).bind fun x2 =>
if s0.1=true then (some (.inl (true,IntKind.i64.wrap (s0.2+1))))
 else (if x2.2=0 then ((fZ x1.1).bind fun x3 =>
if (!x3)=true then (some (.inl (true,IntKind.i64.wrap (s0.2+1))))
 else (if x1.2.1=0 then (some (.inl (true,IntKind.i64.wrap (s0.2+1))))
 else (if 0<s0.2 then ((aD w_.2 (IntKind.i64.wrap (s0.2-1))).bind fun x4 =>
(gH x4 (x1.1,x1.2.1,(x1.2.2.1,x1.2.2.2.1,x1.2.2.2.2.1,x1.2.2.2.2.2))).bind fun x5 =>
some (.inl (decide (0<=x5),IntKind.i64.wrap (s0.2+1))))
 else (some (.inl (false,IntKind.i64.wrap (s0.2+1)))))))
 else (some (.inl (true,IntKind.i64.wrap (s0.2+1))))))
 else (some (.inr s0.1))) (!decide (x0=0),0)) fun r0=>if r0=true then (some 22)
 else (some 0)
noncomputable def fV (w_:T_api_Whole):Option T_api_Whole :=
(nDo (w_.1.1,w_.1.2) (0,[],[],0,0,([]:List UInt8)) 0).bind fun x0 =>
(kO w_.2).bind fun x1 =>
some ((x0.1.1,x0.1.2),x1)
noncomputable def tDo (w_:T_api_Whole) (c:T_api_Call) (gen:Int):Option (T_api_Whole×T_api_Answer×Int) :=
(fZ c.1).bind fun x0 =>
if (!x0)=true then ((fV ((w_.1.1,w_.1.2),w_.2)).bind fun x1 =>
some (((x1.1.1,x1.1.2),x1.2),(0,0,([]:List UInt8),([]:List (List UInt8))),2))
 else ((jA w_.2 c.1 c.2.1).bind fun x2 =>
if x2.1=0 then ((nDo (w_.1.1,w_.1.2) (c.2.2.1,c.2.2.2.1,c.2.2.2.2.1,c.2.2.2.2.2.1,c.2.2.2.2.2.2.1,c.2.2.2.2.2.2.2) gen).bind fun x3 =>
(iJ w_.2 (c.1,c.2.1,(x3.2.1,x3.2.2.1,x3.2.2.2.1,x3.2.2.2.2))).bind fun x4 =>
some (((x3.1.1,x3.1.2),x4),(x3.2.1,x3.2.2.1,x3.2.2.2.1,x3.2.2.2.2),x2.1))
 else ((fV ((w_.1.1,w_.1.2),w_.2)).bind fun x5 =>
some (((x5.1.1,x5.1.2),x5.2),(x2.2.1,x2.2.2.1,x2.2.2.2.1,x2.2.2.2.2),x2.1)))
noncomputable def nB (a_:List T_api_Seat) (b_:List T_api_Seat):Option Bool :=
if ((a_).length:Int)=((b_).length:Int) then (Option.bind (α:=(Unit) ⊕ Bool) (aH (fun (s0:Int)=>if s0<((a_).length:Int) then ((aD a_ s0).bind fun x0 =>
(aD b_ s0).bind fun x1 =>
if x0.1=x1.1 then ((aD a_ s0).bind fun x2 =>
(aD b_ s0).bind fun x3 =>
if x2.2.1=x3.2.1 then ((aD a_ s0).bind fun x4 =>
(aD b_ s0).bind fun x5 =>
(gP x4.2.2 x5.2.2).bind fun x6 =>
if (!x6)=true then (some (.inr (.inr false)))
 else (some (.inl (IntKind.i64.wrap (s0+1)))))
 else (some (.inr (.inr false))))
 else (some (.inr (.inr false))))
 else (some (.inr (.inl ())))) 0) fun o0=>Sum.elim (fun r0=>some true) (fun rv=>some rv) o0)
 else (some false)
noncomputable def iH (a_:T_api_Whole) (b_:T_api_Whole):Option Bool :=
(pW (a_.1.1,a_.1.2) (b_.1.1,b_.1.2)).bind fun x0 =>
if x0=true then ((nB a_.2 b_.2).bind fun x1 =>
some x1)
 else (some false)
noncomputable def gM (w_:T_api_Whole):Option Bool :=
(iF (w_.1.1,w_.1.2)).bind fun x0 =>
if x0=true then (some true)
 else (some (decide (20<((w_.2).length:Int))))
noncomputable def nZ :Option Bool :=
Option.bind (α:=((List UInt8)×(((List T_api_Pair)×(List T_api_Snap))×(List T_api_Seat))×(Int×Int×(List UInt8)×(List (List UInt8)))×Int)) ((oH).bind fun x0 =>
(tDo x0 (1,5,(1,[47,97],[],0,0,([]:List UInt8))) 1).bind fun x1 =>
some (([]:List UInt8),((x1.1.1.1,x1.1.1.2),x1.1.2),(x1.2.1.1,x1.2.1.2.1,x1.2.1.2.2.1,x1.2.1.2.2.2),x1.2.2)) fun r0=>(tDo ((r0.2.1.1.1,r0.2.1.1.2),r0.2.1.2) (1,5,(1,[47,97],[],0,0,r0.1)) 2).bind fun x2 =>
(tDo ((x2.1.1.1,x2.1.1.2),x2.1.2) (1,4,(1,[47,97],[],0,0,r0.1)) 3).bind fun x3 =>
if r0.2.2.1.1=0 then ((gP (r0.2.2.1.1,r0.2.2.1.2.1,r0.2.2.1.2.2.1,r0.2.2.1.2.2.2) (x2.2.1.1,x2.2.1.2.1,x2.2.1.2.2.1,x2.2.1.2.2.2)).bind fun x4 =>
if x4=true then (if r0.2.2.2=0 then (if x2.2.2=1 then (some (decide (x3.2.2=2)))
 else (some false))
 else (some false))
 else (some false))
 else (some false)
noncomputable def nQ (a_:T_api_Answer):Option Bool :=
if a_.1<0 then (some false)
 else (if 65535<a_.1 then (some false)
 else (if a_.2.1<0 then (some false)
 else (if 65535<a_.2.1 then (some false)
 else (if 64<((a_.2.2.1).length:Int) then (some false)
 else (if 6<((a_.2.2.2).length:Int) then (some false)
 else (Option.bind (α:=(Unit) ⊕ Bool) (aH (fun (s0:Int)=>if s0<((a_.2.2.2).length:Int) then ((aD a_.2.2.2 s0).bind fun x0 =>
if ((x0).length:Int)<1 then (some (.inr (.inr false)))
 else ((aD a_.2.2.2 s0).bind fun x1 =>
if 8<((x1).length:Int) then (some (.inr (.inr false)))
 else (some (.inl (IntKind.i64.wrap (s0+1))))))
 else (some (.inr (.inl ())))) 0) fun o0=>Sum.elim (fun r0=>some true) (fun rv=>some rv) o0))))))
noncomputable def oV (a_:T_api_Answer):Option T_api_Answer :=
Option.bind (α:=((Int×Int×(List UInt8)×(List (List UInt8)))×T_api_Answer)) ((aL ([]:List UInt8) a_.2.2.1).bind fun x0 =>
(aL ([]:List (List UInt8)) a_.2.2.2).bind fun x1 =>
some ((a_.1,a_.2.1,x0,x1),(a_.1,a_.2.1,a_.2.2.1,a_.2.2.2))) fun r0=>some (r0.1.1,r0.1.2.1,r0.1.2.2.1,r0.1.2.2.2)
noncomputable def rReadW (w_:T_api_Whole):Option (T_triremeref13_Whole×Bool) :=
(rReadS w_.1).bind fun x0 =>
Option.bind (α:=((List T_api_Seat)) ⊕ (T_triremeref13_Whole×Bool)) (aH (fun (s0:(List T_api_Seat)×Int×Int)=>if s0.2.2<((w_.2).length:Int) then ((aD w_.2 s0.2.2).bind fun x1 =>
if x1.1<=s0.2.1 then (some (.inr (.inr (((x0.1.1,x0.1.2),s0.1),false))))
 else (if 3<x1.1 then (some (.inr (.inr (((x0.1.1,x0.1.2),s0.1),false))))
 else (if x1.2.1=0 then (some (.inr (.inr (((x0.1.1,x0.1.2),s0.1),false))))
 else ((nQ x1.2.2).bind fun x2 =>
if (!x2)=true then (some (.inr (.inr (((x0.1.1,x0.1.2),s0.1),false))))
 else ((aD s0.1 x1.1).bind fun x3 =>
some (.inl ((s0.1).set (x1.1:Int).toNat (x1.1,x1.2.1,x1.2.2),x1.1,IntKind.i64.wrap (s0.2.2+1))))))))
 else (some (.inr (.inl s0.1)))) (List.replicate 4 (0,0,(0,0,([]:List UInt8),([]:List (List UInt8)))),-1,0)) fun o0=>Sum.elim (fun r0=>some (((x0.1.1,x0.1.2),r0),x0.2)) (fun rv=>some rv) o0
noncomputable def rWriteW (w_:T_triremeref13_Whole):Option T_api_Whole :=
(rWriteS w_.1).bind fun x0 =>
Option.bind (α:=((List T_api_Seat))) (aH (fun (s0:(List T_api_Seat)×Int)=>if s0.2<4 then (Option.bind (α:=((List T_api_Seat))) ((aD w_.2 s0.2).bind fun x1 =>
Option.bind (α:=((List T_api_Seat))) (if 0<x1.2.1 then ((aD w_.2 s0.2).bind fun x2 =>
(aL s0.1 ([(s0.2,x2.2.1,x2.2.2)])).bind fun x3 =>
some x3)
 else (some s0.1)) fun r0=>some r0) fun r1=>some (.inl (r1,IntKind.i64.wrap (s0.2+1))))
 else (some (.inr s0.1))) (([]:List T_api_Seat),0)) fun r2=>some ((x0.1,x0.2),r2)
noncomputable def mH (w_:T_api_Whole):Option T_api_Whole :=
(nM w_.1).bind fun x0 =>
Option.bind (α:=((List T_api_Seat))) (aH (fun (s0:(List T_api_Seat)×Int)=>if s0.2<((w_.2).length:Int) then ((aD w_.2 s0.2).bind fun x1 =>
(oV x1.2.2).bind fun x2 =>
(aL s0.1 ([(x1.1,x1.2.1,x2)])).bind fun x3 =>
some (.inl (x3,IntKind.i64.wrap (s0.2+1))))
 else (some (.inr s0.1))) (([]:List T_api_Seat),0)) fun r0=>some ((x0.1,x0.2),r0)
noncomputable def rDoW (w_:T_triremeref13_Whole) (c:T_api_Call) (gen:Int):Option (T_triremeref13_Whole×T_api_Answer×Int) :=
if c.1<0 then (some (w_,(0,0,([]:List UInt8),([]:List (List UInt8))),2))
 else (if 3<c.1 then (some (w_,(0,0,([]:List UInt8),([]:List (List UInt8))),2))
 else ((aD w_.2 c.1).bind fun x0 =>
if c.2.1<x0.2.1 then (some ((w_.1,w_.2),(0,0,([]:List UInt8),([]:List (List UInt8))),2))
 else (if c.2.1=0 then (some ((w_.1,w_.2),(0,0,([]:List UInt8),([]:List (List UInt8))),2))
 else (if c.2.1=x0.2.1 then (some ((w_.1,w_.2),x0.2.2,1))
 else ((rDoS w_.1 c.2.2 gen).bind fun x1 =>
(aD w_.2 c.1).bind fun x2 =>
some (((x1.1.1,x1.1.2),(w_.2).set (c.1:Int).toNat (c.1,c.2.1,(x1.2.1,x1.2.2.1,x1.2.2.2.1,x1.2.2.2.2))),(x1.2.1,x1.2.2.1,x1.2.2.2.1,x1.2.2.2.2),0))))))
noncomputable def nY (w_:T_api_Whole) (c:T_api_Call) (gen:Int):Option Bool :=
(nZ).bind fun x0 =>
if (!x0)=true then (some false)
 else ((gM ((w_.1.1,w_.1.2),w_.2)).bind fun x1 =>
if x1=true then (some true)
 else ((rGreatOp (c.2.2.1,c.2.2.2.1,c.2.2.2.2.1,c.2.2.2.2.2.1,c.2.2.2.2.2.2.1,c.2.2.2.2.2.2.2)).bind fun x2 =>
if x2=true then (some true)
 else ((mH ((w_.1.1,w_.1.2),w_.2)).bind fun x3 =>
(kP (c.2.2.1,c.2.2.2.1,c.2.2.2.2.1,c.2.2.2.2.2.1,c.2.2.2.2.2.2.1,c.2.2.2.2.2.2.2)).bind fun x4 =>
(rReadW ((w_.1.1,w_.1.2),w_.2)).bind fun x5 =>
(tDo ((x3.1.1,x3.1.2),x3.2) (c.1,c.2.1,(x4.1,x4.2.1,x4.2.2.1,x4.2.2.2.1,x4.2.2.2.2.1,x4.2.2.2.2.2)) gen).bind fun x6 =>
(gW ((x3.1.1,x3.1.2),x3.2)).bind fun x7 =>
if (decide (x7=0))=(x5.2) then (if (!x5.2)=true then ((gW ((x3.1.1,x3.1.2),x3.2)).bind fun x8 =>
some (decide (x8=22)))
 else ((rDoW ((x5.1.1.1,x5.1.1.2),x5.1.2) (c.1,c.2.1,(c.2.2.1,c.2.2.2.1,c.2.2.2.2.1,c.2.2.2.2.2.1,c.2.2.2.2.2.2.1,c.2.2.2.2.2.2.2)) gen).bind fun x9 =>
(gP (x6.2.1.1,x6.2.1.2.1,x6.2.1.2.2.1,x6.2.1.2.2.2) (x9.2.1.1,x9.2.1.2.1,x9.2.1.2.2.1,x9.2.1.2.2.2)).bind fun x10 =>
if x10=true then (if x6.2.2=x9.2.2 then ((rWriteW ((x9.1.1.1,x9.1.1.2),x9.1.2)).bind fun x11 =>
(iH ((x6.1.1.1,x6.1.1.2),x6.1.2) x11).bind fun x12 =>
if x12=true then ((iH ((x3.1.1,x3.1.2),x3.2) ((w_.1.1,w_.1.2),w_.2)).bind fun x13 =>
some x13)
 else (some false))
 else (some false))
 else (some false)))
 else (some false))))
end Go.Proofs.YtkcgdaihfblncaaGreatDoor
namespace Go.Tri
open Go.RowKit Go.ChangeShapes Go.WideShapes Go.ChangeAt Go.Deep
section
variable {α β H:Type} (enc:TypeId×Value->H) (P:Program) (w:World) (base:Nat) (spare:Nat->Bool) (held:Bool)
def iQ (R:Rp α) (e:TypeId) (p:α->Prop):Prop:=∀ (fuel:Nat) (cs:List Value) (x:DataW H×List MemPlace),DataW.trod enc P w base spare held fuel e cs=some x->(x.1.weights P e).all (·<=reachBytes)=true->∃ y,R.rd (eB w) cs y/\p y
end
section
variable {α β H:Type} {enc:TypeId×Value->H} {P:Program} {w:World} {base:Nat} {spare:Nat->Bool} {held:Bool} {R:Rp α} {Q:Rp β} {e t:TypeId} {p:α->Prop} {q:β->Prop}
theorem dE (h:Opn enc P w base spare held R e):iQ enc P w base spare held R e (fun _=>True):=fun fuel cs x hx _=>by
 obtain ⟨y,hy⟩:=h fuel cs x hx
 exact ⟨y,hy,trivial⟩
theorem aM4 (ht:P.underlying t=some (.int .u64)):iQ enc P w base spare held (dC .u64) t (fun n=>0<=n/\n<=18446744073709551615):=fun fuel cs x h _=>by
 obtain ⟨n0,g0,_,w0⟩:=DataW.trod_int ht h
 refine ⟨n0,g0,?_⟩
 simp [Lit.wf,IntKind.min,IntKind.max,IntKind.signed,IntKind.bits] at w0
 omega
theorem aBd {ns:List Nat} (h:ns.all (·<=reachBytes)=true) {n:Nat} (hn:n∈ns):n<=reachBytes:=by simpa using List.all_eq_true.1 h n hn
theorem weightsAll_mem:∀ {ds:List (DataW H)} {d:DataW H} {n:Nat},d∈ds->n∈d.weights P e->n∈DataW.weightsAll P e ds
 | c::ds,d,n,hd,hn=>by
  unfold DataW.weightsAll
  rcases List.mem_cons.1 hd with rfl | hd
  ·exact List.mem_append_left _ hn
  ·exact List.mem_append_right _ (weightsAll_mem hd hn)
theorem aJc (hO:iQ enc P w base spare held R e p) (ht:P.underlying t=some (.slice e)) (hC:P.cellsOf e=R.n) (hs:0<R.n) {fuel:Nat} {cs:List Value} {x:DataW H×List MemPlace} (h:DataW.trod enc P w base spare held fuel t cs=some x) (hw:(x.1.weights P t).all (·<=reachBytes)=true) :
  ∃ a xs cap,cs=[.slice a xs.length cap]/\(∀ (w':World) (S:Nat->Prop),(HP.sl R a cap xs).pr (eB w) w' S)/\(∀ x∈xs,p x)/\xs.length*P.bytesOf e<=reachBytes:=by
 rcases DataW.trod_slice ht h with ⟨rfl,rfl⟩ | ⟨a,len,cap,elems,rest,n,_,rfl,rfl,hb,hl,hm,hlen,hel,_,_⟩
 ·exact ⟨none,[],0,rfl,fun _ _=>⟨[],trivial,fun w' hw=>.inl ⟨rfl,rfl,rfl⟩⟩,(fun x hx=>absurd hx (by simp)),by simp⟩
 ·simp only [DataW.weights,ht] at hw
  have hw0:(elems.map (·.1)).length+(rest.map (·.1)).length=elems.length+rest.length:=by simp
  rw [hw0] at hw
  have hsz:(elems.length+rest.length)*P.bytesOf e<=reachBytes:=aBd hw List.mem_cons_self
  have hwe:∀ y∈elems,(y.1.weights P e).all (·<=reachBytes)=true:=fun y hy=>List.all_eq_true.2 fun k hk=>by
   have:=aBd hw (List.mem_cons_of_mem _ (List.mem_append_left _ (weightsAll_mem (List.mem_map_of_mem hy) hk)))
   simpa using this
  obtain ⟨css,hcl,hp⟩:=yI (p:=fun i (c:List Value)=>c.length=R.n/\(∃ y,R.rd (eB w) c y/\p y)/\∀ j u,c[j]?=some u->w.cell? ((a.add (i*R.n)).add j)=some u) len (fun i hin=>by
   have hi:=hel i hin
   rw [List.getElem?_eq_getElem (by omega:i<elems.length)] at hi
   obtain ⟨cs',hc,ht'⟩:=Option.bind_eq_some_iff.1 hi
   obtain ⟨y,hy,hpy⟩:=hO _ _ _ ht' (hwe _ (List.getElem_mem _))
   obtain ⟨_,hcl,hat⟩:=World.cells?_some hc
   have hln:=R.len hy
   refine ⟨cs',hln,⟨y,hy,hpy⟩,fun j u hj=>?_⟩
   rw [<- hC,hat j (by rw [hC,<- hln];exact (List.getElem?_eq_some_iff.1 hj).1)];exact hj)
  obtain ⟨xs,hxl,hx⟩:=yI (p:=fun i (y:α)=>p y/\∃ c,css[i]?=some c/\R.rd (eB w) c y) len (fun i hin=>by
   obtain ⟨c,hc⟩:∃ c,css[i]?=some c:=⟨_,List.getElem?_eq_getElem (by omega)⟩
   obtain ⟨_,⟨y,hy,hpy⟩,_⟩:=hp i c hc
   exact ⟨y,hpy,c,hc,hy⟩)
  have hrdl:RdL R (eB w) css xs:=rdl_of (by omega) fun i c y hc hy=>by
   obtain ⟨_,c',h1,h2⟩:=hx i y hy
   rw [hc] at h1
   injection h1 with h1
   rw [h1];exact h2
  have hsl:Sl w (.slice (some a) len cap) len css.flatten:=by
   by_cases h0:len=0
   ·obtain rfl:css=[]:=List.length_eq_zero_iff.1 (by omega)
    subst h0
    exact .inr (.inl ⟨a,cap,rfl,rfl,rfl⟩)
   ·obtain ⟨c0,hc0⟩:∃ c,css[0]?=some c:=⟨_,List.getElem?_eq_getElem (by omega)⟩
    obtain ⟨hl0,_,hq0⟩:=hp 0 c0 hc0
    obtain ⟨u0,hu0⟩:∃ u,c0[0]?=some u:=⟨_,List.getElem?_eq_getElem (by omega)⟩
    have hcell:=hq0 0 u0 hu0
    rw [Nat.zero_mul] at hcell
    obtain ⟨b,off,spot⟩:=a
    have hspot:spot=none:=by simpa [Addr.add] using World.cell?_spot hcell
    subst hspot
    refine .inr (.inr ⟨b,off,cap,rfl,by omega,?_⟩)
    have:=aGi (w:=w) (fun c:List Value=>c) (ok:=fun c=>c.length=R.n) (fun c hc=>hc) css off (b:=b) (fun c hc=>by
     obtain ⟨i,hi,rfl⟩:=List.getElem_of_mem hc
     exact (hp i _ (List.getElem?_eq_getElem hi)).1) fun i c hc=>by
     intro j u hj
     have:=(hp i c hc).2.2 j u hj
     rw [dQ,dQ] at this;exact this
    rw [List.flatMap_id'] at this
    exact this
  subst hxl
  refine ⟨some a,xs,cap,rfl,fun _ _=>⟨css,hrdl,fun w' hw'=>aKt hw' hsl⟩,fun y hy=>?_,Nat.le_trans (Nat.mul_le_mul_right _ (by omega)) hsz⟩
  obtain ⟨i,hi,rfl⟩:=List.getElem_of_mem hy
  exact (hx i _ (List.getElem?_eq_getElem hi)).1
where
 rdl_of {α:Type} {R:Rp α} {B:Base}:∀ {css:List (List Value)} {xs:List α},css.length=xs.length->(∀ i c y,css[i]?=some c->xs[i]?=some y->R.rd B c y)->RdL R B css xs
  | [],[],_,_=>trivial
  | c::css,x::xs,hl,h=>⟨h 0 c x rfl rfl,rdl_of (by simpa using hl) fun i c' y h1 h2=>h (i+1) c' y (by simpa using h1) (by simpa using h2)⟩
theorem fM (hO:iQ enc P w base spare held R e p) (ht:P.underlying t=some (.slice e)) (hC:P.cellsOf e=R.n) (hs:0<R.n):iQ enc P w base spare held (rSl R) t (fun xs=>(∀ x∈xs,p x)/\xs.length*P.bytesOf e<=reachBytes):=fun fuel cs x h hw=>by
 obtain ⟨a,xs,cap,e1,e2,e3,e4⟩:=aJc hO ht hC hs h hw
 exact ⟨xs,⟨a,cap,e1,e2 _ _⟩,e3,e4⟩
def tW (enc:TypeId×Value->H) (P:Program) (w:World) (base:Nat) (spare:Nat->Bool) (held:Bool) (R:Rp α) (off:Nat) (fs:List Field) (p:α->Prop):Prop :=
 ∀ (n:Nat) (cs:List Value) (xs:List (DataW H×List MemPlace)),xs.length=fs.length->(∀ (i:Nat) (f:Field),fs[i]?=some f->DataW.trod enc P w base spare held n f.type ((cs.drop f.offset).take (P.cellsOf f.type))=xs[i]?) ->
  (DataW.weightsEach P (fs.map (·.type)) (xs.map (·.1))).all (·<=reachBytes)=true->∃ y,R.rd (eB w) ((cs.drop off).take R.n) y/\p y
theorem hZ {f:Field} {off:Nat} (hO:iQ enc P w base spare held R f.type p) (ho:f.offset=off) (hC:P.cellsOf f.type=R.n):tW enc P w base spare held R off [f] p:=fun n cs xs hl hx hw=>by
 match xs,hl with
 | [x],_ =>
  have h:=hx 0 f rfl
  rw [ho,hC] at h
  refine hO _ _ _ h ?_
  simpa [DataW.weightsEach] using hw
theorem dK {f:Field} {fs:List Field} {off:Nat} (hO:iQ enc P w base spare held R f.type p) (ho:f.offset=off) (hC:P.cellsOf f.type=R.n) (hF:tW enc P w base spare held Q (off+R.n) fs q):tW enc P w base spare held (bP R Q) off (f::fs) (fun y=>p y.1/\q y.2):=fun n cs xs hl hx hw=>by
 match xs,hl with
 | x::xs,hl =>
  have h:=hx 0 f rfl
  rw [ho,hC] at h
  simp only [List.map_cons,DataW.weightsEach,List.all_append,Bool.and_eq_true] at hw
  obtain ⟨y,hy,hpy⟩:=hO _ _ _ h hw.1
  obtain ⟨z,hz,hqz⟩:=hF n cs xs (by simpa using hl) (fun i g hg=>by simpa using hx (i+1) g (by simpa using hg)) hw.2
  refine ⟨(y,z),⟨_,_,?_,hy,hz⟩,hpy,hqz⟩
  show (cs.drop off).take (R.n+Q.n)=_
  rw [List.take_add,List.drop_drop]
theorem gV {fs:List Field} (ht:P.underlying t=some (.struct fs.toArray)) (hF:tW enc P w base spare held R 0 fs p) (hC:P.cellsOf t=R.n):iQ enc P w base spare held R t p:=fun fuel cs x h hw=>by
 obtain ⟨xs,n,_,rfl,hl,hxl,hx⟩:=DataW.trod_struct ht h
 simp only [DataW.weights,ht] at hw
 obtain ⟨y,hy,hp⟩:=hF n cs xs (by simpa using hxl) (fun i f hf=>hx i f (by simpa using hf)) (by simpa using hw)
 rw [List.drop_zero,List.take_of_length_le (by omega)] at hy
 exact ⟨y,hy,hp⟩
end
section
variable {H:Type} {enc:TypeId×Value->H} {P:Program} {w:World} {base:Nat} {spare:Nat->Bool} {held:Bool} {t:TypeId}
theorem rZ (ht:P.underlying t=some .string):Opn enc P w base spare held rStr t:=fun fuel cs x h=>by
 obtain ⟨s,h1,h2,h3⟩:=DataW.trod_string ht h
 exact ⟨s.data.toList,h1⟩
end
end Go.Tri
