/- Texts Mod, Oq, Os, StrA, PathA. -/
import Derived.Test.YthcjjjnphgopjaaGreatDoorQ3
import Derived.Test.YthcjjjnphgopjaaGreatDoorQ4
import GoSem.ClaimJoined
import Derived.ChangeMaps5
import Derived.Test.YthcjjjnphgopjaaGreatDoorProg
import Derived.Test.YthcjjjnphgopjaaGreatDoorShelf
set_option linter.unusedSimpArgs false
set_option linter.unusedVariables false
namespace Go.Proofs.YthcjjjnphgopjaaGreatDoor
open Go.RowKit Go.Tri
abbrev T_api_Pair:Type:=(List UInt8)×(List UInt8)
abbrev R_api_Pair:Rp T_api_Pair:=(rPair (rSl rByte) (rSl rByte))
abbrev T_pack_Pen_o:Type:=(List UInt8)
def O_pack_Pen (b:Nat) (x:T_pack_Pen_o):HP:=HP.ex fun (i:(Option Addr)×Nat)=>[HP.blk b ([.slice i.1 (x).length i.2]) 88,HP.ow rByte 5 i.1 i.2 x]
theorem O_pack_Pen_o {w0 w:World} {l:List HP} {b:Nat} {x:T_pack_Pen_o} (H:St w0 w (O_pack_Pen b x::l)):∃ (i1:Option Addr) (c1:Nat),St w0 w (HP.blk b ([.slice i1 (x).length c1]) 88::HP.ow rByte 5 i1 c1 x::l):=by
 obtain ⟨⟨i1,c1⟩,H⟩:=H.exOpen
 exact ⟨i1,c1,H⟩
theorem O_pack_Pen_s {w0 w:World} {l:List HP} {b:Nat} {i1:Option Addr} {c1:Nat} {x0:List UInt8}  (H:St w0 w (HP.blk b ([.slice i1 (x0).length c1]) 88::HP.ow rByte 5 i1 c1 x0::l)):St w0 w (O_pack_Pen b x0::l):=by
 unfold O_pack_Pen
 exact St.exShut (i1,c1) H
def O_pack_Pen_1 (b:Nat) (x:T_pack_Pen_o):HP:=HP.ex fun (i:(Option Addr)×Nat)=>[HP.blk b ([.slice i.1 (x).length i.2]) 88,HP.sl rByte i.1 i.2 x]
theorem O_pack_Pen_1_s {w0 w:World} {l:List HP} {b:Nat} {i1:Option Addr} {c1:Nat} {x0:List UInt8}  (H:St w0 w (HP.blk b ([.slice i1 (x0).length c1]) 88::HP.sl rByte i1 c1 x0::l)):St w0 w (O_pack_Pen_1 b x0::l):=by
 unfold O_pack_Pen_1
 exact St.exShut (i1,c1) H
abbrev T_files_file:Type:=Bool×(List UInt8)
abbrev R_files_file:Rp T_files_file:=(rPair rBool (rSl rByte))
theorem rc_files_file {w0 w:World} {l:List HP} {cs:List Value} {x:T_files_file} (H:St w0 w (HP.rc R_files_file cs x::l)):∃ (p2:Option Addr) (c2:Nat),cs=[.bool (x.1),.slice p2 (x.2).length c2]∧St w0 w (HP.sl rByte p2 c2 x.2::l):=by
 obtain ⟨u1,v1,rfl,H⟩:=H.rcPair 0 rfl
 replace H:=H.dp 2 rfl
 obtain rfl:=H.rcBool 0 rfl
 replace H:=H.dp 0 rfl
 obtain ⟨p2,c2,rfl,H⟩:=H.rcSl 0 rfl
 replace H:=H.dp 1 rfl
 exact ⟨p2,c2,rfl,H⟩
theorem mk_files_file {w0 w:World} {l:List HP} (H:St w0 w l) (s0:Bool) {p1:Option Addr} {c1:Nat} {x1:List UInt8} (i1:Nat) (h1:l[i1]?=some (HP.sl rByte p1 c1 x1)):St w0 w (HP.rc R_files_file [.bool s0,.slice p1 x1.length c1] (s0,x1)::l):=H.mkRc (fun gg=>⟨_,_,rfl,rfl,⟨_,_,rfl,(gg i1 _ h1).choose_spec⟩⟩)
abbrev T_api_Op:Type:=Int×(List UInt8)×(List UInt8)×Int×Int×(List UInt8)
abbrev R_api_Op:Rp T_api_Op:=(rPair (rInt .i64) (rPair rStr (rPair rStr (rPair (rInt .i64) (rPair (rInt .i64) (rSl rByte))))))
abbrev T_api_Answer:Type:=Int×Int×(List UInt8)×(List (List UInt8))
abbrev R_api_Answer:Rp T_api_Answer:=(rPair (rInt .i64) (rPair (rInt .i64) (rPair (rSl rByte) (rSl rStr))))
theorem rc_api_Op {w0 w:World} {l:List HP} {cs:List Value} {x:T_api_Op} (H:St w0 w (HP.rc R_api_Op cs x::l)):∃ (p6:Option Addr) (c6:Nat),cs=[.int .i64 (x.1),.string (txb (x.2.1)),.string (txb (x.2.2.1)),.int .i64 (x.2.2.2.1),.int .i64 (x.2.2.2.2.1),.slice p6 (x.2.2.2.2.2).length c6]∧St w0 w (HP.sl rByte p6 c6 x.2.2.2.2.2::l):=by
 obtain ⟨u1,v1,rfl,H⟩:=H.rcPair 0 rfl
 replace H:=H.dp 2 rfl
 obtain rfl:=H.rcI 0 rfl
 replace H:=H.dp 0 rfl
 obtain ⟨u2,v2,rfl,H⟩:=H.rcPair 0 rfl
 replace H:=H.dp 2 rfl
 obtain rfl:=H.rcStr 0 rfl
 replace H:=H.dp 0 rfl
 obtain ⟨u3,v3,rfl,H⟩:=H.rcPair 0 rfl
 replace H:=H.dp 2 rfl
 obtain rfl:=H.rcStr 0 rfl
 replace H:=H.dp 0 rfl
 obtain ⟨u4,v4,rfl,H⟩:=H.rcPair 0 rfl
 replace H:=H.dp 2 rfl
 obtain rfl:=H.rcI 0 rfl
 replace H:=H.dp 0 rfl
 obtain ⟨u5,v5,rfl,H⟩:=H.rcPair 0 rfl
 replace H:=H.dp 2 rfl
 obtain rfl:=H.rcI 0 rfl
 replace H:=H.dp 0 rfl
 obtain ⟨p6,c6,rfl,H⟩:=H.rcSl 0 rfl
 replace H:=H.dp 1 rfl
 exact ⟨p6,c6,rfl,H⟩
theorem mk_api_Answer {w0 w:World} {l:List HP} (H:St w0 w l) (s0:Int) (s1:Int) {p2:Option Addr} {c2:Nat} {x2:List UInt8} {p3:Option Addr} {c3:Nat} {x3:List (List UInt8)} (i2:Nat) (h2:l[i2]?=some (HP.sl rByte p2 c2 x2)) (i3:Nat) (h3:l[i3]?=some (HP.sl rStr p3 c3 x3)):St w0 w (HP.rc R_api_Answer [.int .i64 s0,.int .i64 s1,.slice p2 x2.length c2,.slice p3 x3.length c3] (s0,s1,x2,x3)::l):=H.mkRc (fun gg=>⟨_,_,rfl,rfl,⟨_,_,rfl,rfl,⟨_,_,rfl,⟨_,_,rfl,(gg i2 _ h2).choose_spec⟩,⟨_,_,rfl,(gg i3 _ h3).choose_spec⟩⟩⟩⟩)
theorem mk_api_Op {w0 w:World} {l:List HP} (H:St w0 w l) (s0:Int) (s1:List UInt8) (s2:List UInt8) (s3:Int) (s4:Int) {p5:Option Addr} {c5:Nat} {x5:List UInt8} (i5:Nat) (h5:l[i5]?=some (HP.sl rByte p5 c5 x5)):St w0 w (HP.rc R_api_Op [.int .i64 s0,.string (txb s1),.string (txb s2),.int .i64 s3,.int .i64 s4,.slice p5 x5.length c5] (s0,s1,s2,s3,s4,x5)::l):=H.mkRc (fun gg=>⟨_,_,rfl,rfl,⟨_,_,rfl,rfl,⟨_,_,rfl,rfl,⟨_,_,rfl,rfl,⟨_,_,rfl,rfl,⟨_,_,rfl,(gg i5 _ h5).choose_spec⟩⟩⟩⟩⟩⟩)
theorem rc_api_Pair {w0 w:World} {l:List HP} {cs:List Value} {x:T_api_Pair} (H:St w0 w (HP.rc R_api_Pair cs x::l)):∃ (p2:Option Addr) (c2:Nat) (p3:Option Addr) (c3:Nat),cs=[.slice p2 (x.1).length c2,.slice p3 (x.2).length c3]∧St w0 w (HP.sl rByte p2 c2 x.1::HP.sl rByte p3 c3 x.2::l):=by
 obtain ⟨u1,v1,rfl,H⟩:=H.rcPair 0 rfl
 replace H:=H.dp 2 rfl
 obtain ⟨p2,c2,rfl,H⟩:=H.rcSl 0 rfl
 replace H:=H.dp 1 rfl
 obtain ⟨p3,c3,rfl,H⟩:=H.rcSl 1 rfl
 replace H:=H.dp 2 rfl
 exact ⟨p2,c2,p3,c3,rfl,(H.pm 2 [1,0] rfl:)⟩
theorem rc_api_Answer {w0 w:World} {l:List HP} {cs:List Value} {x:T_api_Answer} (H:St w0 w (HP.rc R_api_Answer cs x::l)):∃ (p4:Option Addr) (c4:Nat) (p5:Option Addr) (c5:Nat),cs=[.int .i64 (x.1),.int .i64 (x.2.1),.slice p4 (x.2.2.1).length c4,.slice p5 (x.2.2.2).length c5]∧St w0 w (HP.sl rByte p4 c4 x.2.2.1::HP.sl rStr p5 c5 x.2.2.2::l):=by
 obtain ⟨u1,v1,rfl,H⟩:=H.rcPair 0 rfl
 replace H:=H.dp 2 rfl
 obtain rfl:=H.rcI 0 rfl
 replace H:=H.dp 0 rfl
 obtain ⟨u2,v2,rfl,H⟩:=H.rcPair 0 rfl
 replace H:=H.dp 2 rfl
 obtain rfl:=H.rcI 0 rfl
 replace H:=H.dp 0 rfl
 obtain ⟨u3,v3,rfl,H⟩:=H.rcPair 0 rfl
 replace H:=H.dp 2 rfl
 obtain ⟨p4,c4,rfl,H⟩:=H.rcSl 0 rfl
 replace H:=H.dp 1 rfl
 obtain ⟨p5,c5,rfl,H⟩:=H.rcSl 1 rfl
 replace H:=H.dp 2 rfl
 exact ⟨p4,c4,p5,c5,rfl,(H.pm 2 [1,0] rfl:)⟩
abbrev T_triremeref11_Node:Type:=(List UInt8)×Bool×(List UInt8)
abbrev R_triremeref11_Node:Rp T_triremeref11_Node:=(rPair rStr (rPair rBool (rSl rByte)))
theorem rc_triremeref11_Node {w0 w:World} {l:List HP} {cs:List Value} {x:T_triremeref11_Node} (H:St w0 w (HP.rc R_triremeref11_Node cs x::l)):∃ (p3:Option Addr) (c3:Nat),cs=[.string (txb (x.1)),.bool (x.2.1),.slice p3 (x.2.2).length c3]∧St w0 w (HP.sl rByte p3 c3 x.2.2::l):=by
 obtain ⟨u1,v1,rfl,H⟩:=H.rcPair 0 rfl
 replace H:=H.dp 2 rfl
 obtain rfl:=H.rcStr 0 rfl
 replace H:=H.dp 0 rfl
 obtain ⟨u2,v2,rfl,H⟩:=H.rcPair 0 rfl
 replace H:=H.dp 2 rfl
 obtain rfl:=H.rcBool 0 rfl
 replace H:=H.dp 0 rfl
 obtain ⟨p3,c3,rfl,H⟩:=H.rcSl 0 rfl
 replace H:=H.dp 1 rfl
 exact ⟨p3,c3,rfl,H⟩
theorem mk_api_Pair {w0 w:World} {l:List HP} (H:St w0 w l) {p0:Option Addr} {c0:Nat} {x0:List UInt8} {p1:Option Addr} {c1:Nat} {x1:List UInt8} (i0:Nat) (h0:l[i0]?=some (HP.sl rByte p0 c0 x0)) (i1:Nat) (h1:l[i1]?=some (HP.sl rByte p1 c1 x1)):St w0 w (HP.rc R_api_Pair [.slice p0 x0.length c0,.slice p1 x1.length c1] (x0,x1)::l):=H.mkRc (fun gg=>⟨_,_,rfl,⟨_,_,rfl,(gg i0 _ h0).choose_spec⟩,⟨_,_,rfl,(gg i1 _ h1).choose_spec⟩⟩)
noncomputable def cutPre (s:List UInt8) (p:List UInt8):Option ((List UInt8)×Bool):=some (Lib.trimPrefix s p,Lib.hasPrefix s p)
noncomputable def genSplit (s:List UInt8) (sep:List UInt8) (sv:Int) (n:Int):Option (List (List UInt8)):=splitO s sep sv n
noncomputable def strJoin (xs:List (List UInt8)) (sep:List UInt8):Option (List UInt8):=joinO xs sep
noncomputable def slIndex (s:List UInt8) (p:List UInt8):Option Int:=indexO s p
noncomputable def m_internal_stringslite_Cut (x0_:List UInt8) (x1_:List UInt8):Option ((List UInt8)×(List UInt8)×Bool) :=
(slIndex x0_ x1_).bind fun x1 =>
if 0≤x1 then ((slcO x0_ 0 x1).bind fun x3 =>
(slcO x0_ (IntKind.i64.wrap (x1+((x1_).length:Int))) ((x0_).length:Int)).bind fun x4 =>
some (x3,x4,true))
 else (some (x0_,[],false))
noncomputable def m_strings_Cut (x0_:List UInt8) (x1_:List UInt8):Option ((List UInt8)×(List UInt8)×Bool) :=
(m_internal_stringslite_Cut x0_ x1_).bind fun x1 =>
some (x1.1,x1.2.1,x1.2.2)
noncomputable def strSplit (s:List UInt8) (sep:List UInt8):Option (List (List UInt8)) :=
(genSplit s sep 0 (-1)).bind fun x2 =>
some x2
noncomputable def m_path_Name (x0_:List UInt8):Option Bool :=
Option.bind (α:=(Unit) ⊕ Bool) (loopO (fun (s38:Int)=>if s38<((x0_).length:Int) then ((idxO x0_ s38).bind fun x40 =>
if ((x40).toNat:Int)<33 then (some (.inr (.inr false)))
 else ((idxO x0_ s38).bind fun x42 =>
if 126<((x42).toNat:Int) then (some (.inr (.inr false)))
 else ((idxO x0_ s38).bind fun x44 =>
if ((x44).toNat:Int)=47 then (some (.inr (.inr false)))
 else (some (.inl (IntKind.i64.wrap (s38+1)))))))
 else (some (.inr (.inl ())))) 0) fun o23=>Sum.elim (fun r23=>if x0_=([]) then (some false)
 else (some (decide (((x0_).length:Int)≤8)))) (fun rv=>some rv) o23
noncomputable def m_path_names_1 (x0_:List UInt8):Option Bool :=
(m_path_Name x0_).bind fun x1 =>
some (!x1)
noncomputable def ixName (s:List (List UInt8)):Option Int :=
Option.bind (α:=(Unit) ⊕ Int) (loopO (fun (s34:Int)=>if s34<((s).length:Int) then ((idxO s s34).bind fun x36 =>
(m_path_names_1 x36).bind fun x39 =>
if x39=true then (some (.inr (.inr s34)))
 else (some (.inl (IntKind.i64.wrap (s34+1)))))
 else (some (.inr (.inl ())))) 0) fun o21=>Sum.elim (fun r21=>some (-1)) (fun rv=>some rv) o21
noncomputable def anyBad (s:List (List UInt8)):Option Bool :=
(ixName s).bind fun x2 =>
some (decide (0≤x2))
noncomputable def pNames (p:List UInt8):Option ((List (List UInt8))×Bool) :=
if p=([47]) then (some (([]:List (List UInt8)),true))
 else ((cutPre p ([47])).bind fun x3 =>
(strSplit x3.1 ([47])).bind fun x4 =>
if (!x3.2)=true then (some (([]:List (List UInt8)),false))
 else (if 24<((p).length:Int) then (some (([]:List (List UInt8)),false))
 else ((anyBad x4).bind fun x8 =>
if x8=true then (some (([]:List (List UInt8)),false))
 else (some (x4,true)))))
noncomputable def m_path_join (x0_:List (List UInt8)):Option (List UInt8) :=
(strJoin x0_ ([47])).bind fun x2 =>
(appO ([47]) x2).bind fun x3 =>
some x3
noncomputable def m_path_Check (x0_:List UInt8):Option Int :=
(pNames x0_).bind fun x1 =>
if (!x1.2)=true then (some 90)
 else (some 0)
noncomputable def m_path_Parent (x0_:List UInt8):Option (List UInt8) :=
(pNames x0_).bind fun x1 =>
if ((x1.1).length:Int)=0 then (some ([]))
 else ((slcO x1.1 0 (IntKind.i64.wrap (((x1.1).length:Int) - 1))).bind fun x5 =>
(m_path_join x5).bind fun x6 =>
some x6)
noncomputable def m_path_Base (x0_:List UInt8):Option (List UInt8) :=
(pNames x0_).bind fun x1 =>
if ((x1.1).length:Int)=0 then (some ([]))
 else ((idxO x1.1 (IntKind.i64.wrap (((x1.1).length:Int) - 1))).bind fun x4 =>
some x4)
noncomputable def m_slices_Equal___string_string_ (x0_:List (List UInt8)) (x1_:List (List UInt8)):Option Bool :=
if ((x0_).length:Int)=((x1_).length:Int) then (Option.bind (α:=(Unit) ⊕ Bool) (loopO (fun (s46:Int)=>if s46<((x0_).length:Int) then ((idxO x0_ s46).bind fun x48 =>
(idxO x1_ s46).bind fun x51 =>
if x48=x51 then (some (.inl (IntKind.i64.wrap (s46+1))))
 else (some (.inr (.inr false))))
 else (some (.inr (.inl ())))) 0) fun o29=>Sum.elim (fun r29=>some true) (fun rv=>some rv) o29)
 else (some false)
noncomputable def m_path_Within (x0_:List UInt8) (x1_:List UInt8):Option Bool :=
(pNames x0_).bind fun x1 =>
(pNames x1_).bind fun x3 =>
if x1.2=true then (if x3.2=true then (if ((x1.1).length:Int)≤((x3.1).length:Int) then ((slcO x3.1 0 ((x1.1).length:Int)).bind fun x9 =>
(m_slices_Equal___string_string_ x1.1 x9).bind fun x10 =>
some x10)
 else (some false))
 else (some false))
 else (some false)
noncomputable def m_path_Ancestors (x0_:List UInt8):Option (List (List UInt8)) :=
(pNames x0_).bind fun x2 =>
Option.bind (α:=((List (List UInt8)))) (loopO (fun (s47:(List (List UInt8))×Int)=>if s47.2<((x2.1).length:Int) then ((slcO x2.1 0 s47.2).bind fun x51 =>
(m_path_join x51).bind fun x52 =>
(appO s47.1 ([x52])).bind fun x55 =>
some (.inl (x55,IntKind.i64.wrap (s47.2+1))))
 else (some (.inr s47.1))) ([],0)) fun r29=>some r29
noncomputable def sortT (xs:List (List UInt8)):Option (List (List UInt8)):=sortTO xs
noncomputable def sortPs (xs:List T_api_Pair):Option (List T_api_Pair):=sortPO xs
noncomputable def cloneB (s:List UInt8):Option (List UInt8) :=
(appO ([]:List UInt8) s).bind fun x5 =>
some x5
noncomputable def penRaw (p:T_pack_Pen_o) (b:List UInt8):Option T_pack_Pen_o :=
(appO p b).bind fun x5 =>
some x5
noncomputable def penUint (p:T_pack_Pen_o) (n:Int) (size:Int):Option (Int×T_pack_Pen_o) :=
if size<1 then (some (1,p))
 else (if 8<size then (some (1,p))
 else (if size<8 then ((shrO .u64 n (IntKind.i64.wrap (8 * size))).bind fun x4 =>
if 0<x4 then (some (1,p))
 else (Option.bind (α:=(T_pack_Pen_o)) (loopO (fun (s48:T_pack_Pen_o×Int)=>if 0≤s48.2 then ((shrO .u64 n (IntKind.i64.wrap (8 * s48.2))).bind fun x52 =>
(u8O (IntKind.u8.wrap (x52))).bind fun x54 =>
(appO s48.1 ([x54])).bind fun x56 =>
some (.inl (x56,IntKind.i64.wrap (s48.2 - 1))))
 else (some (.inr s48.1))) (p,IntKind.i64.wrap (size - 1))) fun r31=>some (0,r31)))
 else (Option.bind (α:=(T_pack_Pen_o)) (loopO (fun (s99:T_pack_Pen_o×Int)=>if 0≤s99.2 then ((shrO .u64 n (IntKind.i64.wrap (8 * s99.2))).bind fun x103 =>
(u8O (IntKind.u8.wrap (x103))).bind fun x105 =>
(appO s99.1 ([x105])).bind fun x107 =>
some (.inl (x107,IntKind.i64.wrap (s99.2 - 1))))
 else (some (.inr s99.1))) (p,IntKind.i64.wrap (size - 1))) fun r82=>some (0,r82))))
noncomputable def penData (p:T_pack_Pen_o):Option ((List UInt8)×T_pack_Pen_o) :=
(cloneB p).bind fun x4 =>
some (x4,p)
noncomputable def sLook (s:(List UInt8)→Option T_files_file) (p:List UInt8):Option (T_files_file×Int) :=
(m_path_Check p).bind fun x4 =>
if x4=0 then ((m_path_Ancestors p).bind fun x6 =>
Option.bind (α:=(Unit) ⊕ (T_files_file×Int)) (loopO (fun (s65:Int)=>if s65<((x6).length:Int) then ((idxO x6 s65).bind fun x67 =>
if (!((s x67).isSome))=true then (some (.inr (.inr ((false,([]:List UInt8)),91))))
 else (if (!(((s x67).getD (false,[])).1))=true then (some (.inr (.inr ((false,([]:List UInt8)),93))))
 else (some (.inl (IntKind.i64.wrap (s65+1))))))
 else (some (.inr (.inl ())))) 0) fun o42=>Sum.elim (fun r42=>if (!((s p).isSome))=true then (some ((false,([]:List UInt8)),91))
 else (some (((s p).getD (false,[])),0))) (fun rv=>some rv) o42)
 else (some ((false,([]:List UInt8)),x4))
noncomputable def sRegular (s:(List UInt8)→Option T_files_file) (p:List UInt8):Option (T_files_file×Int) :=
(sLook s p).bind fun x4 =>
if x4.2=0 then (if x4.1.1=true then (some ((false,([]:List UInt8)),94))
 else (some ((x4.1.1,x4.1.2),x4.2)))
 else (some (x4.1,x4.2))
noncomputable def sRoom (s:(List UInt8)→Option T_files_file) (p:List UInt8):Option Int :=
(m_path_Check p).bind fun x2 =>
if x2=0 then (if p=([47]) then (some 92)
 else ((m_path_Parent p).bind fun x5 =>
(sLook s x5).bind fun x6 =>
if x6.2=0 then (if (!x6.1.1)=true then (some 93)
 else (if ((s p).isSome)=true then (some 92)
 else (some 0)))
 else (some x6.2)))
 else (some x2)
noncomputable def sSound (s:(List UInt8)→Option T_files_file):Option Bool :=
detM s (fun l39=>(foldO (fun (s39:Unit) (x39:(List UInt8)×T_files_file)=>(m_path_Check x39.1).bind fun x47 =>
if x47=0 then (if 192<((x39.2.2).length:Int) then (some (.inr false))
 else (if x39.1=([47]) then (some (.inl ()))
 else ((m_path_Parent x39.1).bind fun x53 =>
if (!(((s x53).getD (false,[])).1))=true then (some (.inr false))
 else (some (.inl ())))))
 else (some (.inr false))) () l39).bind (Sum.elim (fun (s39:Unit)=>some (((s ([47])).getD (false,[])).1)) some))
noncomputable def sized (data:List UInt8) (n:Int):Option (List UInt8) :=
(mkO n (0:UInt8)).bind fun x4 =>
some (putAt x4 0 ((data).take (x4).length))
noncomputable def sWrite (s:(List UInt8)→Option T_files_file) (o:T_api_Op):Option (T_api_Answer×((List UInt8)→Option T_files_file)) :=
(sRegular s o.2.1).bind fun x8 =>
Option.bind (α:=(Int)) (if o.1=3 then (some o.2.2.2.1)
 else (some o.2.2.2.2.1)) fun r12=>Option.bind (α:=(T_files_file×((List UInt8)→Option T_files_file)×(Int×Int))) (Option.bind (α:=(T_files_file×((List UInt8)→Option T_files_file)×(Int×Int))) (if x8.2=0 then (Option.bind (α:=(T_files_file×((List UInt8)→Option T_files_file)×(Int×Int))) (if r12<0 then (some (x8.1,s,(1,0)))
 else (if 192<r12 then (some (x8.1,s,(97,0)))
 else (if o.1=3 then (Option.bind (α:=(T_files_file×((List UInt8)→Option T_files_file)×(Int×Int))) (if 192<(IntKind.i64.wrap (r12+((o.2.2.2.2.2).length:Int))) then (some (x8.1,s,(97,0)))
 else (Option.bind (α:=(T_files_file×((List UInt8)→Option T_files_file)×Int)) (if o.1=4 then ((sized x8.1.2 r12).bind fun x1172 =>
some ((x8.1.1,x8.1.2),fset o.2.1 (false,x1172) s,0))
 else (Option.bind (α:=(T_files_file×((List UInt8)→Option T_files_file))) (if 0<((o.2.2.2.2.2).length:Int) then ((sized x8.1.2 (max ((x8.1.2).length:Int) (IntKind.i64.wrap (r12+((o.2.2.2.2.2).length:Int))))).bind fun x1187 =>
(slcO x1187 r12 ((x1187).length:Int)).bind fun x1190 =>
some ((x8.1.1,x8.1.2),fset o.2.1 (false,(putAt x1187 (r12:Int).toNat ((o.2.2.2.2.2).take (x1190).length))) s))
 else (some (x8.1,s))) fun r1182=>some (r1182.1,r1182.2,((o.2.2.2.2.2).length:Int)))) fun r1167=>some (r1167.1,r1167.2.1,(0,r1167.2.2)))) fun r1141=>some (r1141.1,r1141.2.1,(r1141.2.2.1,r1141.2.2.2)))
 else (Option.bind (α:=(T_files_file×((List UInt8)→Option T_files_file)×Int)) (if o.1=4 then ((sized x8.1.2 r12).bind fun x1220 =>
some ((x8.1.1,x8.1.2),fset o.2.1 (false,x1220) s,0))
 else (Option.bind (α:=(T_files_file×((List UInt8)→Option T_files_file))) (if 0<((o.2.2.2.2.2).length:Int) then ((sized x8.1.2 (max ((x8.1.2).length:Int) (IntKind.i64.wrap (r12+((o.2.2.2.2.2).length:Int))))).bind fun x1235 =>
(slcO x1235 r12 ((x1235).length:Int)).bind fun x1238 =>
some ((x8.1.1,x8.1.2),fset o.2.1 (false,(putAt x1235 (r12:Int).toNat ((o.2.2.2.2.2).take (x1238).length))) s))
 else (some (x8.1,s))) fun r1230=>some (r1230.1,r1230.2,((o.2.2.2.2.2).length:Int)))) fun r1215=>some (r1215.1,r1215.2.1,(0,r1215.2.2)))))) fun r1087=>some (r1087.1,r1087.2.1,(r1087.2.2.1,r1087.2.2.2)))
 else (some (x8.1,s,(x8.2,0)))) fun r933=>some (r933.1,r933.2.1,(r933.2.2.1,r933.2.2.2))) fun r626=>some ((r626.2.2.1,r626.2.2.2,([]:List UInt8),([]:List (List UInt8))),r626.2.1)
noncomputable def sRead (s:(List UInt8)→Option T_files_file) (o:T_api_Op):Option T_api_Answer :=
(sRegular s o.2.1).bind fun x8 =>
Option.bind (α:=(T_files_file×(Int×Int×(List UInt8)))) (Option.bind (α:=(T_files_file×(Int×Int×(List UInt8)))) (if x8.2=0 then (if o.2.2.2.1<0 then (some (x8.1,(1,0,([]:List UInt8))))
 else (Option.bind (α:=(T_files_file×(Int×Int×(List UInt8)))) (if o.2.2.2.2.1<0 then (some (x8.1,(1,0,([]:List UInt8))))
 else ((slcO x8.1.2 (min o.2.2.2.1 ((x8.1.2).length:Int)) ((x8.1.2).length:Int)).bind fun x107 =>
(slcO x107 0 (min (min o.2.2.2.2.1 64) (IntKind.i64.wrap (((x8.1.2).length:Int) - (min o.2.2.2.1 ((x8.1.2).length:Int)))))).bind fun x109 =>
(cloneB x109).bind fun x110 =>
some ((x8.1.1,x8.1.2),(0,((x8.1.2).length:Int),x110)))) fun r100=>some (r100.1,(r100.2.1,r100.2.2.1,r100.2.2.2))))
 else (some (x8.1,(x8.2,0,([]:List UInt8))))) fun r86=>some (r86.1,(r86.2.1,r86.2.2.1,r86.2.2.2))) fun r60=>some (r60.2.1,r60.2.2.1,r60.2.2.2,([]:List (List UInt8)))
noncomputable def sBelow (s:(List UInt8)→Option T_files_file) (p:List UInt8):Option (List (List UInt8)) :=
detM s (fun l76=>(foldO (fun (s76:(List (List UInt8))) (x76:(List UInt8)×T_files_file)=>Option.bind (α:=((List (List UInt8)))) (if x76.1=([47]) then (some s76)
 else ((m_path_Parent x76.1).bind fun x100 =>
Option.bind (α:=((List (List UInt8)))) (if x100=p then ((m_path_Base x76.1).bind fun x109 =>
(appO s76 ([x109])).bind fun x112 =>
some x112)
 else (some s76)) fun r106=>some r106)) fun r96=>some (.inl r96)) ([]) l76).bind (Sum.elim (fun (s76:(List (List UInt8)))=>(sortT s76).bind fun x79 =>
some x79) some))
noncomputable def sRename (s:(List UInt8)→Option T_files_file) (o:T_api_Op):Option (Int×((List UInt8)→Option T_files_file)) :=
(m_path_Check o.2.1).bind fun x6 =>
if x6=0 then ((m_path_Check o.2.2.1).bind fun x8 =>
if x8=0 then ((sLook s o.2.1).bind fun x10 =>
if x10.2=0 then (if o.2.1=([47]) then (some (96,s))
 else ((m_path_Within o.2.1 o.2.2.1).bind fun x15 =>
if x15=true then (some (96,s))
 else ((sRoom s o.2.2.1).bind fun x17 =>
if x17=0 then (detM s (fun l141=>(foldO (fun (s141:((List UInt8)→Option (List UInt8))) (x141:(List UInt8)×T_files_file)=>Option.bind (α:=(((List UInt8)→Option (List UInt8))) ⊕ (Int×((List UInt8)→Option T_files_file))) ((m_path_Within o.2.1 x141.1).bind fun x188 =>
Option.bind (α:=(((List UInt8)→Option (List UInt8))) ⊕ (Int×((List UInt8)→Option T_files_file))) (if x188=true then ((slcO x141.1 ((o.2.1).length:Int) ((x141.1).length:Int)).bind fun x197 =>
(appO o.2.2.1 x197).bind fun x198 =>
if 24<(((((fset x141.1 x198 s141) x141.1).getD [])).length:Int) then (some (.inr (90,s)))
 else (some (.inl (fset x141.1 x198 s141))))
 else (some (.inl s141))) fun o195=>Sum.elim (fun r195=>some (.inl r195)) (fun rv=>some (.inr rv)) o195) fun o186=>Sum.elim (fun r186=>some (.inl r186)) (fun rv=>some (.inr rv)) o186) (fnil:(List UInt8)→Option (List UInt8)) l141).bind (Sum.elim (fun (s141:((List UInt8)→Option (List UInt8)))=>Option.bind (α:=(((List UInt8)→Option T_files_file))) (detM s141 (fun l166=>(foldO (fun (s166:((List UInt8)→Option T_files_file)) (x166:(List UInt8)×(List UInt8))=>some (.inl (fdel x166.1 (fset x166.2 ((s166 x166.1).getD (false,[])) s166)))) s l166).bind (Sum.elim (fun (s166:((List UInt8)→Option T_files_file))=>some s166) some))) fun r157=>some (0,r157)) some)))
 else (some (x17,s)))))
 else (some (x10.2,s)))
 else (some (90,s)))
 else (some (90,s))
noncomputable def sRemove (s:(List UInt8)→Option T_files_file) (p:List UInt8):Option (Int×((List UInt8)→Option T_files_file)) :=
(sLook s p).bind fun x2 =>
if x2.2=0 then (if p=([47]) then (some (96,s))
 else ((sBelow s p).bind fun x7 =>
if 0<((x7).length:Int) then (some (95,s))
 else (some (0,fdel p s))))
 else (some (x2.2,s))
noncomputable def cloneT (s:List (List UInt8)):Option (List (List UInt8)) :=
(appO ([]:List (List UInt8)) s).bind fun x5 =>
some x5
noncomputable def sList (s:(List UInt8)→Option T_files_file) (o:T_api_Op):Option T_api_Answer :=
(sLook s o.2.1).bind fun x8 =>
Option.bind (α:=(T_files_file×(Int×Int×(List (List UInt8))))) (Option.bind (α:=(T_files_file×(Int×Int×(List (List UInt8))))) (if x8.2=0 then (Option.bind (α:=((Int×Int×(List (List UInt8))))) (if (!x8.1.1)=true then (some (93,0,([]:List (List UInt8))))
 else ((sBelow s o.2.1).bind fun x104 =>
(delO x104 o.2.2.1).bind fun x106 =>
(slcO x106 0 (min ((x106).length:Int) 6)).bind fun x109 =>
(cloneT x109).bind fun x110 =>
some (0,((x104).length:Int),x110))) fun r101=>some ((x8.1.1,x8.1.2),(r101.1,r101.2.1,r101.2.2)))
 else (some (x8.1,(x8.2,0,([]:List (List UInt8)))))) fun r86=>some (r86.1,(r86.2.1,r86.2.2.1,r86.2.2.2))) fun r60=>some (r60.2.1,r60.2.2.1,([]:List UInt8),r60.2.2.2)
noncomputable def sStat (s:(List UInt8)→Option T_files_file) (p:List UInt8):Option T_api_Answer :=
(sLook s p).bind fun x4 =>
Option.bind (α:=(T_files_file×(Int×Int×(List UInt8)))) (Option.bind (α:=(T_files_file×(Int×Int×(List UInt8)))) (if x4.2=0 then (Option.bind (α:=((Int×(List UInt8)))) (if x4.1.1=true then ((u8O 100).bind fun x87 =>
(sBelow s p).bind fun x88 =>
some (((x88).length:Int),[x87]))
 else ((u8O 102).bind fun x91 =>
some (((x4.1.2).length:Int),[x91]))) fun r83=>some ((x4.1.1,x4.1.2),(0,r83.1,r83.2)))
 else (some (x4.1,(x4.2,0,([]:List UInt8))))) fun r70=>some (r70.1,(r70.2.1,r70.2.2.1,r70.2.2.2))) fun r48=>some (r48.2.1,r48.2.2.1,r48.2.2.2,([]:List (List UInt8)))
noncomputable def sDo (s:(List UInt8)→Option T_files_file) (o:T_api_Op):Option (T_api_Answer×((List UInt8)→Option T_files_file)) :=
Option.bind (α:=(Int×((List UInt8)→Option T_files_file)) ⊕ (T_api_Answer×((List UInt8)→Option T_files_file))) (Option.bind (α:=(Bool)) (if o.1=1 then (some (decide (o.1=1)))
 else (some (decide (o.1=2)))) fun r384=>Option.bind (α:=(Int×((List UInt8)→Option T_files_file)) ⊕ (T_api_Answer×((List UInt8)→Option T_files_file))) (if r384=true then ((sRoom s o.2.1).bind fun x573 =>
Option.bind (α:=(((List UInt8)→Option T_files_file))) (if x573=0 then (some (fset o.2.1 (decide (o.1=2),([]:List UInt8)) s))
 else (some s)) fun r575=>some (.inl (x573,r575)))
 else (Option.bind (α:=(Bool)) (if o.1=3 then (some (decide (o.1=3)))
 else (some (decide (o.1=4)))) fun r578=>Option.bind (α:=(Int×((List UInt8)→Option T_files_file)) ⊕ (T_api_Answer×((List UInt8)→Option T_files_file))) (if r578=true then ((sWrite s (o.1,o.2.1,o.2.2.1,o.2.2.2.1,o.2.2.2.2.1,o.2.2.2.2.2)).bind fun x670 =>
some (.inr (x670.1,x670.2)))
 else (Option.bind (α:=(Int×((List UInt8)→Option T_files_file)) ⊕ (T_api_Answer×((List UInt8)→Option T_files_file))) (if o.1=5 then ((sRead s (o.1,o.2.1,o.2.2.1,o.2.2.2.1,o.2.2.2.2.1,o.2.2.2.2.2)).bind fun x716 =>
some (.inr (x716,s)))
 else (Option.bind (α:=(Int×((List UInt8)→Option T_files_file)) ⊕ (T_api_Answer×((List UInt8)→Option T_files_file))) (if o.1=6 then ((sRename s (o.1,o.2.1,o.2.2.1,o.2.2.2.1,o.2.2.2.2.1,o.2.2.2.2.2)).bind fun x739 =>
some (.inl (x739.1,x739.2)))
 else (Option.bind (α:=(Int×((List UInt8)→Option T_files_file)) ⊕ (T_api_Answer×((List UInt8)→Option T_files_file))) (if o.1=7 then ((sRemove s o.2.1).bind fun x750 =>
some (.inl (x750.1,x750.2)))
 else (if o.1=8 then ((sList s (o.1,o.2.1,o.2.2.1,o.2.2.2.1,o.2.2.2.2.1,o.2.2.2.2.2)).bind fun x752 =>
some (.inr (x752,s)))
 else (if o.1=9 then ((sStat s o.2.1).bind fun x755 =>
some (.inr (x755,s)))
 else (some (.inl (1,s)))))) fun o748=>Sum.elim (fun r748=>some (.inl (r748.1,r748.2))) (fun rv=>some (.inr rv)) o748)) fun o737=>Sum.elim (fun r737=>some (.inl (r737.1,r737.2))) (fun rv=>some (.inr rv)) o737)) fun o714=>Sum.elim (fun r714=>some (.inl (r714.1,r714.2))) (fun rv=>some (.inr rv)) o714)) fun o668=>Sum.elim (fun r668=>some (.inl (r668.1,r668.2))) (fun rv=>some (.inr rv)) o668)) fun o571=>Sum.elim (fun r571=>some (.inl (r571.1,r571.2))) (fun rv=>some (.inr rv)) o571) fun o382=>Sum.elim (fun r382=>some ((r382.1,0,([]:List UInt8),([]:List (List UInt8))),r382.2)) (fun rv=>some rv) o382
noncomputable def fRead (list:List T_api_Pair):Option ((List UInt8)→Option T_files_file) :=
Option.bind (α:=(((List UInt8)→Option (List UInt8))×((List UInt8)→Option T_files_file))) (loopO (fun (s877:((List UInt8)→Option (List UInt8))×((List UInt8)→Option T_files_file)×Int)=>if s877.2.2<((list).length:Int) then (Option.bind (α:=(((List UInt8)→Option (List UInt8))×((List UInt8)→Option T_files_file))) ((idxO list s877.2.2).bind fun x966 =>
Option.bind (α:=((List UInt8)×(List UInt8))) (if 0<((x966.1).length:Int) then ((slcO x966.1 0 1).bind fun x982 =>
(slcO x966.1 1 ((x966.1).length:Int)).bind fun x984 =>
some (x982,x984))
 else (some ([],[]))) fun r979=>Option.bind (α:=(((List UInt8)→Option (List UInt8))×((List UInt8)→Option T_files_file))) (Option.bind (α:=(((List UInt8)→Option (List UInt8))×((List UInt8)→Option T_files_file))) (if r979.1=([99]) then ((m_strings_Cut r979.2 ([0])).bind fun x1037 =>
(appO ((s877.1 x1037.1).getD []) x966.2).bind fun x1040 =>
some (fset x1037.1 x1040 s877.1,s877.2.1))
 else (Option.bind (α:=(((List UInt8)→Option T_files_file))) (if r979.1=([110]) then (if ((x966.2).length:Int)=1 then ((idxO x966.2 0).bind fun x1049 =>
some (fset r979.2 (decide (((x1049).toNat:Int)=100),([]:List UInt8)) s877.2.1))
 else (some (fset r979.2 (false,([]:List UInt8)) s877.2.1)))
 else (some s877.2.1)) fun r1046=>some (s877.1,r1046))) fun r1035=>some (r1035.1,r1035.2)) fun r1018=>some (r1018.1,r1018.2)) fun r965=>some (.inl (r965.1,r965.2,IntKind.i64.wrap (s877.2.2+1))))
 else (some (.inr (s877.1,s877.2.1)))) ((fnil:(List UInt8)→Option (List UInt8)),(fnil:(List UInt8)→Option T_files_file),0)) fun r528=>detM r528.2 (fun l1109=>(foldO (fun (s1109:((List UInt8)→Option T_files_file)) (x1109:(List UInt8)×T_files_file)=>Option.bind (α:=(((List UInt8)→Option T_files_file))) (Option.bind (α:=(((List UInt8)→Option T_files_file))) (if (!x1109.2.1)=true then (some (fset x1109.1 (false,((r528.1 x1109.1).getD [])) s1109))
 else (some s1109)) fun r1133=>some r1133) fun r1124=>some (.inl r1124)) r528.2 l1109).bind (Sum.elim (fun (s1109:((List UInt8)→Option T_files_file))=>some s1109) some))
noncomputable def sPairs (s:(List UInt8)→Option T_files_file):Option (List T_api_Pair) :=
detM s (fun l733=>(foldO (fun (s733:(List T_api_Pair)) (x733:(List UInt8)×T_files_file)=>Option.bind (α:=((List T_api_Pair))) ((appO ([110]) x733.1).bind fun x923 =>
if x733.2.1=true then ((u8O 100).bind fun x929 =>
(appO s733 ([(x923,[x929])])).bind fun x932 =>
some x932)
 else ((u8O 102).bind fun x935 =>
(penRaw ([]:List UInt8) ([x935])).bind fun x936 =>
(penUint x936 (IntKind.u64.wrap (((x733.2.2).length:Int))) 2).bind fun x937 =>
(penData x937.2).bind fun x938 =>
(appO s733 ([(x923,x938.1)])).bind fun x942 =>
(chunkN 64 (x733.2.2).length).bind fun x945 =>
Option.bind (α:=(Int×(List T_api_Pair)) ⊕ Empty) (foldO (fun (s1047:Int×(List T_api_Pair)) (x1047:List UInt8)=>Option.bind (α:=((List T_api_Pair))) ((appO ([99]) x733.1).bind fun x1074 =>
(u8O 0).bind fun x1077 =>
(u8O (IntKind.u8.wrap (s1047.1))).bind fun x1078 =>
(appO x1074 ([x1077,x1078])).bind fun x1080 =>
(cloneB x1047).bind fun x1081 =>
(appO s1047.2 ([(x1080,x1081)])).bind fun x1085 =>
some x1085) fun r1072=>some (.inl (IntKind.i64.wrap (s1047.1+1),r1072))) (0,x942) (chunkL x945 x733.2.2)) fun o1047=>Sum.elim (fun s1047=>some s1047.2) (fun r1047=>none) o1047)) fun r917=>some (.inl r917)) ([]:List T_api_Pair) l733).bind (Sum.elim (fun (s733:(List T_api_Pair))=>(sortPs s733).bind fun x737 =>
some x737) some))
noncomputable def mClone (s:(List UInt8)→Option T_files_file):Option ((List UInt8)→Option T_files_file):=some s
noncomputable def fDo (files:List T_api_Pair) (o:T_api_Op):Option ((List T_api_Pair)×T_api_Answer) :=
(fRead files).bind fun x7 =>
(mClone x7).bind fun x9 =>
(sDo x7 o).bind fun x11 =>
if x11.1.1=0 then ((sPairs x11.2).bind fun x21 =>
some (x21,(x11.1.1,x11.1.2.1,x11.1.2.2.1,x11.1.2.2.2)))
 else ((sPairs x9).bind fun x19 =>
some (x19,(x11.1.1,x11.1.2.1,x11.1.2.2.1,x11.1.2.2.2)))
noncomputable def bEqual (xs:List UInt8) (ys:List UInt8):Option Bool :=
some (decide (xs=ys))
noncomputable def m_files_same (x0_:T_api_Pair) (x1_:T_api_Pair):Option Bool :=
(bEqual x0_.1 x1_.1).bind fun x13 =>
if x13=true then ((bEqual x0_.2 x1_.2).bind fun x15 =>
some x15)
 else (some false)
noncomputable def eqPairs (xs:List T_api_Pair) (ys:List T_api_Pair):Option Bool :=
if ((xs).length:Int)=((ys).length:Int) then (Option.bind (α:=(Unit) ⊕ Bool) (loopO (fun (s61:Int)=>if s61<((xs).length:Int) then ((idxO xs s61).bind fun x63 =>
(idxO ys s61).bind fun x67 =>
(m_files_same x63 x67).bind fun x71 =>
if (!x71)=true then (some (.inr (.inr false)))
 else (some (.inl (IntKind.i64.wrap (s61+1)))))
 else (some (.inr (.inl ())))) 0) fun o38=>Sum.elim (fun r38=>some true) (fun rv=>some rv) o38)
 else (some false)
noncomputable def fCheck (files:List T_api_Pair):Option Int :=
(fRead files).bind fun x2 =>
(sSound x2).bind fun x4 =>
if (!x4)=true then (some 22)
 else ((sPairs x2).bind fun x6 =>
(eqPairs x6 files).bind fun x8 =>
if (!x8)=true then (some 22)
 else (some 0))
noncomputable def fNew :Option (List T_api_Pair) :=
(sPairs (fset ([47]) (true,([]:List UInt8)) (fnil:(List UInt8)→Option T_files_file))).bind fun x3 =>
some x3
noncomputable def rSamePairs (a_:List T_api_Pair) (b_:List T_api_Pair):Option Bool :=
if ((a_).length:Int)=((b_).length:Int) then (Option.bind (α:=(Unit) ⊕ Bool) (loopO (fun (s151:Int)=>if s151<((a_).length:Int) then ((idxO a_ s151).bind fun x153 =>
(idxO b_ s151).bind fun x160 =>
if x153.1=x160.1 then ((idxO a_ s151).bind fun x168 =>
(idxO b_ s151).bind fun x174 =>
if x168.2=x174.2 then (some (.inl (IntKind.i64.wrap (s151+1))))
 else (some (.inr (.inr false))))
 else (some (.inr (.inr false))))
 else (some (.inr (.inl ())))) 0) fun o92=>Sum.elim (fun r92=>some true) (fun rv=>some rv) o92)
 else (some false)
noncomputable def rGreat (list:List T_api_Pair):Option Bool :=
Option.bind (α:=(Int) ⊕ Bool) (loopO (fun (s149:Int×Int)=>if s149.2<((list).length:Int) then (if s149.1≤8000 then ((idxO list s149.2).bind fun x152 =>
if 8000<((x152.1).length:Int) then (some (.inr (.inr true)))
 else ((idxO list s149.2).bind fun x160 =>
if 8000<((x160.2).length:Int) then (some (.inr (.inr true)))
 else ((idxO list s149.2).bind fun x167 =>
(idxO list s149.2).bind fun x173 =>
some (.inl (IntKind.i64.wrap (s149.1+(IntKind.i64.wrap ((IntKind.i64.wrap (8+((x167.1).length:Int)))+((x173.2).length:Int)))),IntKind.i64.wrap (s149.2+1))))))
 else (some (.inr (.inl s149.1))))
 else (some (.inr (.inl s149.1)))) (0,0)) fun o90=>Sum.elim (fun r90=>some (decide (8000<r90))) (fun rv=>some rv) o90
noncomputable def rGreatOp (o:T_api_Op):Option Bool :=
if 400<((o.2.1).length:Int) then (some true)
 else (if 400<((o.2.2.1).length:Int) then (some true)
 else (some (decide (400<((o.2.2.2.2.2).length:Int)))))
noncomputable def rSameT (a_:List (List UInt8)) (b_:List (List UInt8)):Option Bool :=
if ((a_).length:Int)=((b_).length:Int) then (Option.bind (α:=(Unit) ⊕ Bool) (loopO (fun (s46:Int)=>if s46<((a_).length:Int) then ((idxO a_ s46).bind fun x48 =>
(idxO b_ s46).bind fun x51 =>
if x48=x51 then (some (.inl (IntKind.i64.wrap (s46+1))))
 else (some (.inr (.inr false))))
 else (some (.inr (.inl ())))) 0) fun o29=>Sum.elim (fun r29=>some true) (fun rv=>some rv) o29)
 else (some false)
noncomputable def rSameAns (a_:T_api_Answer) (b_:T_api_Answer):Option Bool :=
if a_.1=b_.1 then (if a_.2.1=b_.2.1 then (if a_.2.2.1=b_.2.2.1 then ((rSameT a_.2.2.2 b_.2.2.2).bind fun x16 =>
some x16)
 else (some false))
 else (some false))
 else (some false)
noncomputable def lSpeaks :Option Bool :=
(fNew).bind fun x1 =>
(fDo x1 (2,[47,97],[],0,0,([]:List UInt8))).bind fun x3 =>
(fDo x3.1 (1,[47,97,47,98],[],0,0,([]:List UInt8))).bind fun x7 =>
(u8O 120).bind fun x12 =>
(u8O 121).bind fun x13 =>
(fDo x7.1 (3,[47,97,47,98],[],2,0,[x12,x13])).bind fun x14 =>
(fDo x14.1 (5,[47,97,47,98],[],0,9,([]:List UInt8))).bind fun x18 =>
(fDo x14.1 (8,[47],[],0,0,([]:List UInt8))).bind fun x22 =>
(fDo x14.1 (7,[47,97],[],0,0,([]:List UInt8))).bind fun x26 =>
if (IntKind.i64.wrap ((IntKind.i64.wrap (x3.2.1+x7.2.1))+x14.2.1))=0 then (if x18.2.2.2.1=([0,0,120,121]) then (if ((x22.2.2.2.2).length:Int)=1 then ((idxO x22.2.2.2.2 0).bind fun x53 =>
if x53=([97]) then (some (decide (x26.2.1=95)))
 else (some false))
 else (some false))
 else (some false))
 else (some false)
noncomputable def lGreat (ps:List T_api_Pair) (o:T_api_Op):Option Bool :=
(rGreat ps).bind fun x4 =>
if x4=true then (some true)
 else (if 60<((ps).length:Int) then (some true)
 else ((rGreatOp o).bind fun x7 =>
some x7))
noncomputable def m_triremeref09_Name (x0_:List UInt8):Option Bool :=
if ((x0_).length:Int)<1 then (some false)
 else (if 8<((x0_).length:Int) then (some false)
 else (Option.bind (α:=(Unit) ⊕ Bool) (loopO (fun (s40:Int)=>if s40<((x0_).length:Int) then ((idxO x0_ s40).bind fun x42 =>
if ((x42).toNat:Int)<33 then (some (.inr (.inr false)))
 else ((idxO x0_ s40).bind fun x44 =>
if 126<((x44).toNat:Int) then (some (.inr (.inr false)))
 else ((idxO x0_ s40).bind fun x46 =>
if ((x46).toNat:Int)=47 then (some (.inr (.inr false)))
 else (some (.inl (IntKind.i64.wrap (s40+1)))))))
 else (some (.inr (.inl ())))) 0) fun o25=>Sum.elim (fun r25=>some true) (fun rv=>some rv) o25))
noncomputable def m_triremeref09_Split (x0_:List UInt8):Option ((List (List UInt8))×Bool) :=
if x0_=([47]) then (some (([]:List (List UInt8)),true))
 else (if ((x0_).length:Int)<2 then (some (([]:List (List UInt8)),false))
 else (if 24<((x0_).length:Int) then (some (([]:List (List UInt8)),false))
 else ((idxO x0_ 0).bind fun x6 =>
if ((x6).toNat:Int)=47 then (Option.bind (α:=((List (List UInt8))) ⊕ ((List (List UInt8))×Bool)) (loopO (fun (s221:(List (List UInt8))×Int×Int)=>if s221.2.2≤((x0_).length:Int) then (Option.bind (α:=((List (List UInt8))×Int) ⊕ ((List (List UInt8))×Bool)) (if s221.2.2<((x0_).length:Int) then ((idxO x0_ s221.2.2).bind fun x246 =>
if ((x246).toNat:Int)=47 then ((slcO x0_ s221.2.1 s221.2.2).bind fun x248 =>
(m_triremeref09_Name x248).bind fun x249 =>
if (!x249)=true then (some (.inr (([]:List (List UInt8)),false)))
 else ((slcO x0_ s221.2.1 s221.2.2).bind fun x252 =>
(appO s221.1 ([x252])).bind fun x255 =>
some (.inl (x255,IntKind.i64.wrap (s221.2.2+1)))))
 else (some (.inl (s221.1,s221.2.1))))
 else ((slcO x0_ s221.2.1 s221.2.2).bind fun x256 =>
(m_triremeref09_Name x256).bind fun x257 =>
if (!x257)=true then (some (.inr (([]:List (List UInt8)),false)))
 else ((slcO x0_ s221.2.1 s221.2.2).bind fun x260 =>
(appO s221.1 ([x260])).bind fun x263 =>
some (.inl (x263,IntKind.i64.wrap (s221.2.2+1)))))) fun o243=>Sum.elim (fun r243=>some (.inl (r243.1,r243.2,IntKind.i64.wrap (s221.2.2+1)))) (fun rv=>some (.inr (.inr rv))) o243)
 else (some (.inr (.inl s221.1)))) (([]:List (List UInt8)),1,1)) fun o135=>Sum.elim (fun r135=>some (r135,true)) (fun rv=>some rv) o135)
 else (some (([]:List (List UInt8)),false)))))
noncomputable def m_triremeref09_Join (x0_:List (List UInt8)):Option (List UInt8) :=
if ((x0_).length:Int)=0 then (some ([47]))
 else (Option.bind (α:=((List UInt8))) (loopO (fun (s35:(List UInt8)×Int)=>if s35.2<((x0_).length:Int) then ((idxO x0_ s35.2).bind fun x37 =>
(appO ([47]) x37).bind fun x40 =>
(appO s35.1 x40).bind fun x41 =>
some (.inl (x41,IntKind.i64.wrap (s35.2+1))))
 else (some (.inr s35.1))) ([],0)) fun r22=>some r22)
noncomputable def m_triremeref09_Right (x0_:List UInt8):Option Bool :=
(m_triremeref09_Split x0_).bind fun x1 =>
some x1.2
noncomputable def m_triremeref09_Parent (x0_:List UInt8):Option (List UInt8) :=
(m_triremeref09_Split x0_).bind fun x1 =>
if ((x1.1).length:Int)=0 then (some ([]))
 else ((slcO x1.1 0 (IntKind.i64.wrap (((x1.1).length:Int) - 1))).bind fun x5 =>
(m_triremeref09_Join x5).bind fun x6 =>
some x6)
noncomputable def m_triremeref09_Base (x0_:List UInt8):Option (List UInt8) :=
(m_triremeref09_Split x0_).bind fun x1 =>
if ((x1.1).length:Int)=0 then (some ([]))
 else ((idxO x1.1 (IntKind.i64.wrap (((x1.1).length:Int) - 1))).bind fun x4 =>
some x4)
noncomputable def m_triremeref09_Within (x0_:List UInt8) (x1_:List UInt8):Option Bool :=
(m_triremeref09_Right x0_).bind fun x1 =>
if (!x1)=true then (some false)
 else ((m_triremeref09_Right x1_).bind fun x3 =>
if (!x3)=true then (some false)
 else (if x0_=([47]) then (some true)
 else (if x0_=x1_ then (some true)
 else (if ((x0_).length:Int)<((x1_).length:Int) then ((slcO x1_ 0 ((x0_).length:Int)).bind fun x8 =>
if x8=x0_ then ((idxO x1_ ((x0_).length:Int)).bind fun x10 =>
some (decide (((x10).toNat:Int)=47)))
 else (some false))
 else (some false)))))
noncomputable def m_triremeref11_Find (x0_:List T_triremeref11_Node) (x1_:List UInt8):Option Int :=
Option.bind (α:=(Unit) ⊕ Int) (loopO (fun (s39:Int)=>if s39<((x0_).length:Int) then ((idxO x0_ s39).bind fun x41 =>
if x41.1=x1_ then (some (.inr (.inr s39)))
 else (some (.inl (IntKind.i64.wrap (s39+1)))))
 else (some (.inr (.inl ())))) 0) fun o24=>Sum.elim (fun r24=>some (-1)) (fun rv=>some rv) o24
noncomputable def m_triremeref11_put (x0_:List T_api_Pair) (x1_:T_api_Pair):Option (List T_api_Pair) :=
Option.bind (α:=((List T_api_Pair))) ((appO ([]:List T_api_Pair) x0_).bind fun x26 =>
(appO x26 ([x1_])).bind fun x29 =>
some x29) fun r22=>Option.bind (α:=((List T_api_Pair))) (loopO (fun (s169:(List T_api_Pair)×Int)=>if 0<s169.2 then ((idxO s169.1 s169.2).bind fun x172 =>
(idxO s169.1 (IntKind.i64.wrap (s169.2 - 1))).bind fun x179 =>
if (lssB x172.1 x179.1)=true then ((idxO s169.1 s169.2).bind fun x186 =>
(idxO s169.1 (IntKind.i64.wrap (s169.2 - 1))).bind fun x189 =>
(idxO s169.1 s169.2).bind fun x191 =>
(idxO ((s169.1).set (s169.2:Int).toNat x189) (IntKind.i64.wrap (s169.2 - 1))).bind fun x193 =>
some (.inl (((s169.1).set (s169.2:Int).toNat x189).set (IntKind.i64.wrap (s169.2 - 1):Int).toNat x186,IntKind.i64.wrap (s169.2 - 1))))
 else (some (.inr s169.1)))
 else (some (.inr s169.1))) (r22,IntKind.i64.wrap (((r22).length:Int) - 1))) fun r117=>some r117
noncomputable def m_triremeref11_Pairs (x0_:List T_triremeref11_Node):Option (List T_api_Pair) :=
Option.bind (α:=((List T_api_Pair))) (loopO (fun (s5697:(List T_api_Pair)×Int)=>if s5697.2<((x0_).length:Int) then (Option.bind (α:=((List T_api_Pair))) ((idxO x0_ s5697.2).bind fun x6269 =>
if x6269.2.1=true then ((appO ([110]) x6269.1).bind fun x6276 =>
(u8O 100).bind fun x6279 =>
(m_triremeref11_put s5697.1 (x6276,[x6279])).bind fun x6280 =>
some x6280)
 else ((appO ([110]) x6269.1).bind fun x6282 =>
(quoO .i64 ((x6269.2.2).length:Int) 256).bind fun x6284 =>
(remO ((x6269.2.2).length:Int) 256).bind fun x6285 =>
(u8O 102).bind fun x6287 =>
(u8O (IntKind.u8.wrap (x6284))).bind fun x6288 =>
(u8O (IntKind.u8.wrap (x6285))).bind fun x6289 =>
(m_triremeref11_put s5697.1 (x6282,[x6287,x6288,x6289])).bind fun x6290 =>
Option.bind (α:=((List T_api_Pair))) (loopO (fun (s6745:(List T_api_Pair)×Int)=>if (IntKind.i64.wrap (64 * s6745.2))<((x6269.2.2).length:Int) then (Option.bind (α:=((List T_api_Pair))) (Option.bind (α:=(Int)) (if ((x6269.2.2).length:Int)<(IntKind.i64.wrap ((IntKind.i64.wrap (64 * s6745.2))+64)) then (some ((x6269.2.2).length:Int))
 else (some (IntKind.i64.wrap ((IntKind.i64.wrap (64 * s6745.2))+64)))) fun r6794=>Option.bind (α:=((List T_api_Pair))) ((appO ([99]) x6269.1).bind fun x6817 =>
(slcO x6269.2.2 (IntKind.i64.wrap (64 * s6745.2)) r6794).bind fun x6819 =>
(u8O 0).bind fun x6822 =>
(u8O (IntKind.u8.wrap (s6745.2))).bind fun x6823 =>
(appO x6817 ([x6822,x6823])).bind fun x6825 =>
(m_triremeref11_put s6745.1 (x6825,x6819)).bind fun x6826 =>
some x6826) fun r6815=>some r6815) fun r6791=>some (.inl (r6791,IntKind.i64.wrap (s6745.2+1))))
 else (some (.inr s6745.1))) (x6290,0)) fun r6563=>some r6563)) fun r6267=>some (.inl (r6267,IntKind.i64.wrap (s5697.2+1))))
 else (some (.inr s5697.1))) (([]:List T_api_Pair),0)) fun r3419=>some r3419
noncomputable def m_triremeref11_Look (x0_:List T_triremeref11_Node) (x1_:List UInt8):Option (Int×Int) :=
(m_triremeref09_Split x1_).bind fun x2 =>
if (!x2.2)=true then (some (-1,90))
 else (Option.bind (α:=(Unit) ⊕ (Int×Int)) (loopO (fun (s67:Int)=>if s67<((x2.1).length:Int) then ((slcO x2.1 0 s67).bind fun x70 =>
(m_triremeref09_Join x70).bind fun x71 =>
(m_triremeref11_Find x0_ x71).bind fun x72 =>
if x72<0 then (some (.inr (.inr (-1,91))))
 else ((idxO x0_ x72).bind fun x74 =>
if (!x74.2.1)=true then (some (.inr (.inr (-1,93))))
 else (some (.inl (IntKind.i64.wrap (s67+1))))))
 else (some (.inr (.inl ())))) 0) fun o42=>Sum.elim (fun r42=>(m_triremeref11_Find x0_ x1_).bind fun x80 =>
if x80<0 then (some (-1,91))
 else (some (x80,0))) (fun rv=>some rv) o42)
noncomputable def m_triremeref11_Room (x0_:List T_triremeref11_Node) (x1_:List UInt8):Option Int :=
(m_triremeref09_Right x1_).bind fun x2 =>
if (!x2)=true then (some 90)
 else (if x1_=([47]) then (some 92)
 else ((m_triremeref09_Parent x1_).bind fun x5 =>
(m_triremeref11_Look x0_ x5).bind fun x6 =>
if x6.2=0 then ((idxO x0_ x6.1).bind fun x8 =>
if (!x8.2.1)=true then (some 93)
 else ((m_triremeref11_Find x0_ x1_).bind fun x14 =>
if 0≤x14 then (some 92)
 else (some 0)))
 else (some x6.2)))
noncomputable def m_triremeref11_Below (x0_:List T_triremeref11_Node) (x1_:List UInt8):Option (List (List UInt8)) :=
Option.bind (α:=((List (List UInt8)))) (loopO (fun (s1147:(List (List UInt8))×Int)=>if s1147.2<((x0_).length:Int) then (Option.bind (α:=((List (List UInt8)))) ((idxO x0_ s1147.2).bind fun x1264 =>
if x1264.1=([47]) then (some s1147.1)
 else ((m_triremeref09_Parent x1264.1).bind fun x1270 =>
if x1270=x1_ then ((m_triremeref09_Base x1264.1).bind fun x1272 =>
(appO s1147.1 ([x1272])).bind fun x1275 =>
Option.bind (α:=((List (List UInt8)))) (loopO (fun (s1359:(List (List UInt8))×Int)=>if 0<s1359.2 then ((idxO s1359.1 s1359.2).bind fun x1362 =>
(idxO s1359.1 (IntKind.i64.wrap (s1359.2 - 1))).bind fun x1365 =>
if (lssB x1362 x1365)=true then ((idxO s1359.1 s1359.2).bind fun x1368 =>
(idxO s1359.1 (IntKind.i64.wrap (s1359.2 - 1))).bind fun x1370 =>
(idxO s1359.1 s1359.2).bind fun x1372 =>
(idxO ((s1359.1).set (s1359.2:Int).toNat x1370) (IntKind.i64.wrap (s1359.2 - 1))).bind fun x1374 =>
some (.inl (((s1359.1).set (s1359.2:Int).toNat x1370).set (IntKind.i64.wrap (s1359.2 - 1):Int).toNat x1368,IntKind.i64.wrap (s1359.2 - 1))))
 else (some (.inr s1359.1)))
 else (some (.inr s1359.1))) (x1275,IntKind.i64.wrap (((x1275).length:Int) - 1))) fun r1325=>some r1325)
 else (some s1147.1))) fun r1262=>some (.inl (r1262,IntKind.i64.wrap (s1147.2+1))))
 else (some (.inr s1147.1))) (([]:List (List UInt8)),0)) fun r689=>some r689
noncomputable def m_triremeref11_resized (x0_:List UInt8) (x1_:Int):Option (List UInt8) :=
Option.bind (α:=((List UInt8))) (loopO (fun (s287:(List UInt8)×Int)=>if s287.2<x1_ then (Option.bind (α:=((List UInt8))) (Option.bind (α:=((List UInt8))) (if s287.2<((x0_).length:Int) then ((idxO x0_ s287.2).bind fun x333 =>
(u8O ((x333).toNat:Int)).bind fun x337 =>
(appO s287.1 ([x337])).bind fun x339 =>
some x339)
 else ((u8O 0).bind fun x341 =>
(appO s287.1 ([x341])).bind fun x343 =>
some x343)) fun r330=>some r330) fun r316=>some (.inl (r316,IntKind.i64.wrap (s287.2+1))))
 else (some (.inr s287.1))) (([]:List UInt8),0)) fun r173=>some r173
noncomputable def m_triremeref11_no (x0_:List T_triremeref11_Node) (x1_:Int):Option ((List T_triremeref11_Node)×T_api_Answer) :=
some (x0_,(x1_,0,([]:List UInt8),([]:List (List UInt8))))
noncomputable def rChange (list:List T_triremeref11_Node) (oq:T_api_Op):Option ((List T_triremeref11_Node)×T_api_Answer) :=
(m_triremeref11_Look list oq.2.1).bind fun x9 =>
if x9.2=0 then ((idxO list x9.1).bind fun x14 =>
if x14.2.1=true then ((m_triremeref11_no list 94).bind fun x21 =>
some (x21.1,x21.2))
 else (Option.bind (α:=(Bool)) (if oq.1=4 then (if oq.1=3 then (some false)
 else (some (decide (oq.2.2.2.2.1<0))))
 else (if oq.2.2.2.1<0 then (some true)
 else (if oq.1=3 then (some false)
 else (some (decide (oq.2.2.2.2.1<0)))))) fun r28=>if r28=true then ((m_triremeref11_no list 1).bind fun x34 =>
some (x34.1,x34.2))
 else (Option.bind (α:=((Int×(List UInt8))×(List UInt8)) ⊕ ((List T_triremeref11_Node)×T_api_Answer)) (Option.bind (α:=((Int×(List UInt8))×(List UInt8)) ⊕ ((List T_triremeref11_Node)×T_api_Answer)) (if oq.1=5 then (Option.bind (α:=((List UInt8))) (loopO (fun (s6952:(List UInt8)×Int)=>if s6952.2<((x14.2.2).length:Int) then (Option.bind (α:=((List UInt8))) (Option.bind (α:=(Bool)) (if oq.2.2.2.1≤s6952.2 then (if (IntKind.i64.wrap (s6952.2 - oq.2.2.2.1))<oq.2.2.2.2.1 then (some (decide ((IntKind.i64.wrap (s6952.2 - oq.2.2.2.1))<64)))
 else (some false))
 else (some false)) fun r6982=>Option.bind (α:=((List UInt8))) (if r6982=true then ((idxO x14.2.2 s6952.2).bind fun x6996 =>
(u8O ((x6996).toNat:Int)).bind fun x7000 =>
(appO s6952.1 ([x7000])).bind fun x7002 =>
some x7002)
 else (some s6952.1)) fun r6993=>some r6993) fun r6978=>some (.inl (r6978,IntKind.i64.wrap (s6952.2+1))))
 else (some (.inr s6952.1))) (([]:List UInt8),0)) fun r6850=>some (.inl ((((x14.2.2).length:Int),r6850),x14.2.2)))
 else (Option.bind (α:=(Int×(List UInt8)) ⊕ ((List T_triremeref11_Node)×T_api_Answer)) (if oq.1=4 then (if 192<oq.2.2.2.2.1 then ((m_triremeref11_no list 97).bind fun x7962 =>
some (.inr (x7962.1,x7962.2)))
 else ((m_triremeref11_resized x14.2.2 oq.2.2.2.2.1).bind fun x7965 =>
some (.inl (0,x7965))))
 else (if 192<oq.2.2.2.1 then ((m_triremeref11_no list 97).bind fun x7968 =>
some (.inr (x7968.1,x7968.2)))
 else (if 192<(IntKind.i64.wrap (oq.2.2.2.1+((oq.2.2.2.2.2).length:Int))) then ((m_triremeref11_no list 97).bind fun x7972 =>
some (.inr (x7972.1,x7972.2)))
 else (Option.bind (α:=((List UInt8))) (loopO (fun (s8758:(List UInt8)×Int)=>if s8758.2<((oq.2.2.2.2.2).length:Int) then (Option.bind (α:=((List UInt8))) (Option.bind (α:=((List UInt8))) (if ((s8758.1).length:Int)≤(IntKind.i64.wrap (oq.2.2.2.1+s8758.2)) then ((m_triremeref11_resized s8758.1 (IntKind.i64.wrap ((IntKind.i64.wrap (oq.2.2.2.1+s8758.2))+1))).bind fun x8845 =>
some x8845)
 else (some s8758.1)) fun r8842=>Option.bind (α:=((List UInt8))) ((slcO r8842 0 (IntKind.i64.wrap (oq.2.2.2.1+s8758.2))).bind fun x8883 =>
(idxO oq.2.2.2.2.2 s8758.2).bind fun x8884 =>
(slcO r8842 (IntKind.i64.wrap ((IntKind.i64.wrap (oq.2.2.2.1+s8758.2))+1)) ((r8842).length:Int)).bind fun x8888 =>
(appO ([]:List UInt8) x8883).bind fun x8891 =>
(u8O ((x8884).toNat:Int)).bind fun x8893 =>
(appO x8891 ([x8893])).bind fun x8895 =>
(appO x8895 x8888).bind fun x8897 =>
some x8897) fun r8880=>some r8880) fun r8837=>some (.inl (r8837,IntKind.i64.wrap (s8758.2+1))))
 else (some (.inr s8758.1))) (x14.2.2,0)) fun r8444=>some (.inl (((oq.2.2.2.2.2).length:Int),r8444)))))) fun o7958=>Sum.elim (fun r7958=>some (.inl ((r7958.1,([]:List UInt8)),r7958.2))) (fun rv=>some (.inr rv)) o7958)) fun o6695=>Sum.elim (fun r6695=>some (.inl ((r6695.1.1,r6695.1.2),r6695.2))) (fun rv=>some (.inr rv)) o6695) fun o4475=>Sum.elim (fun r4475=>(appO ([]:List T_triremeref11_Node) list).bind fun x8917 =>
(idxO x8917 x9.1).bind fun x8918 =>
some ((x8917).set (x9.1:Int).toNat (x14.1,false,r4475.2),(0,r4475.1.1,r4475.1.2,([]:List (List UInt8))))) (fun rv=>some rv) o4475)))
 else ((m_triremeref11_no list x9.2).bind fun x11 =>
some (x11.1,x11.2))
noncomputable def m_triremeref11_rename (x0_:List T_triremeref11_Node) (x1_:T_api_Op):Option ((List T_triremeref11_Node)×T_api_Answer) :=
(m_triremeref09_Right x1_.2.1).bind fun x9 =>
if (!x9)=true then ((m_triremeref11_no x0_ 90).bind fun x11 =>
some (x11.1,x11.2))
 else ((m_triremeref09_Right x1_.2.2.1).bind fun x14 =>
if (!x14)=true then ((m_triremeref11_no x0_ 90).bind fun x16 =>
some (x16.1,x16.2))
 else ((m_triremeref11_Look x0_ x1_.2.1).bind fun x19 =>
if x19.2=0 then (if x1_.2.1=([47]) then ((m_triremeref11_no x0_ 96).bind fun x25 =>
some (x25.1,x25.2))
 else ((m_triremeref09_Within x1_.2.1 x1_.2.2.1).bind fun x28 =>
if x28=true then ((m_triremeref11_no x0_ 96).bind fun x30 =>
some (x30.1,x30.2))
 else ((m_triremeref11_Room x0_ x1_.2.2.1).bind fun x33 =>
if x33=0 then (Option.bind (α:=((List T_triremeref11_Node)) ⊕ ((List T_triremeref11_Node)×T_api_Answer)) (loopO (fun (s312:(List T_triremeref11_Node)×Int)=>if s312.2<((x0_).length:Int) then (Option.bind (α:=((List T_triremeref11_Node)) ⊕ ((List T_triremeref11_Node)×T_api_Answer)) ((idxO x0_ s312.2).bind fun x342 =>
(m_triremeref09_Within x1_.2.1 x342.1).bind fun x348 =>
Option.bind (α:=((List UInt8)) ⊕ ((List T_triremeref11_Node)×T_api_Answer)) (if x348=true then ((slcO x342.1 ((x1_.2.1).length:Int) ((x342.1).length:Int)).bind fun x358 =>
(appO x1_.2.2.1 x358).bind fun x359 =>
if 24<((x359).length:Int) then ((m_triremeref11_no x0_ 90).bind fun x361 =>
some (.inr (x361.1,x361.2)))
 else (some (.inl x359)))
 else (some (.inl x342.1))) fun o356=>Sum.elim (fun r356=>(appO s312.1 ([(r356,x342.2.1,x342.2.2)])).bind fun x366 =>
some (.inl x366)) (fun rv=>some (.inr rv)) o356) fun o340=>Sum.elim (fun r340=>some (.inl (r340,IntKind.i64.wrap (s312.2+1)))) (fun rv=>some (.inr (.inr rv))) o340)
 else (some (.inr (.inl s312.1)))) (([]:List T_triremeref11_Node),0)) fun o202=>Sum.elim (fun r202=>some (r202,(0,0,([]:List UInt8),([]:List (List UInt8))))) (fun rv=>some rv) o202)
 else ((m_triremeref11_no x0_ x33).bind fun x35 =>
some (x35.1,x35.2)))))
 else ((m_triremeref11_no x0_ x19.2).bind fun x21 =>
some (x21.1,x21.2))))
noncomputable def m_triremeref11_Do (x0_:List T_triremeref11_Node) (x1_:T_api_Op):Option ((List T_triremeref11_Node)×T_api_Answer) :=
Option.bind (α:=(Unit) ⊕ ((List T_triremeref11_Node)×T_api_Answer)) (Option.bind (α:=(Bool)) (if x1_.1=1 then (some (decide (x1_.1=1)))
 else (some (decide (x1_.1=2)))) fun r275=>Option.bind (α:=(Unit) ⊕ ((List T_triremeref11_Node)×T_api_Answer)) (if r275=true then ((m_triremeref11_Room x0_ x1_.2.1).bind fun x409 =>
if x409=0 then (Option.bind (α:=((List T_triremeref11_Node))) ((appO ([]:List T_triremeref11_Node) x0_).bind fun x435 =>
(appO x435 ([(x1_.2.1,decide (x1_.1=2),([]:List UInt8))])).bind fun x438 =>
some x438) fun r431=>some (.inr (r431,(0,0,([]:List UInt8),([]:List (List UInt8))))))
 else ((m_triremeref11_no x0_ x409).bind fun x411 =>
some (.inr (x411.1,x411.2))))
 else (Option.bind (α:=(Bool)) (if x1_.1=3 then (some (decide (x1_.1=3)))
 else (Option.bind (α:=(Bool)) (if x1_.1=4 then (some (decide (x1_.1=4)))
 else (some (decide (x1_.1=5)))) fun r457=>some r457)) fun r454=>Option.bind (α:=(Unit) ⊕ ((List T_triremeref11_Node)×T_api_Answer)) (if r454=true then ((rChange x0_ (x1_.1,x1_.2.1,x1_.2.2.1,x1_.2.2.2.1,x1_.2.2.2.2.1,x1_.2.2.2.2.2)).bind fun x500 =>
some (.inr (x500.1,x500.2)))
 else (Option.bind (α:=(Unit) ⊕ ((List T_triremeref11_Node)×T_api_Answer)) (if x1_.1=6 then ((m_triremeref11_rename x0_ (x1_.1,x1_.2.1,x1_.2.2.1,x1_.2.2.2.1,x1_.2.2.2.2.1,x1_.2.2.2.2.2)).bind fun x522 =>
some (.inr (x522.1,x522.2)))
 else (Option.bind (α:=(Bool)) (if x1_.1=7 then (some (decide (x1_.1=7)))
 else (Option.bind (α:=(Bool)) (if x1_.1=8 then (some (decide (x1_.1=8)))
 else (some (decide (x1_.1=9)))) fun r532=>some r532)) fun r529=>if r529=true then (some (.inl ()))
 else ((m_triremeref11_no x0_ 1).bind fun x535 =>
some (.inr (x535.1,x535.2))))) fun o520=>Sum.elim (fun r520=>some (.inl ())) (fun rv=>some (.inr rv)) o520)) fun o498=>Sum.elim (fun r498=>some (.inl ())) (fun rv=>some (.inr rv)) o498)) fun o407=>Sum.elim (fun r407=>some (.inl ())) (fun rv=>some (.inr rv)) o407) fun o273=>Sum.elim (fun r273=>(m_triremeref11_Look x0_ x1_.2.1).bind fun x538 =>
if x538.2=0 then (Option.bind (α:=(T_triremeref11_Node×(List (List UInt8)))) ((idxO x0_ x538.1).bind fun x556 =>
(m_triremeref11_Below x0_ x1_.2.1).bind fun x559 =>
some (x556,x559)) fun r552=>if x1_.1=9 then (if r552.1.2.1=true then ((u8O 100).bind fun x570 =>
some (x0_,(0,((r552.2).length:Int),[x570],([]:List (List UInt8)))))
 else ((u8O 102).bind fun x572 =>
some (x0_,(0,((r552.1.2.2).length:Int),[x572],([]:List (List UInt8))))))
 else (if x1_.1=8 then (if (!r552.1.2.1)=true then ((m_triremeref11_no x0_ 93).bind fun x577 =>
some (x577.1,x577.2))
 else (Option.bind (α:=((List (List UInt8)))) (loopO (fun (s784:(List (List UInt8))×Int)=>if s784.2<((r552.2).length:Int) then (Option.bind (α:=((List (List UInt8)))) ((idxO r552.2 s784.2).bind fun x807 =>
if (gtrB x807 x1_.2.2.1)=true then (Option.bind (α:=((List (List UInt8)))) (if ((s784.1).length:Int)<6 then ((idxO r552.2 s784.2).bind fun x820 =>
(appO s784.1 ([x820])).bind fun x824 =>
some x824)
 else (some s784.1)) fun r817=>some r817)
 else (some s784.1)) fun r805=>some (.inl (r805,IntKind.i64.wrap (s784.2+1))))
 else (some (.inr s784.1))) (([]:List (List UInt8)),0)) fun r702=>some (x0_,(0,((r552.2).length:Int),([]:List UInt8),r702))))
 else (if x1_.2.1=([47]) then ((m_triremeref11_no x0_ 96).bind fun x826 =>
some (x826.1,x826.2))
 else (if 0<((r552.2).length:Int) then ((m_triremeref11_no x0_ 95).bind fun x830 =>
some (x830.1,x830.2))
 else ((slcO x0_ 0 x538.1).bind fun x834 =>
(slcO x0_ (IntKind.i64.wrap (x538.1+1)) ((x0_).length:Int)).bind fun x836 =>
(appO ([]:List T_triremeref11_Node) x834).bind fun x839 =>
(appO x839 x836).bind fun x841 =>
some (x841,(0,0,([]:List UInt8),([]:List (List UInt8)))))))))
 else ((m_triremeref11_no x0_ x538.2).bind fun x540 =>
some (x540.1,x540.2))) (fun rv=>some rv) o273
noncomputable def rFindO (list:List T_triremeref11_Node) (p:List UInt8):Option Int :=
Option.bind (α:=(Unit) ⊕ Int) (loopO (fun (s39:Int)=>if s39<((list).length:Int) then ((idxO list s39).bind fun x41 =>
if x41.1=p then (some (.inr (.inr s39)))
 else (some (.inl (IntKind.i64.wrap (s39+1)))))
 else (some (.inr (.inl ())))) 0) fun o24=>Sum.elim (fun r24=>some (-1)) (fun rv=>some rv) o24
noncomputable def rCopyPairs (list:List T_api_Pair):Option (List T_api_Pair) :=
Option.bind (α:=((List T_api_Pair))) (loopO (fun (s417:(List T_api_Pair)×Int)=>if s417.2<((list).length:Int) then (Option.bind (α:=((List T_api_Pair))) ((idxO list s417.2).bind fun x461 =>
(idxO list s417.2).bind fun x468 =>
(appO ([]:List UInt8) x461.1).bind fun x476 =>
(appO ([]:List UInt8) x468.2).bind fun x479 =>
(appO s417.1 ([(x476,x479)])).bind fun x482 =>
some x482) fun r459=>some (.inl (r459,IntKind.i64.wrap (s417.2+1))))
 else (some (.inr s417.1))) (([]:List T_api_Pair),0)) fun r251=>some r251
noncomputable def rCopyOp (oq:T_api_Op):Option T_api_Op :=
(appO ([]:List UInt8) oq.2.2.2.2.2).bind fun x10 =>
some (oq.1,oq.2.1,oq.2.2.1,oq.2.2.2.1,oq.2.2.2.2.1,x10)
noncomputable def rSameOp (a_:T_api_Op) (b_:T_api_Op):Option Bool :=
if a_.1=b_.1 then (if a_.2.1=b_.2.1 then (if a_.2.2.1=b_.2.2.1 then (if a_.2.2.2.1=b_.2.2.2.1 then (if a_.2.2.2.2.1=b_.2.2.2.2.1 then (some (decide (a_.2.2.2.2.2=b_.2.2.2.2.2)))
 else (some false))
 else (some false))
 else (some false))
 else (some false))
 else (some false)
noncomputable def rRising (list:List T_api_Pair):Option Bool :=
Option.bind (α:=(Unit) ⊕ Bool) (loopO (fun (s79:Int)=>if s79<((list).length:Int) then ((idxO list (IntKind.i64.wrap (s79 - 1))).bind fun x81 =>
(idxO list s79).bind fun x88 =>
if (geqB x81.1 x88.1)=true then (some (.inr (.inr false)))
 else (some (.inl (IntKind.i64.wrap (s79+1)))))
 else (some (.inr (.inl ())))) 1) fun o48=>Sum.elim (fun r48=>some true) (fun rv=>some rv) o48
noncomputable def rNodes (pairs:List T_api_Pair):Option ((List T_triremeref11_Node)×Bool) :=
Option.bind (α:=((List T_triremeref11_Node))) (loopO (fun (s267:(List T_triremeref11_Node)×Int)=>if s267.2<((pairs).length:Int) then (Option.bind (α:=((List T_triremeref11_Node))) ((idxO pairs s267.2).bind fun x296 =>
(idxO pairs s267.2).bind fun x303 =>
if ((x296.1).length:Int)<1 then (some s267.1)
 else ((idxO x296.1 0).bind fun x310 =>
if ((x310).toNat:Int)=110 then (if ((x303.2).length:Int)<1 then (some s267.1)
 else ((slcO x296.1 1 ((x296.1).length:Int)).bind fun x316 =>
(appO s267.1 ([(x316,decide (x303.2=([100])),([]:List UInt8))])).bind fun x319 =>
some x319))
 else (some s267.1))) fun r294=>some (.inl (r294,IntKind.i64.wrap (s267.2+1))))
 else (some (.inr s267.1))) (([]:List T_triremeref11_Node),0)) fun r161=>Option.bind (α:=((List T_triremeref11_Node)) ⊕ ((List T_triremeref11_Node)×Bool)) (loopO (fun (s733:(List T_triremeref11_Node)×Int)=>if s733.2<((pairs).length:Int) then (Option.bind (α:=((List T_triremeref11_Node)) ⊕ ((List T_triremeref11_Node)×Bool)) ((idxO pairs s733.2).bind fun x777 =>
if ((x777.1).length:Int)<3 then (some (.inl s733.1))
 else ((idxO x777.1 0).bind fun x785 =>
if ((x785).toNat:Int)=99 then ((slcO x777.1 1 (IntKind.i64.wrap (((x777.1).length:Int) - 2))).bind fun x790 =>
(rFindO s733.1 x790).bind fun x791 =>
if x791<0 then (some (.inr (s733.1,false)))
 else ((idxO s733.1 x791).bind fun x793 =>
if x793.2.1=true then (some (.inr (s733.1,false)))
 else ((idxO s733.1 x791).bind fun x799 =>
(idxO pairs s733.2).bind fun x803 =>
(appO ([]:List UInt8) x799.2.2).bind fun x811 =>
(appO x811 x803.2).bind fun x813 =>
(idxO s733.1 x791).bind fun x814 =>
some (.inl ((s733.1).set (x791:Int).toNat (x814.1,x814.2.1,x813))))))
 else (some (.inl s733.1)))) fun o775=>Sum.elim (fun r775=>some (.inl (r775,IntKind.i64.wrap (s733.2+1)))) (fun rv=>some (.inr (.inr rv))) o775)
 else (some (.inr (.inl s733.1)))) (r161,0)) fun o567=>Sum.elim (fun r567=>Option.bind (α:=(Unit) ⊕ ((List T_triremeref11_Node)×Bool)) (loopO (fun (s1018:Int)=>if s1018<((r567).length:Int) then (Option.bind (α:=(Unit) ⊕ ((List T_triremeref11_Node)×Bool)) ((idxO r567 s1018).bind fun x1040 =>
(m_triremeref09_Right x1040.1).bind fun x1046 =>
if (!x1046)=true then (some (.inr (r567,false)))
 else (if 192<((x1040.2.2).length:Int) then (some (.inr (r567,false)))
 else (if x1040.1=([47]) then (if (!x1040.2.1)=true then (some (.inr (r567,false)))
 else (some (.inl ())))
 else ((m_triremeref09_Parent x1040.1).bind fun x1051 =>
(rFindO r567 x1051).bind fun x1052 =>
if x1052<0 then (some (.inr (r567,false)))
 else ((idxO r567 x1052).bind fun x1054 =>
if (!x1054.2.1)=true then (some (.inr (r567,false)))
 else (some (.inl ()))))))) fun o1039=>Sum.elim (fun r1039=>some (.inl (IntKind.i64.wrap (s1018+1)))) (fun rv=>some (.inr (.inr rv))) o1039)
 else (some (.inr (.inl ())))) 0) fun o937=>Sum.elim (fun r937=>(rFindO r567 ([47])).bind fun x1059 =>
if 0≤x1059 then ((rRising pairs).bind fun x1061 =>
if x1061=true then ((m_triremeref11_Pairs r567).bind fun x1063 =>
(rSamePairs x1063 pairs).bind fun x1065 =>
some (r567,x1065))
 else (some (r567,false)))
 else (some (r567,false))) (fun rv=>some rv) o937) (fun rv=>some rv) o567
noncomputable def lDoes (ps:List T_api_Pair) (oq:T_api_Op):Option Bool :=
(lSpeaks).bind fun x4 =>
if (!x4)=true then (some false)
 else ((lGreat ps oq).bind fun x6 =>
if x6=true then (some true)
 else (Option.bind (α:=((List T_api_Pair)×T_api_Op)) ((rCopyPairs ps).bind fun x25 =>
(rCopyOp oq).bind fun x27 =>
some (x25,x27)) fun r21=>(rNodes ps).bind fun x38 =>
(fCheck r21.1).bind fun x40 =>
if (decide (x40=0))=(x38.2) then ((fDo r21.1 r21.2).bind fun x42 =>
if (!x38.2)=true then ((fCheck r21.1).bind fun x47 =>
some (decide (x47=22)))
 else ((m_triremeref11_Do x38.1 oq).bind fun x48 =>
(rSameAns x42.2 x48.2).bind fun x52 =>
if (!x52)=true then (some false)
 else ((m_triremeref11_Pairs x48.1).bind fun x54 =>
(rSamePairs x42.1 x54).bind fun x56 =>
if (!x56)=true then (some false)
 else ((rSamePairs r21.1 ps).bind fun x58 =>
if (!x58)=true then (some false)
 else ((rSameOp r21.2 oq).bind fun x60 =>
if (!x60)=true then (some false)
 else ((m_triremeref11_Pairs x48.1).bind fun x62 =>
(rSamePairs x42.1 x62).bind fun x64 =>
some x64))))))
 else (some false)))
end Go.Proofs.YthcjjjnphgopjaaGreatDoor
namespace Go.Tri
open Go.RowKit Go.ChangeShapes Go.WideShapes Go.ChangeAt Go.Deep
section
variable {α β H:Type} (enc:TypeId×Value→H) (P:Program) (w:World) (base:Nat) (spare:Nat→Bool) (held:Bool)
def OpnW (R:Rp α) (e:TypeId) (p:α→Prop):Prop:=∀ (fuel:Nat) (cs:List Value) (x:DataW H×List MemPlace),DataW.trod enc P w base spare held fuel e cs=some x→(x.1.weights P e).all (·≤reachBytes)=true→∃ y,R.rd (baseOf w) cs y∧p y
end
section
variable {α β H:Type} {enc:TypeId×Value→H} {P:Program} {w:World} {base:Nat} {spare:Nat→Bool} {held:Bool} {R:Rp α} {Q:Rp β} {e t:TypeId} {p:α→Prop} {q:β→Prop}
theorem opnW_any (h:Opn enc P w base spare held R e):OpnW enc P w base spare held R e (fun _=>True):=fun fuel cs x hx _=>by
 obtain ⟨y,hy⟩:=h fuel cs x hx
 exact ⟨y,hy,trivial⟩
theorem all_mem {ns:List Nat} (h:ns.all (·≤reachBytes)=true) {n:Nat} (hn:n∈ns):n≤reachBytes:=by simpa using List.all_eq_true.1 h n hn
theorem weightsAll_mem:∀ {ds:List (DataW H)} {d:DataW H} {n:Nat},d∈ds→n∈d.weights P e→n∈DataW.weightsAll P e ds
 | c::ds,d,n,hd,hn=>by
  unfold DataW.weightsAll
  rcases List.mem_cons.1 hd with rfl | hd
  ·exact List.mem_append_left _ hn
  ·exact List.mem_append_right _ (weightsAll_mem hd hn)
theorem opnW_slice (hO:OpnW enc P w base spare held R e p) (ht:P.underlying t=some (.slice e)) (hC:P.cellsOf e=R.n) (hs:0<R.n) {fuel:Nat} {cs:List Value} {x:DataW H×List MemPlace} (h:DataW.trod enc P w base spare held fuel t cs=some x) (hw:(x.1.weights P t).all (·≤reachBytes)=true) :
  ∃ a xs cap,cs=[.slice a xs.length cap]∧(∀ (w':World) (S:Nat→Prop),(HP.sl R a cap xs).pr (baseOf w) w' S)∧(∀ x∈xs,p x)∧xs.length * P.bytesOf e≤reachBytes:=by
 rcases DataW.trod_slice ht h with ⟨rfl,rfl⟩ | ⟨a,len,cap,elems,rest,n,_,rfl,rfl,hb,hl,hm,hlen,hel,_,_⟩
 ·exact ⟨none,[],0,rfl,fun _ _=>⟨[],trivial,fun w' hw=>.inl ⟨rfl,rfl,rfl⟩⟩,(fun x hx=>absurd hx (by simp)),by simp⟩
 ·simp only [DataW.weights,ht] at hw
  have hw0:(elems.map (·.1)).length+(rest.map (·.1)).length=elems.length+rest.length:=by simp
  rw [hw0] at hw
  have hsz:(elems.length+rest.length) * P.bytesOf e≤reachBytes:=all_mem hw List.mem_cons_self
  have hwe:∀ y∈elems,(y.1.weights P e).all (·≤reachBytes)=true:=fun y hy=>List.all_eq_true.2 fun k hk=>by
   have:=all_mem hw (List.mem_cons_of_mem _ (List.mem_append_left _ (weightsAll_mem (List.mem_map_of_mem hy) hk)))
   simpa using this
  obtain ⟨css,hcl,hp⟩:=exists_list (p:=fun i (c:List Value)=>c.length=R.n∧(∃ y,R.rd (baseOf w) c y∧p y)∧∀ j u,c[j]?=some u→w.cell? ((a.add (i * R.n)).add j)=some u) len (fun i hin=>by
   have hi:=hel i hin
   rw [List.getElem?_eq_getElem (by omega:i<elems.length)] at hi
   obtain ⟨cs',hc,ht'⟩:=Option.bind_eq_some_iff.1 hi
   obtain ⟨y,hy,hpy⟩:=hO _ _ _ ht' (hwe _ (List.getElem_mem _))
   obtain ⟨_,hcl,hat⟩:=World.cells?_some hc
   have hln:=R.len hy
   refine ⟨cs',hln,⟨y,hy,hpy⟩,fun j u hj=>?_⟩
   rw [← hC,hat j (by rw [hC,← hln];exact (List.getElem?_eq_some_iff.1 hj).1)];exact hj)
  obtain ⟨xs,hxl,hx⟩:=exists_list (p:=fun i (y:α)=>p y∧∃ c,css[i]?=some c∧R.rd (baseOf w) c y) len (fun i hin=>by
   obtain ⟨c,hc⟩:∃ c,css[i]?=some c:=⟨_,List.getElem?_eq_getElem (by omega)⟩
   obtain ⟨_,⟨y,hy,hpy⟩,_⟩:=hp i c hc
   exact ⟨y,hpy,c,hc,hy⟩)
  have hrdl:RdL R (baseOf w) css xs:=rdl_of (by omega) fun i c y hc hy=>by
   obtain ⟨_,c',h1,h2⟩:=hx i y hy
   rw [hc] at h1
   injection h1 with h1
   rw [h1];exact h2
  have hsl:Sl w (.slice (some a) len cap) len css.flatten:=by
   by_cases h0:len=0
   ·obtain rfl:css=[]:=List.length_eq_zero_iff.1 (by omega)
    subst h0
    exact .inr (.inl ⟨a,cap,rfl,rfl,rfl⟩)
   ·obtain ⟨c0,hc0⟩:∃ c,css[0]?=some c:=⟨_,List.getElem?_eq_getElem (by omega)⟩
    obtain ⟨hl0,_,hq0⟩:=hp 0 c0 hc0
    obtain ⟨u0,hu0⟩:∃ u,c0[0]?=some u:=⟨_,List.getElem?_eq_getElem (by omega)⟩
    have hcell:=hq0 0 u0 hu0
    rw [Nat.zero_mul] at hcell
    obtain ⟨b,off,spot⟩:=a
    have hspot:spot=none:=by simpa [Addr.add] using World.cell?_spot hcell
    subst hspot
    refine .inr (.inr ⟨b,off,cap,rfl,by omega,?_⟩)
    have:=row_flat (w:=w) (fun c:List Value=>c) (ok:=fun c=>c.length=R.n) (fun c hc=>hc) css off (b:=b) (fun c hc=>by
     obtain ⟨i,hi,rfl⟩:=List.getElem_of_mem hc
     exact (hp i _ (List.getElem?_eq_getElem hi)).1) fun i c hc=>by
     intro j u hj
     have:=(hp i c hc).2.2 j u hj
     rw [add_none,add_none] at this;exact this
    rw [List.flatMap_id'] at this
    exact this
  subst hxl
  refine ⟨some a,xs,cap,rfl,fun _ _=>⟨css,hrdl,fun w' hw'=>sub_sl hw' hsl⟩,fun y hy=>?_,Nat.le_trans (Nat.mul_le_mul_right _ (by omega)) hsz⟩
  obtain ⟨i,hi,rfl⟩:=List.getElem_of_mem hy
  exact (hx i _ (List.getElem?_eq_getElem hi)).1
where
 rdl_of {α:Type} {R:Rp α} {B:Base}:∀ {css:List (List Value)} {xs:List α},css.length=xs.length→(∀ i c y,css[i]?=some c→xs[i]?=some y→R.rd B c y)→RdL R B css xs
  | [],[],_,_=>trivial
  | c::css,x::xs,hl,h=>⟨h 0 c x rfl rfl,rdl_of (by simpa using hl) fun i c' y h1 h2=>h (i+1) c' y (by simpa using h1) (by simpa using h2)⟩
theorem opnW_rSl (hO:OpnW enc P w base spare held R e p) (ht:P.underlying t=some (.slice e)) (hC:P.cellsOf e=R.n) (hs:0<R.n):OpnW enc P w base spare held (rSl R) t (fun xs=>(∀ x∈xs,p x)∧xs.length * P.bytesOf e≤reachBytes):=fun fuel cs x h hw=>by
 obtain ⟨a,xs,cap,e1,e2,e3,e4⟩:=opnW_slice hO ht hC hs h hw
 exact ⟨xs,⟨a,cap,e1,e2 _ _⟩,e3,e4⟩
def OpnFs (enc:TypeId×Value→H) (P:Program) (w:World) (base:Nat) (spare:Nat→Bool) (held:Bool) (R:Rp α) (off:Nat) (fs:List Field) (p:α→Prop):Prop :=
 ∀ (n:Nat) (cs:List Value) (xs:List (DataW H×List MemPlace)),xs.length=fs.length→(∀ (i:Nat) (f:Field),fs[i]?=some f→DataW.trod enc P w base spare held n f.type ((cs.drop f.offset).take (P.cellsOf f.type))=xs[i]?) →
  (DataW.weightsEach P (fs.map (·.type)) (xs.map (·.1))).all (·≤reachBytes)=true→∃ y,R.rd (baseOf w) ((cs.drop off).take R.n) y∧p y
theorem opnFs_one {f:Field} {off:Nat} (hO:OpnW enc P w base spare held R f.type p) (ho:f.offset=off) (hC:P.cellsOf f.type=R.n):OpnFs enc P w base spare held R off [f] p:=fun n cs xs hl hx hw=>by
 match xs,hl with
 | [x],_ =>
  have h:=hx 0 f rfl
  rw [ho,hC] at h
  refine hO _ _ _ h ?_
  simpa [DataW.weightsEach] using hw
theorem opnFs_cons {f:Field} {fs:List Field} {off:Nat} (hO:OpnW enc P w base spare held R f.type p) (ho:f.offset=off) (hC:P.cellsOf f.type=R.n) (hF:OpnFs enc P w base spare held Q (off+R.n) fs q):OpnFs enc P w base spare held (rPair R Q) off (f::fs) (fun y=>p y.1∧q y.2):=fun n cs xs hl hx hw=>by
 match xs,hl with
 | x::xs,hl =>
  have h:=hx 0 f rfl
  rw [ho,hC] at h
  simp only [List.map_cons,DataW.weightsEach,List.all_append,Bool.and_eq_true] at hw
  obtain ⟨y,hy,hpy⟩:=hO _ _ _ h hw.1
  obtain ⟨z,hz,hqz⟩:=hF n cs xs (by simpa using hl) (fun i g hg=>by simpa using hx (i+1) g (by simpa using hg)) hw.2
  refine ⟨(y,z),⟨_,_,?_,hy,hz⟩,hpy,hqz⟩
  show (cs.drop off).take (R.n+Q.n)=_
  rw [List.take_add,List.drop_drop]
theorem opnW_struct {fs:List Field} (ht:P.underlying t=some (.struct fs.toArray)) (hF:OpnFs enc P w base spare held R 0 fs p) (hC:P.cellsOf t=R.n):OpnW enc P w base spare held R t p:=fun fuel cs x h hw=>by
 obtain ⟨xs,n,_,rfl,hl,hxl,hx⟩:=DataW.trod_struct ht h
 simp only [DataW.weights,ht] at hw
 obtain ⟨y,hy,hp⟩:=hF n cs xs (by simpa using hxl) (fun i f hf=>hx i f (by simpa using hf)) (by simpa using hw)
 rw [List.drop_zero,List.take_of_length_le (by omega)] at hy
 exact ⟨y,hy,hp⟩
end
section
variable {H:Type} {enc:TypeId×Value→H} {P:Program} {w:World} {base:Nat} {spare:Nat→Bool} {held:Bool} {t:TypeId}
theorem opn_str (ht:P.underlying t=some .string):Opn enc P w base spare held rStr t:=fun fuel cs x h=>by
 obtain ⟨s,h1,h2,h3⟩:=DataW.trod_string ht h
 exact ⟨s.data.toList,h1⟩
end
end Go.Tri
namespace Go.Proofs.YthcjjjnphgopjaaGreatDoor
open Go.RowKit Go.Tri
set_option maxRecDepth 100000
set_option maxHeartbeats 4000000
theorem w_cutPre {s:List UInt8} {p:List UInt8}  {w0 w:World} {l:List HP}  {r:(List UInt8)×Bool} (hm:cutPre s p=some r) (H:St w0 w (l)) :
  Calls Tryz.prog 88 [.string (txb (s)),.string (txb (p))].toArray w (fun e w'=>∃ v,e=.returned v∧v=.tuple [.string (txb (r.1)),.bool (r.2)].toArray∧St w0 w' (l)):=by
 unfold cutPre at hm
 cases hm
 exact (Tryz.strings_CutPrefix (txb s) (txb p) w).mono fun e w' ⟨he,hw⟩=>⟨_,by rw [he,txb_list,txb_list];rfl,rfl,hw▸H⟩
theorem w_genSplit {s:List UInt8} {sep:List UInt8} {sv:Int} {n:Int}  {w0 w:World} {l:List HP}  {r:(List (List UInt8))} (hm:genSplit s sep sv n=some r) (H:St w0 w (l)) :
  Calls Tryz.prog 114 [.string (txb (s)),.string (txb (sep)),.int .i64 (sv),.int .i64 (n)].toArray w (fun e w'=>∃ v,e=.returned v∧∃ (p1:Option Addr) (c1:Nat),v=.slice p1 (r).length c1∧St w0 w' (HP.ow rStr 9 p1 c1 r::l)):=by
 unfold genSplit at hm
 obtain ⟨rfl,rfl,rfl,hl,rfl⟩:=splitO_some hm
 have hsz:(txb s).size<4294967281:=by rw [txb_size];omega
 have hC:Calls Tryz.prog 128 #[.string (txb s),.string ⟨#[47]⟩] w fun e w'=>e=.returned (.int .i64 (Lib.countB (txb s) ⟨#[47]⟩))∧w'=w:=by
   refine (Tryz.strings_Count_one (txb s) 47 w).mono fun e w' ⟨he,hw⟩=>⟨?_,hw⟩
   rw [he]
   show _=Ending.returned (Value.int .i64 ((Lib.count (txb s).data.toList [47]:Nat):Int))
   rw [Lib.count_one]
   rfl
 have hle:=Lib.countB_le (⟨#[47]⟩:ByteArray) (by decide) (txb s).size (txb s) (Nat.le_refl _)
 have c:=Any.strings_genSplit_core Tryz.lays221 (by kernel_rfl) (txb s) ⟨#[47]⟩ 0 (-1) (Lib.countB (txb s) ⟨#[47]⟩+1) w hsz (by decide) (by decide)
   (fun x c hx=>(Tryz.strings_Index_one x 47 _).mono fun e w' ⟨he,hw⟩=>⟨by
     rw [he]
     show _=Ending.returned (Value.int .i64 (Lib.index x.data.toList [47]))
     rw [Lib.index_one],hw⟩) hC (by decide) (by decide) (by rw [if_pos (by decide)];omega)
 have hlen:=Lib.splitB_all (⟨#[47]⟩:ByteArray) (by decide) 0 _ (txb s) rfl
 rw [Nat.add_sub_cancel,hlen] at c
 have hd:=Lib.splitB_data (⟨#[47]⟩:ByteArray) 0 (Lib.countB (txb s) ⟨#[47]⟩) (txb s)
 have e0:(⟨#[47]⟩:ByteArray).data.toList=[47]:=rfl
 rw [e0,txb_list] at hd
 have hcb:Lib.countB (txb s) ⟨#[47]⟩=Lib.count s [47]:=by
   show Lib.count (txb s).data.toList [47]=_
   rw [txb_list]
 rw [hcb] at hd hlen c
 rw [split_sp] at hd
 have hB:Lib.splitB ⟨#[47]⟩ 0 (Lib.count s [47]) (txb s)=(sp s).map txb:=by
   have:((sp s).map txb).map (·.data.toList)=sp s:=by
     rw [List.map_map]
     conv=>rhs;rw [← List.map_id (sp s)]
     exact List.map_congr_left fun x _=>txb_list x
   rw [← hd,List.map_map]
   conv=>lhs;rw [← List.map_id (Lib.splitB ⟨#[47]⟩ 0 (Lib.count s [47]) (txb s))]
   exact List.map_congr_left fun x _=>(txb_data x).symm
 have hn:(sp s).length=Lib.count s [47]+1:=by rw [← hlen,hB,List.length_map]
 have hx:Lib.cellsOf (Lib.splitB ⟨#[47]⟩ 0 (Lib.count s [47]) (txb s)) (Lib.count s [47]+1)=((sp s).map fun x=>Value.string (txb x)).toArray:=by
   rw [← hlen,Lib.cellsOf_full,hB,List.map_map];rfl
 rw [hx] at c
 rw [← hn] at c
 refine c.mono fun e w' ⟨he,hw⟩=>⟨_,he,_,_,rfl,?_⟩
 subst hw
 have hm2:(sp s).length≤maxLen:=by
   have h1:Lib.countB (txb s) ⟨#[47]⟩≤(txb s).size:=hle
   rw [hcb,txb_size] at h1
   unfold maxLen;omega
 exact H.newTexts 9 (sp s) hm2
theorem w_strJoin {xs:List (List UInt8)} {sep:List UInt8} {p1:Option Addr} {c1:Nat} {w0 w:World} {l:List HP}  {r:(List UInt8)} (hm:strJoin xs sep=some r) (H:St w0 w (HP.sl rStr p1 c1 xs::l)) :
  Calls Tryz.prog 93 [.slice p1 (xs).length c1,.string (txb (sep))].toArray w (fun e w'=>∃ v,e=.returned v∧v=.string (txb (r))∧St w0 w' (l)):=by
 unfold strJoin at hm
 obtain ⟨rfl,hx,hj,rfl⟩:=joinO_some hm
 have hsl:Sl w (.slice p1 (xs).length c1) (xs).length (xs.map fun l=>Value.string (txb l)):=by
   obtain ⟨B,S,hs,⟨css,h1,h2⟩,_⟩:=H.get 0 rfl
   have h3:=h2 w hs
   have h4:∀ (css:List (List Value)) (xs:List (List UInt8)),RdL rStr B css xs→css.flatten=xs.map fun l=>Value.string (txb l):=by
     intro css
     induction css with
     | nil=>intro xs h;cases xs with
       | nil=>rfl
       | cons x xs=>exact h.elim
     | cons c css ih=>intro xs h;cases xs with
       | nil=>exact h.elim
       | cons x xs =>
         obtain ⟨e1,e2⟩:=h
         have e1:c=[.string (txb x)]:=e1
         simp [e1,ih xs e2]
   rwa [h4 css xs h1] at h3
 have hcap:=H.slCap 0 rfl
 cases xs with
 | nil=>exact (Tryz.strings_Join_none p1 c1 ⟨#[47]⟩ w).mono fun e w' ⟨he,hw⟩=>⟨_,he,rfl,hw▸H.tail⟩
 | cons x r =>
   obtain ⟨b,off,rfl,hrow⟩:=hsl.rowAt (c:=c1) rfl (by simp)
   have hd:((x::r).map txb).map (·.data.toList)=x::r:=by
     rw [List.map_map]
     conv=>rhs;rw [← List.map_id (x::r)]
     exact List.map_congr_left fun y _=>txb_list y
   have hcells:∀ (j:Nat) y,((x::r).map txb)[j]?=some y→w.cell? ⟨b,off+j,none⟩=some (.string y):=by
     intro j y hy
     refine hrow j _ ?_
     rw [List.getElem?_map] at hy ⊢
     cases hz:(x::r)[j]? with
     | none=>rw [hz] at hy;cases hy
     | some z=>rw [hz] at hy;cases hy;rfl
   have h0:=hcells 0 (txb x) rfl
   have e0:(⟨#[47]⟩:ByteArray).data.toList=[47]:=rfl
   have c:=Tryz.strings_Join b off c1 ((x::r).map txb) ⟨#[47]⟩ w hcells (World.block_lt_of_cell? _ _ h0) (by simp at hx ⊢;omega) (by simpa using hcap) (by rw [hd,e0];unfold jn at hj;omega)
   rw [hd,e0,List.length_map] at c
   exact c.mono fun e w' ⟨he,hw⟩=>⟨_,he,rfl,(H.below hw).tail⟩
theorem w_slIndex {s:List UInt8} {p:List UInt8}  {w0 w:World} {l:List HP}  {r:Int} (hm:slIndex s p=some r) (H:St w0 w (l)) :
  Calls Tryz.prog 87 [.string (txb (s)),.string (txb (p))].toArray w (fun e w'=>∃ v,e=.returned v∧v=.int .i64 (r)∧St w0 w' (l)):=by
 unfold slIndex at hm
 obtain ⟨c,rfl,rfl⟩:=indexO_some hm
 exact (Tryz.stringslite_Index_one (txb s) c w).mono fun e w' ⟨he,hw⟩=>⟨_,by rw [he,txb_list],rfl,hw▸H⟩
theorem ent87:En Tryz.prog 87:=enters Tryz.func87 (by kernel_rfl) rfl
theorem w_m_internal_stringslite_Cut {x0_:List UInt8} {x1_:List UInt8}  {w0 w:World} {l:List HP}  {r:(List UInt8)×(List UInt8)×Bool} (hm:m_internal_stringslite_Cut x0_ x1_=some r) (H:St w0 w (l)) :
  Calls Tryz.prog 72 [.string (txb (x0_)),.string (txb (x1_))].toArray w (fun e w'=>∃ v,e=.returned v∧v=.tuple [.string (txb (r.1)),.string (txb (r.2.1)),.bool (r.2.2)].toArray∧St w0 w' (l)):=by
 unfold m_internal_stringslite_Cut at hm
 refine x_enter Tryz.func72 rfl rfl rfl ?_
 intro a F
 refine sb [0,0,0] F H rfl fun a F=>nl (sq (sb [0,0] F H rfl fun a F=>?_))
 obtain ⟨x1,ex1,hm⟩:=ob hm
 refine sd F rfl ent87 (w_slIndex ex1 H:) ?_;rintro _ w a ⟨rfl,H⟩ F
 refine bb [0] F H rfl fun a F=>nb [0,0] F H rfl fun a F=>?_
 refine nl (cPm F rfl hm (fun hg2 hm=>?_) (fun hg2 hm=>?_))
 refine sq ?_
 obtain ⟨x3,ex3,hm⟩:=ob hm
 obtain ⟨x4,ex4,hm⟩:=ob hm
 refine qr H (by kernel_rfl) (by kernel_rfl) ?_
 refine qb [0,0] F rfl fun a F=>qv F rfl (fun u hu=>y_slTH F rfl Tryz.underlying9 rfl rfl ex3) fun a F=>qb [0,0,0] F rfl fun a F=>qv F rfl (fun u hu=>y_lenT (l:=x1_) F rfl Tryz.underlying9 rfl) fun a F=>qb [0] F rfl fun a F=>qv F rfl (fun u hu=>y_slTL F rfl Tryz.underlying9 rfl rfl ex4) fun a F=>qb [0,0,0] F rfl fun a F=>?_
 refine q_nil fun w H=>?_
 refine ct (wr (tr ?_))
 cases hm
 refine x_ret3 F rfl rfl rfl rfl ?_
 exact ⟨_,rfl,rfl,H⟩
 refine sk (ct (sb [0,0,0,0] F H rfl fun a F=>nl (wr ?_)))
 cases hm
 refine x_ret3 F rfl rfl rfl rfl ?_
 exact ⟨_,rfl,rfl,H⟩
theorem ent72:En Tryz.prog 72:=enters Tryz.func72 (by kernel_rfl) rfl
theorem w_m_strings_Cut {x0_:List UInt8} {x1_:List UInt8}  {w0 w:World} {l:List HP}  {r:(List UInt8)×(List UInt8)×Bool} (hm:m_strings_Cut x0_ x1_=some r) (H:St w0 w (l)) :
  Calls Tryz.prog 48 [.string (txb (x0_)),.string (txb (x1_))].toArray w (fun e w'=>∃ v,e=.returned v∧v=.tuple [.string (txb (r.1)),.string (txb (r.2.1)),.bool (r.2.2)].toArray∧St w0 w' (l)):=by
 unfold m_strings_Cut at hm
 refine x_enter Tryz.func48 rfl rfl rfl ?_
 intro a F
 refine sb [0,0,0] F H rfl fun a F=>nb [0,0] F H rfl fun a F=>?_
 obtain ⟨x1,ex1,hm⟩:=ob hm
 refine sd F rfl ent72 (w_m_internal_stringslite_Cut ex1 H:) ?_;rintro _ w a ⟨rfl,H⟩ F
 refine bb (List.replicate 6 0) F H rfl fun a F=>nl (wr ?_)
 cases hm
 refine x_ret3 F rfl rfl rfl rfl ?_
 exact ⟨_,rfl,rfl,H⟩
theorem ent114:En Tryz.prog 114:=enters Tryz.func114 (by kernel_rfl) rfl
theorem w_strSplit {s:List UInt8} {sep:List UInt8}  {w0 w:World} {l:List HP}  {r:(List (List UInt8))} (hm:strSplit s sep=some r) (H:St w0 w (l)) :
  Calls Tryz.prog 89 [.string (txb (s)),.string (txb (sep))].toArray w (fun e w'=>∃ v,e=.returned v∧∃ (p1:Option Addr) (c1:Nat),v=.slice p1 (r).length c1∧St w0 w' (HP.ow rStr 9 p1 c1 r::l)):=by
 unfold strSplit at hm
 refine x_enter Tryz.func89 rfl rfl rfl ?_
 intro a F
 refine sb [0] F H rfl fun a F=>nb [0,0] F H rfl fun a F=>?_
 obtain ⟨x2,ex2,hm⟩:=ob hm
 refine sd F rfl ent114 (w_genSplit ex2 H:) ?_;rintro _ w a ⟨p3,c3,rfl,H⟩ F
 refine bb [0] F H rfl fun a F=>?_
 replace H:=H.nf 1 rfl
 refine nl (wr ?_)
 cases hm
 refine x_ret1 F rfl rfl ?_
 exact ⟨_,rfl,p3,c3,rfl,H⟩
set_option maxRecDepth 100000
set_option maxHeartbeats 4000000
theorem w_m_path_Name {x0_:List UInt8}  {w0 w:World} {l:List HP}  {r:Bool} (hm:m_path_Name x0_=some r) (H:St w0 w (l)) :
  Calls Tryz.prog 92 [.string (txb (x0_))].toArray w (fun e w'=>∃ v,e=.returned v∧v=.bool (r)∧St w0 w' (l)):=by
 unfold m_path_Name at hm
 refine x_enter Tryz.func92 rfl rfl rfl ?_
 intro a F
 refine sb [0] F H rfl fun a F=>nl (sq (sb [0] F H rfl fun a F=>sv F rfl (y_lenT (l:=x0_) F rfl Tryz.underlying9 rfl) fun a F=>bb [0] F H rfl fun a F=>?_))
 refine nl (xr0 0 [0] [] F H hm rfl rfl (fun r23 z=>z) (fun r23 z=>z) (fun o23 hm hm23=>?_) (fun r23 a w hm F H=>?_))
 refine bl (xl0 0 [0,5] [] F H hm rfl rfl (fun (s38:Int) z=>(6,.int .i64 (s38))::z) (fun s38 z=>z) ⟨F.sl rfl,H⟩ (fun s38 a w o F H hm=>sb [0] F H rfl fun a F=>?_))
 refine nl (sq (cPm F rfl hm (fun hg39 hm=>?_) (fun hg39 hm=>?_)))
 refine sk (ct (sq (bl (sb [0,0] F H rfl fun a F=>nb [0,0] F H rfl fun a F=>?_))))
 obtain ⟨x40,ex40,hm⟩:=ob hm
 refine sv F rfl (y_idxT F rfl Tryz.underlying9 rfl rfl ex40) fun a F=>bb [0,0] F H rfl fun a F=>?_
 rcases spP 13 F rfl hm with ⟨hg41,hm,F⟩ | ⟨hg41,hm,F⟩
 refine bb (List.replicate 11 0) F H rfl fun a F=>nl (cT F rfl (sb [0] F H rfl fun a F=>?_))
 refine nl (wr (br (tr (tr ?_))));cases hm;refine ⟨_,rfl,?_⟩;rintro rfl
 refine br (tr ?_)
 replace hm:=elimR hm23
 refine tr ?_
 cases hm
 refine x_ret1 F rfl rfl ?_
 exact ⟨_,rfl,rfl,H⟩
 refine bb [0,0] F H rfl fun a F=>g_onP F rfl rfl rfl rfl ?_
 obtain ⟨x42,ex42,hm⟩:=ob hm
 refine sv F rfl (y_idxT F rfl Tryz.underlying9 rfl rfl ex42) fun a F=>bb [0,0,0] F H rfl fun a F=>?_
 rcases spP 19 F rfl hm with ⟨hg43,hm,F⟩ | ⟨hg43,hm,F⟩
 refine bb (List.replicate 5 0) F H rfl fun a F=>nl (cT F rfl (sb [0] F H rfl fun a F=>?_))
 refine nl (wr (br (tr (tr ?_))));cases hm;refine ⟨_,rfl,?_⟩;rintro rfl
 refine br (tr ?_)
 replace hm:=elimR hm23
 refine tr ?_
 cases hm
 refine x_ret1 F rfl rfl ?_
 exact ⟨_,rfl,rfl,H⟩
 refine bb [0,0] F H rfl fun a F=>g_onP F rfl rfl rfl rfl ?_
 obtain ⟨x44,ex44,hm⟩:=ob hm
 refine sv F rfl (y_idxT F rfl Tryz.underlying9 rfl rfl ex44) fun a F=>bb [0,0] F H rfl fun a F=>?_
 refine nl (cPm F rfl hm (fun hg45 hm=>?_) (fun hg45 hm=>?_))
 refine sb [0] F H rfl fun a F=>?_
 refine nl (wr (br (tr (tr ?_))));cases hm;refine ⟨_,rfl,?_⟩;rintro rfl
 refine br (tr ?_)
 replace hm:=elimR hm23
 refine tr ?_
 cases hm
 refine x_ret1 F rfl rfl ?_
 exact ⟨_,rfl,rfl,H⟩
 refine sk (bn (ct (rl (bb [0,0] F H rfl fun a F=>?_))))
 refine lz (ct ?_);cases hm
 exact ⟨_,rfl,⟨F.sl rfl,H⟩⟩
 refine ex (cx (cx ?_));cases hm;refine ⟨_,rfl,?_⟩;rintro rfl
 refine ch (ct ?_)
 exact ⟨_,rfl,F.sl rfl,H⟩
 refine ct (sb [0] F H rfl fun a F=>sv F rfl (y_neT (l:=x0_) (m:=[]) F rfl rfl rfl) fun a F=>bb [0] F H rfl fun a F=>?_)
 rcases spN 28 F rfl hm with ⟨hg46,hm,F⟩ | ⟨hg46,hm,F⟩
 refine bb (List.replicate 5 0) F H rfl fun a F=>nl (wr ?_)
 cases hm
 refine x_ret1 F rfl rfl ?_
 exact ⟨_,rfl,rfl,H⟩
 refine bb [0] F H rfl fun a F=>g_onP F rfl rfl rfl rfl (sv F rfl (y_lenT (l:=x0_) F rfl Tryz.underlying9 rfl) fun a F=>bb [0,0,0] F H rfl fun a F=>nl (wr ?_))
 cases hm
 refine x_ret1 F rfl rfl ?_
 exact ⟨_,rfl,rfl,H⟩
theorem ent92:En Tryz.prog 92:=enters Tryz.func92 (by kernel_rfl) rfl
theorem w_m_path_names_1 {x0_:List UInt8}  {w0 w:World} {l:List HP}  {r:Bool} (hm:m_path_names_1 x0_=some r) (H:St w0 w (l)) :
  Calls Tryz.prog 91 [.string (txb (x0_))].toArray w (fun e w'=>∃ v,e=.returned v∧v=.bool (r)∧St w0 w' (l)):=by
 unfold m_path_names_1 at hm
 refine x_enter Tryz.func91 rfl rfl rfl ?_
 intro a F
 refine sb [0] F H rfl fun a F=>nb [0] F H rfl fun a F=>?_
 obtain ⟨x1,ex1,hm⟩:=ob hm
 refine sd F rfl ent92 (w_m_path_Name ex1 H:) ?_;rintro _ w a ⟨rfl,H⟩ F
 refine bb [0,0] F H rfl fun a F=>nl (wr ?_)
 cases hm
 refine x_ret1 F rfl rfl ?_
 exact ⟨_,rfl,rfl,H⟩
theorem elem35:ElemT Tryz.prog 35 9 1 16 (.string ByteArray.empty):=⟨Tryz.underlying35,by kernel_rfl,by kernel_rfl,by decide⟩
theorem plain9:Plain Tryz.prog 9:=by unfold Plain;rw [Tryz.underlying9];rfl
theorem ent91:En Tryz.prog 91:=enters Tryz.func91 (by kernel_rfl) rfl
theorem w_ixName {s:List (List UInt8)} {p1:Option Addr} {c1:Nat} {w0 w:World} {l:List HP}  {r:Int} (hm:ixName s=some r) (H:St w0 w (HP.sl rStr p1 c1 s::l)) :
  Calls Tryz.prog 108 [.slice p1 (s).length c1,.func (.func 91) #[] #[]].toArray w (fun e w'=>∃ v,e=.returned v∧v=.int .i64 (r)∧St w0 w' (l)):=by
 unfold ixName at hm
 refine x_enter Tryz.func108 rfl rfl rfl ?_
 intro a F
 refine sb [0] F H rfl fun a F=>nl (sq (sr (bk [0,0,0] F H rfl ⟨⟨_,Tryz.underlying35⟩,trivial⟩ fun a F=>?_)))
 refine nl (xr0 1 [] [] F H hm rfl rfl (fun r21 z=>z) (fun r21 z=>z) (fun o21 hm hm21=>?_) (fun r21 a w hm F H=>?_))
 refine bl (xl0 1 [0,1,7] [0] F H hm rfl rfl (fun (s34:Int) z=>(8,.int .i64 (s34))::z) (fun s34 z=>z) ⟨F.sl rfl,H⟩ (fun s34 a w o F H hm=>sb [0] F H rfl fun a F=>?_))
 refine nl (sq (cPm F rfl hm (fun hg35 hm=>?_) (fun hg35 hm=>?_)))
 refine sk (ct (sq (bl (sb [0,0] F H rfl fun a F=>nb [0,0,0] F H rfl fun a F=>?_))))
 obtain ⟨x36,ex36,hm⟩:=ob hm
 obtain ⟨b37,o37,hp37,cs38,H⟩:=H.slE 0 rfl ex36
 obtain rfl:=H.rcStr 1 rfl
 replace H:=H.dp 1 rfl
 refine sv F rfl (y_idxS F elem35 rfl rfl rfl hp37 ex36) fun a F=>bk [0] F H rfl ⟨rfl,plain9,trivial⟩ fun a F=>?_
 obtain ⟨x39,ex39,hm⟩:=ob hm
 refine s_call wkP F rfl rfl rfl rfl (y_callV0 F rfl rfl rfl ent91) (w_m_path_names_1 ex39 H:) ?_;rintro _ w a ⟨rfl,H⟩ F
 replace H:=H.nf 2 rfl
 refine nl (cB F rfl (fun hg40=>?_) (fun hg40=>?_))
 replace hm:=ifT hg40 hm
 refine sb [0,0] F H rfl fun a F=>?_
 refine nl (wr (br (tr (tr ?_))));cases hm;refine ⟨_,rfl,?_⟩;rintro rfl
 refine br (tr ?_)
 replace hm:=elimR hm21
 refine tr ?_
 cases hm
 refine x_ret1 F rfl rfl ?_
 exact ⟨_,rfl,rfl,(H.pm 2 [] rfl:)⟩
 replace hm:=ifF (nT hg40) hm
 refine sk (bn (ct (rl (bb [0,0] F H rfl fun a F=>?_))))
 refine lz (ct ?_);cases hm
 exact ⟨_,rfl,⟨F.sl rfl,(H.pm 2 [1] rfl:)⟩⟩
 refine ex (cx (cx ?_));cases hm;refine ⟨_,rfl,?_⟩;rintro rfl
 refine ch (ct ?_)
 exact ⟨_,rfl,F.cut _ trivial,(H.pm 1 [] rfl:)⟩
 refine ct (sb [0] F H rfl fun a F=>nl (wr ?_))
 cases hm
 refine x_ret1 F rfl rfl ?_
 exact ⟨_,rfl,rfl,H⟩
theorem ent108:En Tryz.prog 108:=enters Tryz.func108 (by kernel_rfl) rfl
theorem w_anyBad {s:List (List UInt8)} {p1:Option Addr} {c1:Nat} {w0 w:World} {l:List HP}  {r:Bool} (hm:anyBad s=some r) (H:St w0 w (HP.sl rStr p1 c1 s::l)) :
  Calls Tryz.prog 90 [.slice p1 (s).length c1,.func (.func 91) #[] #[]].toArray w (fun e w'=>∃ v,e=.returned v∧v=.bool (r)∧St w0 w' (l)):=by
 unfold anyBad at hm
 refine x_enter Tryz.func90 rfl rfl rfl ?_
 intro a F
 refine sb [0] F H rfl fun a F=>nb [0,0] F H rfl fun a F=>?_
 obtain ⟨x2,ex2,hm⟩:=ob hm
 refine sd F rfl ent108 (w_ixName ex2 (H.pm 1 [0,0] rfl:):) ?_;rintro _ w a ⟨rfl,H⟩ F
 refine bb [0,0] F H rfl fun a F=>?_
 replace H:=H.nf 1 rfl
 refine nl (wr ?_)
 cases hm
 refine x_ret1 F rfl rfl ?_
 exact ⟨_,rfl,rfl,(H.pm 1 [] rfl:)⟩
theorem ent88:En Tryz.prog 88:=enters Tryz.func88 (by kernel_rfl) rfl
theorem ent89:En Tryz.prog 89:=enters Tryz.func89 (by kernel_rfl) rfl
theorem ent90:En Tryz.prog 90:=enters Tryz.func90 (by kernel_rfl) rfl
theorem w_pNames {p:List UInt8}  {w0 w:World} {l:List HP}  {r:(List (List UInt8))×Bool} (hm:pNames p=some r) (H:St w0 w (l)) :
  Calls Tryz.prog 73 [.string (txb (p))].toArray w (fun e w'=>∃ v,e=.returned v∧∃ (p1:Option Addr) (c1:Nat),v=.tuple [.slice p1 (r.1).length c1,.bool (r.2)].toArray∧St w0 w' (HP.sl rStr p1 c1 r.1::l)):=by
 unfold pNames at hm
 refine x_enter Tryz.func73 rfl rfl rfl ?_
 intro a F
 refine sb [0,0] F H rfl fun a F=>nl (sq (sb [0] F H rfl fun a F=>sv F rfl (y_eqT (l:=p) (m:=[47]) F rfl rfl rfl) fun a F=>?_))
 refine nl (cPm F rfl hm (fun hg2 hm=>?_) (fun hg2 hm=>?_))
 refine sb [0,0] F H rfl fun a F=>nl (wr (tr ?_))
 replace H:=H.slNil rStr
 cases hm
 refine x_ret2 F rfl rfl rfl ?_
 exact ⟨_,rfl,none,0,rfl,H⟩
 refine sk (ct (sb [0] F H rfl fun a F=>?_))
 obtain ⟨x3,ex3,hm⟩:=ob hm
 refine sd F rfl ent88 (w_cutPre ex3 H:) ?_;rintro _ w a ⟨rfl,H⟩ F
 refine bb (List.replicate 5 0) F H rfl fun a F=>nb [0] F H rfl fun a F=>?_
 obtain ⟨x4,ex4,hm⟩:=ob hm
 refine sd F rfl ent89 (w_strSplit ex4 H:) ?_;rintro _ w a ⟨p5,c5,rfl,H⟩ F
 refine bb [0] F H rfl fun a F=>?_
 replace H:=H.nf 1 rfl
 refine nl (sq (sb [0,0,0] F H rfl fun a F=>?_))
 by_cases hg6:(!x3.2)=true
 replace hm:=ifT hg6 hm
 replace F:=F.vT 18 hg6 rfl
 refine bb (List.replicate 8 0) F H rfl fun a F=>nl (cT F rfl (sb [0,0] F H rfl fun a F=>nl (wr (tr ?_))))
 replace H:=H.slNil rStr
 cases hm
 refine x_ret2 F rfl rfl rfl ?_
 exact ⟨_,rfl,none,0,rfl,(H.pm 2 [0] rfl:)⟩
 replace hm:=ifF hg6 hm
 replace F:=F.vF 18 hg6 rfl
 refine bb [0] F H rfl fun a F=>g_onP F rfl rfl rfl rfl (sv F rfl (y_lenT (l:=p) F rfl Tryz.underlying9 rfl) fun a F=>bb [0,0,0] F H rfl fun a F=>?_)
 rcases spP 23 F rfl hm with ⟨hg7,hm,F⟩ | ⟨hg7,hm,F⟩
 refine bb [0,0,0] F H rfl fun a F=>nl (cT F rfl (sb [0,0] F H rfl fun a F=>nl (wr (tr ?_))))
 replace H:=H.slNil rStr
 cases hm
 refine x_ret2 F rfl rfl rfl ?_
 exact ⟨_,rfl,none,0,rfl,(H.pm 2 [0] rfl:)⟩
 refine bb [0] F H rfl fun a F=>g_onP F rfl rfl rfl rfl ?_
 replace H:=H.frz 0 rfl
 obtain ⟨x8,ex8,hm⟩:=ob hm
 refine sd F rfl ent90 (w_anyBad ex8 (H.pm 1 [0,0] rfl:):) ?_;rintro _ w a ⟨rfl,H⟩ F
 refine bb [0] F H rfl fun a F=>?_
 replace H:=H.nf 1 rfl
 refine nl (cB F rfl (fun hg9=>?_) (fun hg9=>?_))
 replace hm:=ifT hg9 hm
 refine sb [0,0] F H rfl fun a F=>nl (wr (tr ?_))
 replace H:=H.slNil rStr
 cases hm
 refine x_ret2 F rfl rfl rfl ?_
 exact ⟨_,rfl,none,0,rfl,(H.pm 2 [0] rfl:)⟩
 replace hm:=ifF (nT hg9) hm
 refine sk (ct (sb [0,0,0] F H rfl fun a F=>nl (wr ?_)))
 cases hm
 refine x_ret2 F rfl rfl rfl ?_
 exact ⟨_,rfl,p5,c5,rfl,H⟩
theorem ent93:En Tryz.prog 93:=enters Tryz.func93 (by kernel_rfl) rfl
theorem w_m_path_join {x0_:List (List UInt8)} {p1:Option Addr} {c1:Nat} {w0 w:World} {l:List HP}  {r:(List UInt8)} (hm:m_path_join x0_=some r) (H:St w0 w (HP.sl rStr p1 c1 x0_::l)) :
  Calls Tryz.prog 74 [.slice p1 (x0_).length c1].toArray w (fun e w'=>∃ v,e=.returned v∧v=.string (txb (r))∧St w0 w' (l)):=by
 unfold m_path_join at hm
 refine x_enter Tryz.func74 rfl rfl rfl ?_
 intro a F
 refine sb [0] F H rfl fun a F=>nb [0] F H rfl fun a F=>?_
 obtain ⟨x2,ex2,hm⟩:=ob hm
 refine sd F rfl ent93 (w_strJoin ex2 (H.pm 1 [0,0] rfl:):) ?_;rintro _ w a ⟨rfl,H⟩ F
 obtain ⟨x3,ex3,hm⟩:=ob hm
 refine sv F rfl (y_addO F rfl rfl rfl ex3) fun a F=>bb [0] F H rfl fun a F=>?_
 replace H:=H.nf 1 rfl
 refine nl (wr ?_)
 cases hm
 refine x_ret1 F rfl rfl ?_
 exact ⟨_,rfl,rfl,(H.pm 1 [] rfl:)⟩
theorem ent73:En Tryz.prog 73:=enters Tryz.func73 (by kernel_rfl) rfl
theorem w_m_path_Check {x0_:List UInt8}  {w0 w:World} {l:List HP}  {r:Int} (hm:m_path_Check x0_=some r) (H:St w0 w (l)) :
  Calls Tryz.prog 49 [.string (txb (x0_))].toArray w (fun e w'=>∃ v,e=.returned v∧v=.int .i64 (r)∧St w0 w' (l)):=by
 unfold m_path_Check at hm
 refine x_enter Tryz.func49 rfl rfl rfl ?_
 intro a F
 refine sb [0] F H rfl fun a F=>nl (sq (sb [0] F H rfl fun a F=>?_))
 obtain ⟨x1,ex1,hm⟩:=ob hm
 refine sd F rfl ent73 (w_pNames ex1 H:) ?_;rintro _ w a ⟨p2,c2,rfl,H⟩ F
 refine bb (List.replicate 5 0) F H rfl fun a F=>?_
 replace H:=H.nf 1 rfl
 refine nb [0,0] F H rfl fun a F=>?_
 refine nl (cB F rfl (fun hg3=>?_) (fun hg3=>?_))
 replace hm:=ifT hg3 hm
 refine sb [0] F H rfl fun a F=>nl (wr (tr ?_))
 cases hm
 refine x_ret1 F rfl rfl ?_
 exact ⟨_,rfl,rfl,(H.pm 1 [] rfl:)⟩
 replace hm:=ifF (nT hg3) hm
 refine sk (ct (sb [0] F H rfl fun a F=>nl (wr ?_)))
 cases hm
 refine x_ret1 F rfl rfl ?_
 exact ⟨_,rfl,rfl,(H.pm 1 [] rfl:)⟩
theorem ent74:En Tryz.prog 74:=enters Tryz.func74 (by kernel_rfl) rfl
theorem w_m_path_Parent {x0_:List UInt8}  {w0 w:World} {l:List HP}  {r:(List UInt8)} (hm:m_path_Parent x0_=some r) (H:St w0 w (l)) :
  Calls Tryz.prog 50 [.string (txb (x0_))].toArray w (fun e w'=>∃ v,e=.returned v∧v=.string (txb (r))∧St w0 w' (l)):=by
 unfold m_path_Parent at hm
 refine x_enter Tryz.func50 rfl rfl rfl ?_
 intro a F
 refine sb [0] F H rfl fun a F=>nb [0] F H rfl fun a F=>?_
 obtain ⟨x1,ex1,hm⟩:=ob hm
 refine sd F rfl ent73 (w_pNames ex1 H:) ?_;rintro _ w a ⟨p2,c2,rfl,H⟩ F
 refine bb (List.replicate 5 0) F H rfl fun a F=>?_
 replace H:=H.nf 1 rfl
 refine nl (sq (sr (bk [0,0,0] F H rfl ⟨⟨_,Tryz.underlying35⟩,trivial⟩ fun a F=>?_)))
 refine nl (cPm F rfl hm (fun hg3 hm=>?_) (fun hg3 hm=>?_))
 refine sb [0] F H rfl fun a F=>nl (wr (tr ?_))
 cases hm
 refine x_ret1 F rfl rfl ?_
 exact ⟨_,rfl,rfl,(H.pm 1 [] rfl:)⟩
 refine sk (ct (sr (bk [0,0,0,0] F H rfl ⟨⟨_,Tryz.underlying35⟩,trivial⟩ fun a F=>?_)))
 obtain ⟨x5,ex5,hm⟩:=ob hm
 have hc4:=H.slCap 0 rfl
 replace H:=H.slSubN 1 rfl 0 rfl ex5
 refine sv F rfl (y_slH F elem35 rfl rfl rfl ex5 hc4) fun a F=>?_
 obtain ⟨x6,ex6,hm⟩:=ob hm
 refine sd F rfl ent74 (w_m_path_join ex6 (H.pm 2 [0,0,1] rfl:):) ?_;rintro _ w a ⟨rfl,H⟩ F
 refine bb [0] F H rfl fun a F=>?_
 replace H:=H.nf 2 rfl
 refine nl (wr ?_)
 cases hm
 refine x_ret1 F rfl rfl ?_
 exact ⟨_,rfl,rfl,(H.pm 2 [] rfl:)⟩
theorem w_m_path_Base {x0_:List UInt8}  {w0 w:World} {l:List HP}  {r:(List UInt8)} (hm:m_path_Base x0_=some r) (H:St w0 w (l)) :
  Calls Tryz.prog 106 [.string (txb (x0_))].toArray w (fun e w'=>∃ v,e=.returned v∧v=.string (txb (r))∧St w0 w' (l)):=by
 unfold m_path_Base at hm
 refine x_enter Tryz.func106 rfl rfl rfl ?_
 intro a F
 refine sb [0] F H rfl fun a F=>nb [0] F H rfl fun a F=>?_
 obtain ⟨x1,ex1,hm⟩:=ob hm
 refine sd F rfl ent73 (w_pNames ex1 H:) ?_;rintro _ w a ⟨p2,c2,rfl,H⟩ F
 refine bb (List.replicate 5 0) F H rfl fun a F=>?_
 replace H:=H.nf 1 rfl
 refine nl (sq (sr (bk [0,0,0] F H rfl ⟨⟨_,Tryz.underlying35⟩,trivial⟩ fun a F=>?_)))
 refine nl (cPm F rfl hm (fun hg3 hm=>?_) (fun hg3 hm=>?_))
 refine sb [0] F H rfl fun a F=>nl (wr (tr ?_))
 cases hm
 refine x_ret1 F rfl rfl ?_
 exact ⟨_,rfl,rfl,(H.pm 1 [] rfl:)⟩
 refine sk (ct (sr (bk [0,0,0,0] F H rfl ⟨⟨_,Tryz.underlying35⟩,trivial⟩ fun a F=>?_)))
 obtain ⟨x4,ex4,hm⟩:=ob hm
 obtain ⟨b5,o5,hp5,cs6,H⟩:=H.slE 0 rfl ex4
 obtain rfl:=H.rcStr 1 rfl
 replace H:=H.dp 1 rfl
 refine sv F rfl (y_idxS F elem35 rfl rfl rfl hp5 ex4) fun a F=>bk [0,0] F H rfl ⟨rfl,plain9,trivial⟩ fun a F=>nl (wr ?_)
 cases hm
 refine x_ret1 F rfl rfl ?_
 exact ⟨_,rfl,rfl,(H.pm 2 [] rfl:)⟩
theorem w_m_slices_Equal___string_string_ {x0_:List (List UInt8)} {x1_:List (List UInt8)} {p1:Option Addr} {c1:Nat} {p2:Option Addr} {c2:Nat} {w0 w:World} {l:List HP}  {r:Bool} (hm:m_slices_Equal___string_string_ x0_ x1_=some r) (H:St w0 w (HP.sl rStr p1 c1 x0_::HP.sl rStr p2 c2 x1_::l)) :
  Calls Tryz.prog 105 [.slice p1 (x0_).length c1,.slice p2 (x1_).length c2].toArray w (fun e w'=>∃ v,e=.returned v∧v=.bool (r)∧St w0 w' (l)):=by
 unfold m_slices_Equal___string_string_ at hm
 refine x_enter Tryz.func105 rfl rfl rfl ?_
 intro a F
 refine sb [0] F H rfl fun a F=>nl (sq (sr (bk (List.replicate 5 0) F H rfl ⟨⟨_,Tryz.underlying35⟩,⟨_,Tryz.underlying35⟩,trivial⟩ fun a F=>?_)))
 refine nl (cNm F rfl hm (fun hg3 hm=>?_) (fun hg3 hm=>?_))
 refine sb [0] F H rfl fun a F=>nl (wr (tr ?_))
 cases hm
 refine x_ret1 F rfl rfl ?_
 exact ⟨_,rfl,rfl,(H.pm 2 [] rfl:)⟩
 refine sk (ct (sq (sr (bk [0,0,0] F H rfl ⟨⟨_,Tryz.underlying35⟩,trivial⟩ fun a F=>?_))))
 refine nl (xr0 2 [] [] F H hm rfl rfl (fun r29 z=>z) (fun r29 z=>z) (fun o29 hm hm29=>?_) (fun r29 a w hm F H=>?_))
 refine bl (xl0 2 [0,1,12] [0,1] F H hm rfl rfl (fun (s46:Int) z=>(13,.int .i64 (s46))::z) (fun s46 z=>z) ⟨F.sl rfl,H⟩ (fun s46 a w o F H hm=>sb [0] F H rfl fun a F=>?_))
 refine nl (sq (cPm F rfl hm (fun hg47 hm=>?_) (fun hg47 hm=>?_)))
 refine sk (ct (sq (bl (sb [0,0] F H rfl fun a F=>nl (sq ?_)))))
 obtain ⟨x48,ex48,hm⟩:=ob hm
 obtain ⟨b49,o49,hp49,cs50,H⟩:=H.slE 0 rfl ex48
 obtain rfl:=H.rcStr 1 rfl
 replace H:=H.dp 1 rfl
 obtain ⟨x51,ex51,hm⟩:=ob hm
 obtain ⟨b52,o52,hp52,cs53,H⟩:=H.slE 2 rfl ex51
 obtain rfl:=H.rcStr 1 rfl
 replace H:=H.dp 1 rfl
 refine qr H (by kernel_rfl) (by kernel_rfl) ?_
 refine qb [0,0] F rfl fun a F=>qv F rfl (fun u hu=>y_idxS F elem35 rfl rfl rfl hp49 ex48) fun a F=>qbk [1000,0,0] F rfl ⟨rfl,plain9,trivial⟩ fun a F=>qv F rfl (fun u hu=>y_idxS F elem35 rfl rfl rfl hp52 ex51) fun a F=>qbk [0] F rfl ⟨rfl,plain9,trivial⟩ fun a F=>qv F rfl (fun u hu=>y_neT (l:=x48) (m:=x51) F rfl rfl rfl) fun a F=>?_
 refine q_nil fun w H=>?_
 refine ct (cNm F rfl hm (fun hg54 hm=>?_) (fun hg54 hm=>?_))
 refine sb [0] F H rfl fun a F=>?_
 refine nl (wr (br (tr (tr ?_))));cases hm;refine ⟨_,rfl,?_⟩;rintro rfl
 refine br (tr ?_)
 replace hm:=elimR hm29
 refine tr ?_
 cases hm
 refine x_ret1 F rfl rfl ?_
 exact ⟨_,rfl,rfl,(H.pm 4 [] rfl:)⟩
 refine sk (bn (ct (rl (bb [0,0] F H rfl fun a F=>?_))))
 refine lz (ct ?_);cases hm
 exact ⟨_,rfl,⟨F.sl rfl,(H.pm 4 [2,3] rfl:)⟩⟩
 refine ex (cx (cx ?_));cases hm;refine ⟨_,rfl,?_⟩;rintro rfl
 refine ch (ct ?_)
 exact ⟨_,rfl,F.cut _ trivial,(H.pm 2 [] rfl:)⟩
 refine ct (sb [0] F H rfl fun a F=>nl (wr ?_))
 cases hm
 refine x_ret1 F rfl rfl ?_
 exact ⟨_,rfl,rfl,H⟩
theorem ent105:En Tryz.prog 105:=enters Tryz.func105 (by kernel_rfl) rfl
theorem w_m_path_Within {x0_:List UInt8} {x1_:List UInt8}  {w0 w:World} {l:List HP}  {r:Bool} (hm:m_path_Within x0_ x1_=some r) (H:St w0 w (l)) :
  Calls Tryz.prog 82 [.string (txb (x0_)),.string (txb (x1_))].toArray w (fun e w'=>∃ v,e=.returned v∧v=.bool (r)∧St w0 w' (l)):=by
 unfold m_path_Within at hm
 refine x_enter Tryz.func82 rfl rfl rfl ?_
 intro a F
 refine sb [0] F H rfl fun a F=>nb [0] F H rfl fun a F=>?_
 obtain ⟨x1,ex1,hm⟩:=ob hm
 refine sd F rfl ent73 (w_pNames ex1 H:) ?_;rintro _ w a ⟨p2,c2,rfl,H⟩ F
 refine bb (List.replicate 5 0) F H rfl fun a F=>?_
 replace H:=H.nf 1 rfl
 refine nb [0] F H rfl fun a F=>?_
 obtain ⟨x3,ex3,hm⟩:=ob hm
 refine sd F rfl ent73 (w_pNames ex3 H:) ?_;rintro _ w a ⟨p4,c4,rfl,H⟩ F
 refine bb (List.replicate 5 0) F H rfl fun a F=>?_
 replace H:=H.nf 2 rfl
 refine nb [0,0] F H rfl fun a F=>?_
 by_cases hg5:x1.2=true
 replace hm:=ifT hg5 hm
 replace F:=F.vT 20 hg5 rfl
 refine bb [0,0,0] F H rfl fun a F=>?_
 by_cases hg6:x3.2=true
 replace hm:=ifT hg6 hm
 replace F:=F.vT 23 hg6 rfl
 refine bk (List.replicate 7 0) F H rfl ⟨⟨_,Tryz.underlying35⟩,⟨_,Tryz.underlying35⟩,trivial⟩ fun a F=>?_
 rcases spP 30 F rfl hm with ⟨hg7,hm,F⟩ | ⟨hg7,hm,F⟩
 refine bk [0,0,0,0] F H rfl ⟨⟨_,Tryz.underlying35⟩,trivial⟩ fun a F=>g_onP F rfl rfl rfl rfl ?_
 obtain ⟨x9,ex9,hm⟩:=ob hm
 have hc8:=H.slCap 0 rfl
 replace H:=H.slSubN 1 rfl 0 rfl ex9
 refine sv F rfl (y_slH F elem35 rfl rfl rfl ex9 hc8) fun a F=>g_onP F rfl rfl rfl rfl ?_
 obtain ⟨x10,ex10,hm⟩:=ob hm
 refine sd F rfl ent105 (w_m_slices_Equal___string_string_ ex10 (H.pm 3 [2,0,0,1,2] rfl:):) ?_;rintro _ w a ⟨rfl,H⟩ F
 refine bb [0,0] F H rfl fun a F=>?_
 replace H:=H.nf 3 rfl
 refine nl (wr ?_)
 cases hm
 refine x_ret1 F rfl rfl ?_
 exact ⟨_,rfl,rfl,(H.pm 3 [] rfl:)⟩
 refine bb (List.replicate 8 0) F H rfl fun a F=>nl (wr ?_)
 cases hm
 refine x_ret1 F rfl rfl ?_
 exact ⟨_,rfl,rfl,(H.pm 2 [] rfl:)⟩
 replace hm:=ifF hg6 hm
 replace F:=F.vF 23 hg6 rfl
 refine bb (List.replicate 15 0) F H rfl fun a F=>nl (wr ?_)
 cases hm
 refine x_ret1 F rfl rfl ?_
 exact ⟨_,rfl,rfl,(H.pm 2 [] rfl:)⟩
 replace hm:=ifF hg5 hm
 replace F:=F.vF 20 hg5 rfl
 refine bb (List.replicate 18 0) F H rfl fun a F=>nl (wr ?_)
 cases hm
 refine x_ret1 F rfl rfl ?_
 exact ⟨_,rfl,rfl,(H.pm 2 [] rfl:)⟩
theorem zero9:Zero1 Tryz.prog 9 (.string ByteArray.empty):=⟨by kernel_rfl,rfl⟩
theorem w_m_path_Ancestors {x0_:List UInt8}  {w0 w:World} {l:List HP}  {r:(List (List UInt8))} (hm:m_path_Ancestors x0_=some r) (H:St w0 w (l)) :
  Calls Tryz.prog 104 [.string (txb (x0_))].toArray w (fun e w'=>∃ v,e=.returned v∧∃ (p1:Option Addr) (c1:Nat),v=.slice p1 (r).length c1∧St w0 w' (HP.sl rStr p1 c1 r::l)):=by
 unfold m_path_Ancestors at hm
 refine x_enter Tryz.func104 rfl rfl rfl ?_
 intro a F
 refine sb [0] F H rfl fun a F=>nb [0] F H rfl fun a F=>?_
 obtain ⟨x2,ex2,hm⟩:=ob hm
 refine sd F rfl ent73 (w_pNames ex2 H:) ?_;rintro _ w a ⟨p3,c3,rfl,H⟩ F
 refine bb (List.replicate 5 0) F H rfl fun a F=>?_
 replace H:=H.nf 1 rfl
 refine nl (sq (sr (bk [0,0,0] F H rfl ⟨⟨_,Tryz.underlying35⟩,trivial⟩ fun a F=>?_)))
 refine nl (xm2 1 [] [] F H hm rfl rfl (fun r29 (p30:Option Addr) (c30:Nat) z=>(2,.slice p30 (r29).length c30)::z) (fun r29 p30 c30 z=>HP.ow rStr 9 p30 c30 r29::z) (fun r29 hm=>?_) (fun r29 a w hm p30 c30 F H=>?_))
 refine bl ?_
 replace H:=H.owNil rStr 9
 refine xl2 2 [3,12] [1] F H hm rfl rfl (fun (s47:(List (List UInt8))×Int) (p48:Option Addr) (c48:Nat) z=>(2,.slice p48 (s47.1).length c48)::(13,.int .i64 (s47.2))::z) (fun s47 p48 c48 z=>HP.ow rStr 9 p48 c48 s47.1::z) ⟨none,0,F.sl rfl,H⟩ (fun s47 a w o p48 c48 F H hm=>?_)
 refine sb [0] F H rfl fun a F=>?_
 refine nl (sq (cPm F rfl hm (fun hg49 hm=>?_) (fun hg49 hm=>?_)))
 refine sk (ct (sq (bl (sb [0,0] F H rfl fun a F=>nl (rl (bb [0,0,0] F H rfl fun a F=>?_))))))
 obtain ⟨x51,ex51,hm⟩:=ob hm
 have hc50:=H.slCap 1 rfl
 replace H:=H.slSubN 1 rfl 1 rfl ex51
 refine sv F rfl (y_slH F elem35 rfl rfl rfl ex51 hc50) fun a F=>?_
 obtain ⟨x52,ex52,hm⟩:=ob hm
 refine sd F rfl ent74 (w_m_path_join ex52 (H.pm 3 [0,0,1,2] rfl:):) ?_;rintro _ w a ⟨rfl,H⟩ F
 refine s_buildC wkP F rfl rfl rfl elem35 zero9 rfl rfl rfl rfl (by simp [Value.cells]) (by decide) H fun b53 w a H F=>?_
 replace H:=H.blkOw1 (R:=rStr) (x:=x52) (fun gg=>rfl)
 replace H:=H.frz 0 rfl
 obtain ⟨x55,ex55,hm⟩:=ob hm
 refine s_app wkP F rfl rfl rfl rfl rfl rfl elem35 rfl ex55 H 2 0 rfl rfl fun p54 c54 w a H F=>?_
 refine bb [0] F H rfl fun a F=>?_
 replace H:=H.nf 4 rfl
 refine lz (bn (ct (rl (bb [0,0] F H rfl fun a F=>?_))))
 refine lz (ct ?_);cases hm
 exact ⟨_,rfl,⟨p54,c54,F.sl rfl,(H.pm 4 [2,3] rfl:)⟩⟩
 refine ex (cx (cx ?_));cases hm;refine ⟨_,rfl,?_⟩;rintro rfl
 refine ch (ct ?_)
 exact ⟨p48,c48,F.sl rfl,(H.pm 2 [0] rfl:)⟩
 refine ct (sb [0,0] F H rfl fun a F=>nl (wr ?_))
 replace H:=H.frz 0 rfl
 cases hm
 refine x_ret1 F rfl rfl ?_
 exact ⟨_,rfl,p30,c30,rfl,H⟩
end Go.Proofs.YthcjjjnphgopjaaGreatDoor
