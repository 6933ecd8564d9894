/-
  DERIVED: THE SHELF's CONTRACTS AT THIS DUMP, IN PLAIN WORDS (tools/lay-plain.mjs out of 'TryzFilL.lean', which tools/lay-shelf.mjs wrote): THE SAME DECLARATIONS UNDER THE SAME NAMES: 'import', 'namespace', 'open', 'def', 'theorem' AND NOTHING ELSE: no command of the shelf's: FOR A HAND-IN. Each laying: the table of numbers ('.._ren') and one theorem, a field a fact of the dump's own or the kernel's comparison; each contract: ONE APPLICATION.
-/
import Derived.Shelf.SlSortCmp.WholeK
import Derived.Shelf.SlicesE.DeleteFunc
import Derived.Shelf.SlMaps.Clone
import Derived.Test.YtapllcabobickaaGreatDoorProg
namespace Go.Proofs
open Go.Shelf
def Tryz.layz152_ren : Go.Shelf.Ren := ⟨fun | 6 => 152 | 15 => 180 | 14 => 179 | 28 => 208 | 29 => 209 | 20 => 200 | 21 => 201 | 22 => 202 | 23 => 203 | 24 => 204 | 25 => 205 | 26 => 206 | 27 => 207 | 46 => 220 | 47 => 221 | 48 => 222 | 49 => 223 | 50 => 224 | 57 => 235 | n => n, fun | 22 => 61 | 24 => 129 | 25 => 261 | 3 => 3 | 39 => 141 | 0 => 0 | 53 => 188 | 55 => 22 | 4 => 4 | 46 => 309 | 45 => 308 | 50 => 200 | 5 => 5 | 9 => 9 | 66 => 323 | 70 => 327 | 76 => 341 | 77 => 342 | n => n, fun | n => n⟩
theorem Tryz.layz152 : Go.Proofs.SlLaysF0.n6 Tryz.prog Tryz.layz152_ren := {
  mixed := by kernel_rfl
  f6 := ⟨Tryz.f152.name, by decide, Tryz.func152.trans (congrArg some (by kernel_rfl))⟩
  f14 := ⟨Tryz.f179.name, by decide, Tryz.func179.trans (congrArg some (by kernel_rfl))⟩
  f15 := Tryz.func180.trans (congrArg some (by kernel_rfl))
  f20 := ⟨Tryz.f200.name, by decide, Tryz.func200.trans (congrArg some (by kernel_rfl))⟩
  f21 := ⟨Tryz.f201.name, by decide, Tryz.func201.trans (congrArg some (by kernel_rfl))⟩
  f22 := ⟨Tryz.f202.name, by decide, Tryz.func202.trans (congrArg some (by kernel_rfl))⟩
  f23 := ⟨Tryz.f203.name, by decide, Tryz.func203.trans (congrArg some (by kernel_rfl))⟩
  f24 := ⟨Tryz.f204.name, by decide, Tryz.func204.trans (congrArg some (by kernel_rfl))⟩
  f25 := ⟨Tryz.f205.name, by decide, Tryz.func205.trans (congrArg some (by kernel_rfl))⟩
  f26 := ⟨Tryz.f206.name, by decide, Tryz.func206.trans (congrArg some (by kernel_rfl))⟩
  f27 := ⟨Tryz.f207.name, by decide, Tryz.func207.trans (congrArg some (by kernel_rfl))⟩
  f28 := Tryz.func208.trans (congrArg some (by kernel_rfl))
  f29 := Tryz.func209.trans (congrArg some (by kernel_rfl))
  f46 := ⟨Tryz.f220.name, by decide, Tryz.func220.trans (congrArg some (by kernel_rfl))⟩
  f47 := Tryz.func221.trans (congrArg some (by kernel_rfl))
  f48 := Tryz.func222.trans (congrArg some (by kernel_rfl))
  f49 := ⟨Tryz.f223.name, by decide, Tryz.func223.trans (congrArg some (by kernel_rfl))⟩
  f50 := ⟨Tryz.f224.name, by decide, Tryz.func224.trans (congrArg some (by kernel_rfl))⟩
  f57 := ⟨Tryz.f235.name, by decide, Tryz.func235.trans (congrArg some (by kernel_rfl))⟩
  t0 := Tryz.underlying0
  a0 := Tryz.isAgg0
  z0 := Tryz.sizeOf0
  v0 := Tryz.zeroValue0
  t3 := Tryz.underlying3
  a3 := Tryz.isAgg3
  z3 := Tryz.sizeOf3
  v3 := Tryz.zeroValue3
  t4 := Tryz.underlying4
  a4 := Tryz.isAgg4
  z4 := Tryz.sizeOf4
  v4 := Tryz.zeroValue4
  t5 := Tryz.underlying5
  a5 := Tryz.isAgg5
  z5 := Tryz.sizeOf5
  v5 := Tryz.zeroValue5
  t9 := Tryz.underlying9
  a9 := Tryz.isAgg9
  z9 := Tryz.sizeOf9
  v9 := Tryz.zeroValue9
  t22 := Tryz.underlying61
  a22 := Tryz.isAgg61
  z22 := Tryz.sizeOf61
  v22 := Tryz.zeroValue61
  t25 := Tryz.underlying261
  a25 := Tryz.isAgg261
  z25 := Tryz.sizeOf261
  v25 := Tryz.zeroValue261
  t39 := Tryz.underlying141
  a39 := Tryz.isAgg141
  z39 := Tryz.sizeOf141
  v39 := Tryz.zeroValue141
  t45 := Tryz.underlying308
  a45 := Tryz.isAgg308
  z45 := Tryz.sizeOf308
  v45 := Tryz.zeroValue308
  t46 := Tryz.underlying309
  a46 := Tryz.isAgg309
  z46 := Tryz.sizeOf309
  v46 := Tryz.zeroValue309
  t50 := Tryz.underlying200
  a50 := Tryz.isAgg200
  z50 := Tryz.sizeOf200
  v50 := Tryz.zeroValue200
  t53 := Tryz.underlying188
  a53 := Tryz.isAgg188
  z53 := Tryz.sizeOf188
  v53 := Tryz.zeroValue188
  t55 := Tryz.underlying22
  a55 := Tryz.isAgg22
  z55 := Tryz.sizeOf22
  v55 := Tryz.zeroValue22
  t66 := Tryz.underlying323
  a66 := Tryz.isAgg323
  z66 := Tryz.sizeOf323
  v66 := Tryz.zeroValue323
  t70 := Tryz.underlying327
  a70 := Tryz.isAgg327
  z70 := Tryz.sizeOf327
  v70 := Tryz.zeroValue327
  t76 := Tryz.underlying341
  a76 := Tryz.isAgg341
  z76 := Tryz.sizeOf341
  v76 := Tryz.zeroValue341
  t77 := Tryz.underlying342
  a77 := Tryz.isAgg342
  z77 := Tryz.sizeOf342
  v77 := Tryz.zeroValue342 }
def Tryz.layz136_ren : Go.Shelf.Ren := ⟨fun | 5 => 136 | 7 => 161 | n => n, fun | 23 => 239 | 25 => 9 | 3 => 237 | 4 => 4 | 20 => 20 | n => n, fun | n => n⟩
theorem Tryz.layz136 : Go.Proofs.SlLaysW.n5 Tryz.prog Tryz.layz136_ren := {
  mixed := by kernel_rfl
  f5 := ⟨Tryz.f136.name, by decide, Tryz.func136.trans (congrArg some (by kernel_rfl))⟩
  f7 := Tryz.func161.trans (congrArg some (by kernel_rfl))
  t4 := Tryz.underlying4
  a4 := Tryz.isAgg4
  z4 := Tryz.sizeOf4
  v4 := Tryz.zeroValue4
  t20 := Tryz.underlying20
  a20 := Tryz.isAgg20
  z20 := Tryz.sizeOf20
  v20 := Tryz.zeroValue20
  t23 := Tryz.underlying239
  a23 := Tryz.isAgg239
  z23 := Tryz.sizeOf239
  v23 := Tryz.zeroValue239 }
end Go.Proofs
