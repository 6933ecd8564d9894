/-
  DERIVED: THE SHELF's CONTRACTS AT THIS DUMP, IN PLAIN WORDS (tools/lay-plain.mjs out of 'TrydKeyL.lean', which tools/lay-shelf.mjs wrote): THE SAME DECLARATIONS UNDER THE SAME NAMES: 'import', 'namespace', 'open', 'def', 'theorem' AND NOTHING ELSE: no command of the shelf's: FOR A HAND-IN. Each laying: the table of numbers ('.._ren') and one theorem, a field a fact of the dump's own or the kernel's comparison; each contract: ONE APPLICATION.
-/
import Derived.Shelf.SlSortCmp.WholeK
import Derived.Test.YtgcgggjihhdonaaDoorProg
namespace Go.Proofs
open Go.Shelf
def Tryd.lays35_ren : Go.Shelf.Ren := ⟨fun | 6 => 35 | 15 => 52 | 14 => 51 | 28 => 67 | 29 => 68 | 20 => 59 | 21 => 60 | 22 => 61 | 23 => 62 | 24 => 63 | 25 => 64 | 26 => 65 | 27 => 66 | 46 => 69 | 47 => 70 | 48 => 71 | 49 => 72 | 50 => 73 | 57 => 74 | n => n, fun | 22 => 22 | 24 => 32 | 25 => 83 | 3 => 3 | 39 => 108 | 0 => 0 | 53 => 84 | 55 => 33 | 4 => 4 | 46 => 140 | 45 => 139 | 50 => 144 | 5 => 5 | 9 => 9 | 66 => 148 | 70 => 152 | 76 => 154 | 77 => 155 | n => n, fun | n => n⟩
theorem Tryd.lays35 : Go.Proofs.SlLaysF0.n6 Tryd.prog Tryd.lays35_ren := {
  mixed := by kernel_rfl
  f6 := ⟨Tryd.f35.name, by decide, Tryd.func35.trans (congrArg some (by kernel_rfl))⟩
  f14 := ⟨Tryd.f51.name, by decide, Tryd.func51.trans (congrArg some (by kernel_rfl))⟩
  f15 := Tryd.func52.trans (congrArg some (by kernel_rfl))
  f20 := ⟨Tryd.f59.name, by decide, Tryd.func59.trans (congrArg some (by kernel_rfl))⟩
  f21 := ⟨Tryd.f60.name, by decide, Tryd.func60.trans (congrArg some (by kernel_rfl))⟩
  f22 := ⟨Tryd.f61.name, by decide, Tryd.func61.trans (congrArg some (by kernel_rfl))⟩
  f23 := ⟨Tryd.f62.name, by decide, Tryd.func62.trans (congrArg some (by kernel_rfl))⟩
  f24 := ⟨Tryd.f63.name, by decide, Tryd.func63.trans (congrArg some (by kernel_rfl))⟩
  f25 := ⟨Tryd.f64.name, by decide, Tryd.func64.trans (congrArg some (by kernel_rfl))⟩
  f26 := ⟨Tryd.f65.name, by decide, Tryd.func65.trans (congrArg some (by kernel_rfl))⟩
  f27 := ⟨Tryd.f66.name, by decide, Tryd.func66.trans (congrArg some (by kernel_rfl))⟩
  f28 := Tryd.func67.trans (congrArg some (by kernel_rfl))
  f29 := Tryd.func68.trans (congrArg some (by kernel_rfl))
  f46 := ⟨Tryd.f69.name, by decide, Tryd.func69.trans (congrArg some (by kernel_rfl))⟩
  f47 := Tryd.func70.trans (congrArg some (by kernel_rfl))
  f48 := Tryd.func71.trans (congrArg some (by kernel_rfl))
  f49 := ⟨Tryd.f72.name, by decide, Tryd.func72.trans (congrArg some (by kernel_rfl))⟩
  f50 := ⟨Tryd.f73.name, by decide, Tryd.func73.trans (congrArg some (by kernel_rfl))⟩
  f57 := ⟨Tryd.f74.name, by decide, Tryd.func74.trans (congrArg some (by kernel_rfl))⟩
  t0 := Tryd.underlying0
  a0 := Tryd.isAgg0
  z0 := Tryd.sizeOf0
  v0 := Tryd.zeroValue0
  t3 := Tryd.underlying3
  a3 := Tryd.isAgg3
  z3 := Tryd.sizeOf3
  v3 := Tryd.zeroValue3
  t4 := Tryd.underlying4
  a4 := Tryd.isAgg4
  z4 := Tryd.sizeOf4
  v4 := Tryd.zeroValue4
  t5 := Tryd.underlying5
  a5 := Tryd.isAgg5
  z5 := Tryd.sizeOf5
  v5 := Tryd.zeroValue5
  t9 := Tryd.underlying9
  a9 := Tryd.isAgg9
  z9 := Tryd.sizeOf9
  v9 := Tryd.zeroValue9
  t22 := Tryd.underlying22
  a22 := Tryd.isAgg22
  z22 := Tryd.sizeOf22
  v22 := Tryd.zeroValue22
  t25 := Tryd.underlying83
  a25 := Tryd.isAgg83
  z25 := Tryd.sizeOf83
  v25 := Tryd.zeroValue83
  t39 := Tryd.underlying108
  a39 := Tryd.isAgg108
  z39 := Tryd.sizeOf108
  v39 := Tryd.zeroValue108
  t45 := Tryd.underlying139
  a45 := Tryd.isAgg139
  z45 := Tryd.sizeOf139
  v45 := Tryd.zeroValue139
  t46 := Tryd.underlying140
  a46 := Tryd.isAgg140
  z46 := Tryd.sizeOf140
  v46 := Tryd.zeroValue140
  t50 := Tryd.underlying144
  a50 := Tryd.isAgg144
  z50 := Tryd.sizeOf144
  v50 := Tryd.zeroValue144
  t53 := Tryd.underlying84
  a53 := Tryd.isAgg84
  z53 := Tryd.sizeOf84
  v53 := Tryd.zeroValue84
  t55 := Tryd.underlying33
  a55 := Tryd.isAgg33
  z55 := Tryd.sizeOf33
  v55 := Tryd.zeroValue33
  t66 := Tryd.underlying148
  a66 := Tryd.isAgg148
  z66 := Tryd.sizeOf148
  v66 := Tryd.zeroValue148
  t70 := Tryd.underlying152
  a70 := Tryd.isAgg152
  z70 := Tryd.sizeOf152
  v70 := Tryd.zeroValue152
  t76 := Tryd.underlying154
  a76 := Tryd.isAgg154
  z76 := Tryd.sizeOf154
  v76 := Tryd.zeroValue154
  t77 := Tryd.underlying155
  a77 := Tryd.isAgg155
  z77 := Tryd.sizeOf155
  v77 := Tryd.zeroValue155 }
end Go.Proofs
