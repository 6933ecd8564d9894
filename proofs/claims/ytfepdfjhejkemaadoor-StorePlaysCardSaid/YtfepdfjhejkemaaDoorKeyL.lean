/-
  DERIVED: THE SHELF's CONTRACTS AT THIS DUMP, IN PLAIN WORDS (tools/lay-plain.mjs out of 'TrydKeyL.lean', which tools/lay-shelf.mjs wrote): THE SAME DECLARATIONS UNDER THE SAME NAMES: 'import', 'namespace', 'open', 'def', 'theorem' AND NOTHING ELSE: no command of the shelf's: FOR A HAND-IN. Each laying: the table of numbers ('.._ren') and one theorem, a field a fact of the dump's own or the kernel's comparison; each contract: ONE APPLICATION.
-/
import Derived.Shelf.SlSortCmp.WholeK
import Derived.Test.YtfepdfjhejkemaaDoorProg
namespace Go.Proofs
open Go.Shelf
def Tryd.lays68_ren : Go.Shelf.Ren := ⟨fun | 6 => 68 | 15 => 80 | 14 => 79 | 28 => 91 | 29 => 92 | 20 => 83 | 21 => 84 | 22 => 85 | 23 => 86 | 24 => 87 | 25 => 88 | 26 => 89 | 27 => 90 | 46 => 94 | 47 => 95 | 48 => 96 | 49 => 97 | 50 => 98 | 57 => 99 | n => n, fun | 22 => 32 | 24 => 35 | 25 => 94 | 3 => 3 | 39 => 85 | 0 => 0 | 53 => 80 | 55 => 115 | 4 => 4 | 46 => 146 | 45 => 145 | 50 => 78 | 5 => 5 | 9 => 9 | 66 => 153 | 70 => 157 | 76 => 159 | 77 => 101 | n => n, fun | n => n⟩
theorem Tryd.lays68 : Go.Proofs.SlLaysF0.n6 Tryd.prog Tryd.lays68_ren := {
  mixed := by kernel_rfl
  f6 := ⟨Tryd.f68.name, by decide, Tryd.func68.trans (congrArg some (by kernel_rfl))⟩
  f14 := ⟨Tryd.f79.name, by decide, Tryd.func79.trans (congrArg some (by kernel_rfl))⟩
  f15 := Tryd.func80.trans (congrArg some (by kernel_rfl))
  f20 := ⟨Tryd.f83.name, by decide, Tryd.func83.trans (congrArg some (by kernel_rfl))⟩
  f21 := ⟨Tryd.f84.name, by decide, Tryd.func84.trans (congrArg some (by kernel_rfl))⟩
  f22 := ⟨Tryd.f85.name, by decide, Tryd.func85.trans (congrArg some (by kernel_rfl))⟩
  f23 := ⟨Tryd.f86.name, by decide, Tryd.func86.trans (congrArg some (by kernel_rfl))⟩
  f24 := ⟨Tryd.f87.name, by decide, Tryd.func87.trans (congrArg some (by kernel_rfl))⟩
  f25 := ⟨Tryd.f88.name, by decide, Tryd.func88.trans (congrArg some (by kernel_rfl))⟩
  f26 := ⟨Tryd.f89.name, by decide, Tryd.func89.trans (congrArg some (by kernel_rfl))⟩
  f27 := ⟨Tryd.f90.name, by decide, Tryd.func90.trans (congrArg some (by kernel_rfl))⟩
  f28 := Tryd.func91.trans (congrArg some (by kernel_rfl))
  f29 := Tryd.func92.trans (congrArg some (by kernel_rfl))
  f46 := ⟨Tryd.f94.name, by decide, Tryd.func94.trans (congrArg some (by kernel_rfl))⟩
  f47 := Tryd.func95.trans (congrArg some (by kernel_rfl))
  f48 := Tryd.func96.trans (congrArg some (by kernel_rfl))
  f49 := ⟨Tryd.f97.name, by decide, Tryd.func97.trans (congrArg some (by kernel_rfl))⟩
  f50 := ⟨Tryd.f98.name, by decide, Tryd.func98.trans (congrArg some (by kernel_rfl))⟩
  f57 := ⟨Tryd.f99.name, by decide, Tryd.func99.trans (congrArg some (by kernel_rfl))⟩
  t0 := Tryd.underlying0
  a0 := Tryd.isAgg0
  z0 := Tryd.sizeOf0
  v0 := Tryd.zeroValue0
  t3 := Tryd.underlying3
  a3 := Tryd.isAgg3
  z3 := Tryd.sizeOf3
  v3 := Tryd.zeroValue3
  t4 := Tryd.underlying4
  a4 := Tryd.isAgg4
  z4 := Tryd.sizeOf4
  v4 := Tryd.zeroValue4
  t5 := Tryd.underlying5
  a5 := Tryd.isAgg5
  z5 := Tryd.sizeOf5
  v5 := Tryd.zeroValue5
  t9 := Tryd.underlying9
  a9 := Tryd.isAgg9
  z9 := Tryd.sizeOf9
  v9 := Tryd.zeroValue9
  t22 := Tryd.underlying32
  a22 := Tryd.isAgg32
  z22 := Tryd.sizeOf32
  v22 := Tryd.zeroValue32
  t25 := Tryd.underlying94
  a25 := Tryd.isAgg94
  z25 := Tryd.sizeOf94
  v25 := Tryd.zeroValue94
  t39 := Tryd.underlying85
  a39 := Tryd.isAgg85
  z39 := Tryd.sizeOf85
  v39 := Tryd.zeroValue85
  t45 := Tryd.underlying145
  a45 := Tryd.isAgg145
  z45 := Tryd.sizeOf145
  v45 := Tryd.zeroValue145
  t46 := Tryd.underlying146
  a46 := Tryd.isAgg146
  z46 := Tryd.sizeOf146
  v46 := Tryd.zeroValue146
  t50 := Tryd.underlying78
  a50 := Tryd.isAgg78
  z50 := Tryd.sizeOf78
  v50 := Tryd.zeroValue78
  t53 := Tryd.underlying80
  a53 := Tryd.isAgg80
  z53 := Tryd.sizeOf80
  v53 := Tryd.zeroValue80
  t55 := Tryd.underlying115
  a55 := Tryd.isAgg115
  z55 := Tryd.sizeOf115
  v55 := Tryd.zeroValue115
  t66 := Tryd.underlying153
  a66 := Tryd.isAgg153
  z66 := Tryd.sizeOf153
  v66 := Tryd.zeroValue153
  t70 := Tryd.underlying157
  a70 := Tryd.isAgg157
  z70 := Tryd.sizeOf157
  v70 := Tryd.zeroValue157
  t76 := Tryd.underlying159
  a76 := Tryd.isAgg159
  z76 := Tryd.sizeOf159
  v76 := Tryd.zeroValue159
  t77 := Tryd.underlying101
  a77 := Tryd.isAgg101
  z77 := Tryd.sizeOf101
  v77 := Tryd.zeroValue101 }
end Go.Proofs
