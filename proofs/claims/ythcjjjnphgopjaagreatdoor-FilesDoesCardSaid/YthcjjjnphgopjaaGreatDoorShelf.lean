/-
  DERIVED: THE SHELF's CONTRACTS AT THIS DUMP, IN PLAIN WORDS (tools/lay-plain.mjs out of 'TryzShelf.lean', which tools/lay-shelf.mjs wrote): THE SAME DECLARATIONS UNDER THE SAME NAMES: 'import', 'namespace', 'open', 'def', 'theorem' AND NOTHING ELSE: no command of the shelf's: FOR A HAND-IN. Each laying: the table of numbers ('.._ren') and one theorem, a field a fact of the dump's own or the kernel's comparison; each contract: ONE APPLICATION.
-/
import Derived.Shelf.Strings.Builder1
import Derived.Shelf.Strings.Builder2
import Derived.Shelf.Strings.OnBuilder
import Derived.Shelf.Small.Bits
import Derived.Shelf.Small.Wraps
import Derived.Shelf.Strings.BuilderF
import Derived.Shelf.Strings.BuilderK
import Derived.Shelf.Utf8.RuneCount
import Derived.Shelf.Strings.Builder2Cap
import Derived.Shelf.Strconv.Itoa0
import Derived.Shelf.Strings.Search1
import Derived.Shelf.Strings.Search2
import Derived.Shelf.Strings.Search3
import Derived.Shelf.Strings.Cut
import Derived.Shelf.Strings.Count
import Derived.Shelf.LaysM
import Derived.Shelf.Strings.Shaped
import Derived.Shelf.Sort.Plain
import Derived.Shelf.Strings.Prefix
import Derived.Shelf.Strings.Split
import Derived.Shelf.Strings.SplitShaped
import Derived.Shelf.Unicode.Decode
import Derived.Shelf.Strings.RuneCount
import Derived.Shelf.Strings.Explode
import Derived.Shelf.Unicode.DecodeSlow
import Derived.Shelf.Unicode.DecodeAny
import Derived.Shelf.Strings.BuilderCap
import Derived.Shelf.Slices.Equal
import Derived.Ground.Names2Prog
import Derived.Shelf.Slices.Clone
import Derived.Shelf.Slices.In.SortNone
import Derived.Shelf.Slices.Empties2
import Derived.Shelf.Bytes.SlSearch0
import Derived.Ground.SlgnProg
import Derived.Shelf.SlicesE.Equal
import Derived.Ground.SlgfProg
import Derived.Shelf.SlicesE.IndexFunc
import Derived.Shelf.SlicesE.DeleteFunc
import Derived.Shelf.Bytes.SlEqualAll
import Derived.Shelf.Bytes.Small
import Derived.Test.YthcjjjnphgopjaaGreatDoorProg
namespace Go.Proofs
open Go.Shelf
open Go.RowKit in
open Go.RowKit in
open Go.RowKit in
open Go.RowKit in
open Go.RowKit in
def Tryz.lays156_ren : Go.Shelf.Ren := ⟨fun | 156 => 93 | 165 => 115 | 166 => 116 | 169 => 117 | 240 => 130 | 241 => 131 | 276 => 145 | 277 => 146 | n => n, fun | 31 => 35 | 9 => 9 | 3 => 3 | 4 => 4 | 0 => 0 | 20 => 20 | 72 => 141 | 76 => 145 | 70 => 139 | 37 => 23 | 75 => 144 | 127 => 158 | 164 => 169 | 5 => 5 | 80 => 147 | n => n, fun | n => n⟩
theorem Tryz.lays156 : Go.Proofs.Lays.n156 Tryz.prog Tryz.lays156_ren := {
  mixed := by kernel_rfl
  f156 := Tryz.func93.trans (congrArg some (by kernel_rfl))
  f165 := Tryz.func115.trans (congrArg some (by kernel_rfl))
  f166 := Tryz.func116.trans (congrArg some (by kernel_rfl))
  f169 := Tryz.func117.trans (congrArg some (by kernel_rfl))
  f240 := Tryz.func130.trans (congrArg some (by kernel_rfl))
  f241 := Tryz.func131.trans (congrArg some (by kernel_rfl))
  f276 := Tryz.func145.trans (congrArg some (by kernel_rfl))
  f277 := Tryz.func146.trans (congrArg some (by kernel_rfl))
  t0 := Tryz.underlying0
  a0 := Tryz.isAgg0
  z0 := Tryz.sizeOf0
  v0 := Tryz.zeroValue0
  t3 := Tryz.underlying3
  a3 := Tryz.isAgg3
  z3 := Tryz.sizeOf3
  v3 := Tryz.zeroValue3
  t4 := Tryz.underlying4
  a4 := Tryz.isAgg4
  z4 := Tryz.sizeOf4
  v4 := Tryz.zeroValue4
  t9 := Tryz.underlying9
  a9 := Tryz.isAgg9
  z9 := Tryz.sizeOf9
  v9 := Tryz.zeroValue9
  t20 := Tryz.underlying20
  a20 := Tryz.isAgg20
  z20 := Tryz.sizeOf20
  v20 := Tryz.zeroValue20
  t31 := Tryz.underlying35
  a31 := Tryz.isAgg35
  z31 := Tryz.sizeOf35
  v31 := Tryz.zeroValue35
  t37 := Tryz.underlying23
  a37 := Tryz.isAgg23
  z37 := Tryz.sizeOf23
  v37 := Tryz.zeroValue23
  t70 := Tryz.underlying139
  a70 := Tryz.isAgg139
  z70 := Tryz.sizeOf139
  v70 := Tryz.zeroValue139
  t72 := Tryz.underlying141
  a72 := Tryz.isAgg141
  z72 := Tryz.sizeOf141
  v72 := Tryz.zeroValue141
  t75 := Tryz.underlying144
  a75 := Tryz.isAgg144
  z75 := Tryz.sizeOf144
  v75 := Tryz.zeroValue144
  t76 := Tryz.underlying145
  a76 := Tryz.isAgg145
  z76 := Tryz.sizeOf145
  v76 := Tryz.zeroValue145
  t127 := Tryz.underlying158
  a127 := Tryz.isAgg158
  z127 := Tryz.sizeOf158
  v127 := Tryz.zeroValue158
  t164 := Tryz.underlying169
  a164 := Tryz.isAgg169
  z164 := Tryz.sizeOf169
  v164 := Tryz.zeroValue169 }
theorem Tryz.Builder_Extra_156 : Builder.Extra Tryz.prog Tryz.lays156_ren := {
  sizeBuilder := by kernel_rfl
  liesBuilder := by kernel_rfl
  t5 := Tryz.underlying5
  a5 := Tryz.isAgg5
  z5 := Tryz.sizeOf5
  v5 := Tryz.zeroValue5
  infoByte := by kernel_rfl
  cellsByte := by kernel_rfl
  sizeByte := by kernel_rfl
  neB5 := by decide }
open Go.RowKit in
/-- No element: the empty string; the world is as it was. (Whatever the slice's address and capacity: a nil slice too.) (LAID: no walk: one application.) -/
theorem Tryz.strings_Join_none (a : Option Addr) (c : Nat) (sep : ByteArray) (w : World) :
    Calls Tryz.prog 93 #[.slice a 0 c, .string sep] w fun e w' => e = .returned (.string ⟨#[]⟩) ∧ w' = w := Any.strings_Join_none Tryz.lays156 Tryz.Builder_Extra_156 a c sep w
open Go.RowKit in
/-- strings.Join: "Join concatenates the elements of its first argument to create a single string. The separator string sep is placed between elements in the resulting string.": HOWEVER MANY ELEMENTS. Below the heap's end the world is as it was. (LAID: no walk: one application.) -/
theorem Tryz.strings_Join (bk o c : Nat) (xs : List ByteArray) (sep : ByteArray) (w : World) (hcells : ∀ (j : Nat) x, xs[j]? = some x → w.cell? ⟨bk, o + j, none⟩ = some (.string x)) (hbk : bk < w.heap.size) (hN : xs.length ≤ 140737488355328) (hcap : xs.length ≤ c) (hlen : (Lib.join (xs.map (·.data.toList)) sep.data.toList).length ≤ 140737488355328) :
    Calls Tryz.prog 93 #[.slice (some ⟨bk, o, none⟩) xs.length c, .string sep] w fun e w' => e = .returned (.string ⟨(Lib.join (xs.map (·.data.toList)) sep.data.toList).toArray⟩) ∧ Below w.heap.size w w' := Any.strings_Join Tryz.lays156 Tryz.Builder_Extra_156 bk o c xs sep w hcells hbk hN hcap hlen
open Go.RowKit in
def Tryz.lays103_ren : Go.Shelf.Ren := ⟨fun | 103 => 88 | 210 => 113 | 206 => 126 | n => n, fun | 9 => 9 | 4 => 4 | 24 => 118 | 3 => 3 | n => n, fun | n => n⟩
theorem Tryz.lays103 : Go.Proofs.Lays.n103 Tryz.prog Tryz.lays103_ren := {
  mixed := by kernel_rfl
  f103 := Tryz.func88.trans (congrArg some (by kernel_rfl))
  f206 := Tryz.func126.trans (congrArg some (by kernel_rfl))
  f210 := Tryz.func113.trans (congrArg some (by kernel_rfl))
  t3 := Tryz.underlying3
  a3 := Tryz.isAgg3
  z3 := Tryz.sizeOf3
  v3 := Tryz.zeroValue3
  t4 := Tryz.underlying4
  a4 := Tryz.isAgg4
  z4 := Tryz.sizeOf4
  v4 := Tryz.zeroValue4
  t9 := Tryz.underlying9
  a9 := Tryz.isAgg9
  z9 := Tryz.sizeOf9
  v9 := Tryz.zeroValue9
  t24 := Tryz.underlying118
  a24 := Tryz.isAgg118
  z24 := Tryz.sizeOf118
  v24 := Tryz.zeroValue118 }
open Go.RowKit in
/-- strings.CutPrefix: "CutPrefix returns s without the provided leading prefix string and reports whether it found the prefix. If s doesn't start with prefix, CutPrefix returns s, false. If prefix is the empty string, CutPrefix returns s, true.": IT RETURNS '(Lib.trimPrefix s p, Lib.hasPrefix s p)'; the world is as it was. (LAID: no walk: one application.) -/
theorem Tryz.strings_CutPrefix (s p : ByteArray) (w : World) :
    Calls Tryz.prog 88 #[.string s, .string p] w fun e w' => e = .returned (.tuple #[.string ⟨(Lib.trimPrefix s.data.toList p.data.toList).toArray⟩, .bool (Lib.hasPrefix s.data.toList p.data.toList)]) ∧ w' = w := Any.strings_CutPrefix Tryz.lays103 s p w
open Go.RowKit in
open Go.RowKit in
open Go.RowKit in
open Go.RowKit in
open Go.RowKit in
open Go.RowKit in
open Go.RowKit in
open Go.RowKit in
open Go.RowKit in
open Go.RowKit Go.Lib in
open Go.RowKit Go.Lib in
open Go.RowKit Go.Lib in
open Go.RowKit Go.Lib in
def Tryz.lays219_ren : Go.Shelf.Ren := ⟨fun | 219 => 87 | 217 => 109 | 225 => 110 | 224 => 111 | 267 => 112 | 266 => 124 | 314 => 125 | n => n, fun | 9 => 9 | 3 => 3 | 4 => 4 | 5 => 5 | 46 => 109 | 146 => 155 | 51 => 132 | n => n, fun | 1 => 0 | n => n⟩
theorem Tryz.lays219 : Go.Proofs.Lays.n219 Tryz.prog Tryz.lays219_ren := {
  mixed := by kernel_rfl
  f217 := Tryz.func109.trans (congrArg some (by kernel_rfl))
  f219 := Tryz.func87.trans (congrArg some (by kernel_rfl))
  f224 := Tryz.func111.trans (congrArg some (by kernel_rfl))
  f225 := Tryz.func110.trans (congrArg some (by kernel_rfl))
  f266 := Tryz.func124.trans (congrArg some (by kernel_rfl))
  f267 := Tryz.func112.trans (congrArg some (by kernel_rfl))
  f314 := Tryz.func125.trans (congrArg some (by kernel_rfl))
  t3 := Tryz.underlying3
  a3 := Tryz.isAgg3
  z3 := Tryz.sizeOf3
  v3 := Tryz.zeroValue3
  t4 := Tryz.underlying4
  a4 := Tryz.isAgg4
  z4 := Tryz.sizeOf4
  v4 := Tryz.zeroValue4
  t5 := Tryz.underlying5
  a5 := Tryz.isAgg5
  z5 := Tryz.sizeOf5
  v5 := Tryz.zeroValue5
  t9 := Tryz.underlying9
  a9 := Tryz.isAgg9
  z9 := Tryz.sizeOf9
  v9 := Tryz.zeroValue9
  t46 := Tryz.underlying109
  a46 := Tryz.isAgg109
  z46 := Tryz.sizeOf109
  v46 := Tryz.zeroValue109
  t51 := Tryz.underlying132
  a51 := Tryz.isAgg132
  z51 := Tryz.sizeOf132
  v51 := Tryz.zeroValue132
  t146 := Tryz.underlying155
  a146 := Tryz.isAgg155
  z146 := Tryz.sizeOf155
  v146 := Tryz.zeroValue155
  g1 := by kernel_rfl }
open Go.RowKit Go.Lib in
/-- internal/stringslite.Index (what strings.Index calls) AT A substr OF ONE BYTE c: IT RETURNS 'Lib.indexByte s c'; the world is as it was. (LAID: no walk: one application.) -/
theorem Tryz.stringslite_Index_one (s : ByteArray) (c : UInt8) (w : World) :
    Calls Tryz.prog 87 #[.string s, .string ⟨#[c]⟩] w fun e w' => e = .returned (.int .i64 (Lib.indexByte s.data.toList c)) ∧ w' = w := Any.stringslite_Index_one Tryz.lays219 s c w
open Go.RowKit Go.Lib in
def Tryz.lays143_ren : Go.Shelf.Ren := ⟨fun | 143 => 129 | 219 => 87 | 217 => 109 | 225 => 110 | 224 => 111 | 267 => 112 | 266 => 124 | 314 => 125 | n => n, fun | 9 => 9 | 3 => 3 | 4 => 4 | 5 => 5 | 46 => 109 | 146 => 155 | 51 => 132 | n => n, fun | 1 => 0 | n => n⟩
theorem Tryz.lays143 : Go.Proofs.Lays.n143 Tryz.prog Tryz.lays143_ren := {
  mixed := by kernel_rfl
  f143 := Tryz.func129.trans (congrArg some (by kernel_rfl))
  f217 := Tryz.func109.trans (congrArg some (by kernel_rfl))
  f219 := Tryz.func87.trans (congrArg some (by kernel_rfl))
  f224 := Tryz.func111.trans (congrArg some (by kernel_rfl))
  f225 := Tryz.func110.trans (congrArg some (by kernel_rfl))
  f266 := Tryz.func124.trans (congrArg some (by kernel_rfl))
  f267 := Tryz.func112.trans (congrArg some (by kernel_rfl))
  f314 := Tryz.func125.trans (congrArg some (by kernel_rfl))
  t3 := Tryz.underlying3
  a3 := Tryz.isAgg3
  z3 := Tryz.sizeOf3
  v3 := Tryz.zeroValue3
  t4 := Tryz.underlying4
  a4 := Tryz.isAgg4
  z4 := Tryz.sizeOf4
  v4 := Tryz.zeroValue4
  t5 := Tryz.underlying5
  a5 := Tryz.isAgg5
  z5 := Tryz.sizeOf5
  v5 := Tryz.zeroValue5
  t9 := Tryz.underlying9
  a9 := Tryz.isAgg9
  z9 := Tryz.sizeOf9
  v9 := Tryz.zeroValue9
  t46 := Tryz.underlying109
  a46 := Tryz.isAgg109
  z46 := Tryz.sizeOf109
  v46 := Tryz.zeroValue109
  t51 := Tryz.underlying132
  a51 := Tryz.isAgg132
  z51 := Tryz.sizeOf132
  v51 := Tryz.zeroValue132
  t146 := Tryz.underlying155
  a146 := Tryz.isAgg155
  z146 := Tryz.sizeOf155
  v146 := Tryz.zeroValue155
  g1 := by kernel_rfl }
open Go.RowKit Go.Lib in
/-- strings.Index: "Index returns the index of the first instance of substr in s, or -1 if substr is not present in s.": AT A substr OF ONE BYTE c: IT RETURNS 'Lib.indexByte s c'; the world is as it was. (LAID: no walk: one application.) -/
theorem Tryz.strings_Index_one (s : ByteArray) (c : UInt8) (w : World) :
    Calls Tryz.prog 129 #[.string s, .string ⟨#[c]⟩] w fun e w' => e = .returned (.int .i64 (Lib.indexByte s.data.toList c)) ∧ w' = w := Any.strings_Index_one Tryz.lays143 s c w
open Go.RowKit Go.Lib in
open Go.RowKit Go.Lib in
open Go.RowKit Go.Lib in
def Tryz.lays138_ren : Go.Shelf.Ren := ⟨fun | 138 => 128 | 195 => 142 | 218 => 144 | 143 => 129 | 219 => 87 | 217 => 109 | 225 => 110 | 224 => 111 | 267 => 112 | 266 => 124 | 314 => 125 | n => n, fun | 9 => 9 | 3 => 3 | 4 => 4 | 5 => 5 | 0 => 0 | 46 => 109 | 146 => 155 | 51 => 132 | n => n, fun | 1 => 0 | n => n⟩
theorem Tryz.lays138 : Go.Proofs.Lays.n138 Tryz.prog Tryz.lays138_ren := {
  mixed := by kernel_rfl
  f138 := Tryz.func128.trans (congrArg some (by kernel_rfl))
  f143 := Tryz.func129.trans (congrArg some (by kernel_rfl))
  f195 := Tryz.func142.trans (congrArg some (by kernel_rfl))
  f217 := Tryz.func109.trans (congrArg some (by kernel_rfl))
  f218 := Tryz.func144.trans (congrArg some (by kernel_rfl))
  f219 := Tryz.func87.trans (congrArg some (by kernel_rfl))
  f224 := Tryz.func111.trans (congrArg some (by kernel_rfl))
  f225 := Tryz.func110.trans (congrArg some (by kernel_rfl))
  f266 := Tryz.func124.trans (congrArg some (by kernel_rfl))
  f267 := Tryz.func112.trans (congrArg some (by kernel_rfl))
  f314 := Tryz.func125.trans (congrArg some (by kernel_rfl))
  t0 := Tryz.underlying0
  a0 := Tryz.isAgg0
  z0 := Tryz.sizeOf0
  v0 := Tryz.zeroValue0
  t3 := Tryz.underlying3
  a3 := Tryz.isAgg3
  z3 := Tryz.sizeOf3
  v3 := Tryz.zeroValue3
  t4 := Tryz.underlying4
  a4 := Tryz.isAgg4
  z4 := Tryz.sizeOf4
  v4 := Tryz.zeroValue4
  t5 := Tryz.underlying5
  a5 := Tryz.isAgg5
  z5 := Tryz.sizeOf5
  v5 := Tryz.zeroValue5
  t9 := Tryz.underlying9
  a9 := Tryz.isAgg9
  z9 := Tryz.sizeOf9
  v9 := Tryz.zeroValue9
  t46 := Tryz.underlying109
  a46 := Tryz.isAgg109
  z46 := Tryz.sizeOf109
  v46 := Tryz.zeroValue109
  t51 := Tryz.underlying132
  a51 := Tryz.isAgg132
  z51 := Tryz.sizeOf132
  v51 := Tryz.zeroValue132
  t146 := Tryz.underlying155
  a146 := Tryz.isAgg155
  z146 := Tryz.sizeOf155
  v146 := Tryz.zeroValue155
  g1 := by kernel_rfl }
open Go.RowKit Go.Lib in
/-- strings.Count AT A substr OF ONE BYTE ('hp'): "Count counts the number of non-overlapping instances of substr in s.": IT RETURNS 'Lib.countByte s (that byte)'; the world is as it was. ✋ NO CONTRACT HERE YET at an empty substr (utf8.RuneCountInString) or at a longer one (a loop over strings.Index). (LAID: no walk: one application.) -/
theorem Tryz.strings_Count_one (s : ByteArray) (c : UInt8) (w : World) :
    Calls Tryz.prog 128 #[.string s, .string ⟨#[c]⟩] w fun e w' => e = .returned (.int .i64 (Lib.countByte s.data.toList c)) ∧ w' = w := Any.strings_Count_one Tryz.lays138 s c w
open Go.RowKit Go.Lib in
open Go.RowKit Go.Lib in
open Go.RowKit Go.Lib in
open Go.RowKit Go.Lib in
open Go.RowKit Go.Lib in
open Go.RowKit Go.Lib in
def Tryz.lays190_ren : Go.Shelf.Ren := ⟨fun | 190 => 107 | 125 => 77 | 258 => 123 | 128 => 102 | 129 => 103 | 302 => 133 | 303 => 134 | 304 => 135 | 305 => 136 | 306 => 137 | 307 => 138 | 308 => 139 | 309 => 140 | 310 => 141 | 333 => 147 | 329 => 119 | 330 => 120 | 334 => 148 | 335 => 149 | 336 => 150 | 344 => 152 | n => n, fun | 31 => 35 | 9 => 9 | 3 => 3 | 46 => 109 | 0 => 0 | 51 => 132 | 53 => 91 | 4 => 4 | 183 => 125 | 182 => 124 | 131 => 129 | 5 => 5 | 218 => 148 | 222 => 152 | 228 => 159 | 229 => 74 | n => n, fun | n => n⟩
theorem Tryz.lays190 : Go.Proofs.Lays.n190 Tryz.prog Tryz.lays190_ren := {
  mixed := by kernel_rfl
  f125 := Tryz.func77.trans (congrArg some (by kernel_rfl))
  f128 := Tryz.func102.trans (congrArg some (by kernel_rfl))
  f129 := Tryz.func103.trans (congrArg some (by kernel_rfl))
  f190 := Tryz.func107.trans (congrArg some (by kernel_rfl))
  f258 := Tryz.func123.trans (congrArg some (by kernel_rfl))
  f302 := Tryz.func133.trans (congrArg some (by kernel_rfl))
  f303 := Tryz.func134.trans (congrArg some (by kernel_rfl))
  f304 := Tryz.func135.trans (congrArg some (by kernel_rfl))
  f305 := Tryz.func136.trans (congrArg some (by kernel_rfl))
  f306 := Tryz.func137.trans (congrArg some (by kernel_rfl))
  f307 := Tryz.func138.trans (congrArg some (by kernel_rfl))
  f308 := Tryz.func139.trans (congrArg some (by kernel_rfl))
  f309 := Tryz.func140.trans (congrArg some (by kernel_rfl))
  f310 := Tryz.func141.trans (congrArg some (by kernel_rfl))
  f329 := Tryz.func119.trans (congrArg some (by kernel_rfl))
  f330 := Tryz.func120.trans (congrArg some (by kernel_rfl))
  f333 := Tryz.func147.trans (congrArg some (by kernel_rfl))
  f334 := Tryz.func148.trans (congrArg some (by kernel_rfl))
  f335 := Tryz.func149.trans (congrArg some (by kernel_rfl))
  f336 := Tryz.func150.trans (congrArg some (by kernel_rfl))
  f344 := Tryz.func152.trans (congrArg some (by kernel_rfl))
  t0 := Tryz.underlying0
  a0 := Tryz.isAgg0
  z0 := Tryz.sizeOf0
  v0 := Tryz.zeroValue0
  t3 := Tryz.underlying3
  a3 := Tryz.isAgg3
  z3 := Tryz.sizeOf3
  v3 := Tryz.zeroValue3
  t4 := Tryz.underlying4
  a4 := Tryz.isAgg4
  z4 := Tryz.sizeOf4
  v4 := Tryz.zeroValue4
  t5 := Tryz.underlying5
  a5 := Tryz.isAgg5
  z5 := Tryz.sizeOf5
  v5 := Tryz.zeroValue5
  t9 := Tryz.underlying9
  a9 := Tryz.isAgg9
  z9 := Tryz.sizeOf9
  v9 := Tryz.zeroValue9
  t31 := Tryz.underlying35
  a31 := Tryz.isAgg35
  z31 := Tryz.sizeOf35
  v31 := Tryz.zeroValue35
  t46 := Tryz.underlying109
  a46 := Tryz.isAgg109
  z46 := Tryz.sizeOf109
  v46 := Tryz.zeroValue109
  t51 := Tryz.underlying132
  a51 := Tryz.isAgg132
  z51 := Tryz.sizeOf132
  v51 := Tryz.zeroValue132
  t53 := Tryz.underlying91
  a53 := Tryz.isAgg91
  z53 := Tryz.sizeOf91
  v53 := Tryz.zeroValue91
  t131 := Tryz.underlying129
  a131 := Tryz.isAgg129
  z131 := Tryz.sizeOf129
  v131 := Tryz.zeroValue129
  t182 := Tryz.underlying124
  a182 := Tryz.isAgg124
  z182 := Tryz.sizeOf124
  v182 := Tryz.zeroValue124
  t183 := Tryz.underlying125
  a183 := Tryz.isAgg125
  z183 := Tryz.sizeOf125
  v183 := Tryz.zeroValue125
  t218 := Tryz.underlying148
  a218 := Tryz.isAgg148
  z218 := Tryz.sizeOf148
  v218 := Tryz.zeroValue148
  t222 := Tryz.underlying152
  a222 := Tryz.isAgg152
  z222 := Tryz.sizeOf152
  v222 := Tryz.zeroValue152
  t228 := Tryz.underlying159
  a228 := Tryz.isAgg159
  z228 := Tryz.sizeOf159
  v228 := Tryz.zeroValue159
  t229 := Tryz.underlying74
  a229 := Tryz.isAgg74
  z229 := Tryz.sizeOf74
  v229 := Tryz.zeroValue74 }
open Go.Sort Go.RowKit in
theorem Tryz.slices_Sort_string (blk off cap : Nat) (ss : List (List UInt8)) (w : World) (hH : Holds encStr w blk off ss.toArray) (hblk : blk < w.heap.size) (hsz : ss.length < 4611686018427387904) :
    Calls Tryz.prog 107 #[.slice (some ⟨blk, off, none⟩) ss.length cap] w fun e w' =>
      e = .returned (.tuple #[]) ∧ ∃ n os, w' = grow (putRow encStr (Sort.ahead w n) blk off (ss.mergeSort fun x y => decide (x ≤ y)).toArray) os := Any.slices_Sort_string Tryz.lays190 blk off cap ss w hH hblk hsz
open Go.RowKit Go.Lib in
open Go.RowKit Go.Lib in
def Tryz.lays221_ren : Go.Shelf.Ren := ⟨fun | 221 => 114 | 268 => 127 | 138 => 128 | 143 => 129 | 195 => 142 | 197 => 143 | 218 => 144 | 219 => 87 | 260 => 151 | 217 => 109 | 225 => 110 | 224 => 111 | 267 => 112 | 266 => 124 | 314 => 125 | n => n, fun | 9 => 9 | 3 => 3 | 31 => 35 | 4 => 4 | 0 => 0 | 105 => 167 | 21 => 21 | 5 => 5 | 46 => 109 | 119 => 175 | 139 => 178 | 138 => 177 | 146 => 155 | 51 => 132 | n => n, fun | 1 => 0 | 3 => 1 | 4 => 2 | n => n⟩
theorem Tryz.lays221 : Go.Proofs.Lays.n221 Tryz.prog Tryz.lays221_ren := {
  mixed := by kernel_rfl
  f138 := Tryz.func128.trans (congrArg some (by kernel_rfl))
  f143 := Tryz.func129.trans (congrArg some (by kernel_rfl))
  f195 := Tryz.func142.trans (congrArg some (by kernel_rfl))
  f197 := Tryz.func143.trans (congrArg some (by kernel_rfl))
  f217 := Tryz.func109.trans (congrArg some (by kernel_rfl))
  f218 := Tryz.func144.trans (congrArg some (by kernel_rfl))
  f219 := Tryz.func87.trans (congrArg some (by kernel_rfl))
  f221 := Tryz.func114.trans (congrArg some (by kernel_rfl))
  f224 := Tryz.func111.trans (congrArg some (by kernel_rfl))
  f225 := Tryz.func110.trans (congrArg some (by kernel_rfl))
  f260 := Tryz.func151.trans (congrArg some (by kernel_rfl))
  f266 := Tryz.func124.trans (congrArg some (by kernel_rfl))
  f267 := Tryz.func112.trans (congrArg some (by kernel_rfl))
  f268 := Tryz.func127.trans (congrArg some (by kernel_rfl))
  f314 := Tryz.func125.trans (congrArg some (by kernel_rfl))
  t0 := Tryz.underlying0
  a0 := Tryz.isAgg0
  z0 := Tryz.sizeOf0
  v0 := Tryz.zeroValue0
  t3 := Tryz.underlying3
  a3 := Tryz.isAgg3
  z3 := Tryz.sizeOf3
  v3 := Tryz.zeroValue3
  t4 := Tryz.underlying4
  a4 := Tryz.isAgg4
  z4 := Tryz.sizeOf4
  v4 := Tryz.zeroValue4
  t5 := Tryz.underlying5
  a5 := Tryz.isAgg5
  z5 := Tryz.sizeOf5
  v5 := Tryz.zeroValue5
  t9 := Tryz.underlying9
  a9 := Tryz.isAgg9
  z9 := Tryz.sizeOf9
  v9 := Tryz.zeroValue9
  t21 := Tryz.underlying21
  a21 := Tryz.isAgg21
  z21 := Tryz.sizeOf21
  v21 := Tryz.zeroValue21
  t31 := Tryz.underlying35
  a31 := Tryz.isAgg35
  z31 := Tryz.sizeOf35
  v31 := Tryz.zeroValue35
  t46 := Tryz.underlying109
  a46 := Tryz.isAgg109
  z46 := Tryz.sizeOf109
  v46 := Tryz.zeroValue109
  t51 := Tryz.underlying132
  a51 := Tryz.isAgg132
  z51 := Tryz.sizeOf132
  v51 := Tryz.zeroValue132
  t105 := Tryz.underlying167
  a105 := Tryz.isAgg167
  z105 := Tryz.sizeOf167
  v105 := Tryz.zeroValue167
  t119 := Tryz.underlying175
  a119 := Tryz.isAgg175
  z119 := Tryz.sizeOf175
  t138 := Tryz.underlying177
  a138 := Tryz.isAgg177
  z138 := Tryz.sizeOf177
  v138 := Tryz.zeroValue177
  t139 := Tryz.underlying178
  a139 := Tryz.isAgg178
  z139 := Tryz.sizeOf178
  v139 := Tryz.zeroValue178
  t146 := Tryz.underlying155
  a146 := Tryz.isAgg155
  z146 := Tryz.sizeOf155
  v146 := Tryz.zeroValue155
  g1 := by kernel_rfl
  g3 := by kernel_rfl
  g4 := by kernel_rfl }
open Go.RowKit Go.Lib in
open Go.RowKit Go.Lib in
open Go.RowKit Go.Lib in
open Go.RowKit Go.Lib in
open Go.RowKit Go.Lib in
open Go.RowKit Go.Lib in
open Go.RowKit Go.Lib in
open Go.RowKit Go.Lib in
open Go.RowKit Go.Lib in
open Go.RowKit Go.Lib in
open Go.RowKit Go.Lib in
open Go.RowKit Go.Lib in
open Go.RowKit Go.Lib in
open Go.RowKit Go.Lib in
open Go.RowKit Go.Lib in
open Go.RowKit Go.Sort in
/-- .. and plain. (LAID: no walk: one application.) -/
theorem Tryz.slices_Sort_string_none (p : Option Addr) (cap : Nat) (w : World) :
    Calls Tryz.prog 107 #[.slice p 0 cap] w fun e w' => e = .returned (.tuple #[]) ∧ w' = w := Any.slices_Sort_string_none Tryz.lays190 p cap w
open Go.RowKit Go.Lib in
open Go.Proofs Go.RowKit Go.Lib in
open Go.RowKit Go.Lib in
def Tryz.laysSlH6_f108_ren : Go.Shelf.Ren := ⟨fun | 6 => 108 | n => n, fun | 22 => 35 | 23 => 9 | 25 => 62 | 3 => 3 | 0 => 0 | 4 => 4 | n => n, fun | n => n⟩
theorem Tryz.laysSlH6_f108 : Go.Proofs.SlLaysH.n6 Tryz.prog Tryz.laysSlH6_f108_ren := {
  mixed := by kernel_rfl
  f6 := ⟨Tryz.f108.name, by decide, Tryz.func108.trans (congrArg some (by kernel_rfl))⟩
  t0 := Tryz.underlying0
  a0 := Tryz.isAgg0
  z0 := Tryz.sizeOf0
  v0 := Tryz.zeroValue0
  t3 := Tryz.underlying3
  a3 := Tryz.isAgg3
  z3 := Tryz.sizeOf3
  v3 := Tryz.zeroValue3
  t4 := Tryz.underlying4
  a4 := Tryz.isAgg4
  z4 := Tryz.sizeOf4
  v4 := Tryz.zeroValue4
  t22 := Tryz.underlying35
  a22 := Tryz.isAgg35
  z22 := Tryz.sizeOf35
  v22 := Tryz.zeroValue35
  a23 := Tryz.isAgg9
  z23 := Tryz.sizeOf9
  t25 := Tryz.underlying62
  a25 := Tryz.isAgg62
  z25 := Tryz.sizeOf62
  v25 := Tryz.zeroValue62 }
open Go.RowKit Go.Lib in
open Go.RowKit Go.Lib in
/-- The same at a slice of length 0, a nil one too: the predicate is not called: nothing is asked of it. (LAID AT THE INSTANCE 'slices.IndexFunc[[]string,string]': no walk: one application.) -/
theorem Tryz.slices_IndexFunc_empty {α : Type} [Inhabited α] (a : Option Addr) (c : Nat) (fv : Value) (w : World) :
    Calls Tryz.prog 108 #[.slice a 0 c, fv] w fun e w' => e = .returned (.int .i64 (-1)) ∧ w' = w := AnyE.slices_IndexFunc_empty Tryz.laysSlH6_f108 a c fv w
open Go.RowKit Go.Lib in
open Go.RowKit Go.Lib in
def Tryz.laysSlH10_f84_ren : Go.Shelf.Ren := ⟨fun | 10 => 84 | 6 => 108 | n => n, fun | 22 => 35 | 23 => 9 | 25 => 62 | 3 => 3 | 4 => 4 | 0 => 0 | n => n, fun | n => n⟩
theorem Tryz.laysSlH10_f84 : Go.Proofs.SlLaysH.n10 Tryz.prog Tryz.laysSlH10_f84_ren := {
  mixed := by kernel_rfl
  f6 := ⟨Tryz.f108.name, by decide, Tryz.func108.trans (congrArg some (by kernel_rfl))⟩
  f10 := ⟨Tryz.f84.name, by decide, Tryz.func84.trans (congrArg some (by kernel_rfl))⟩
  t0 := Tryz.underlying0
  a0 := Tryz.isAgg0
  z0 := Tryz.sizeOf0
  v0 := Tryz.zeroValue0
  t3 := Tryz.underlying3
  a3 := Tryz.isAgg3
  z3 := Tryz.sizeOf3
  v3 := Tryz.zeroValue3
  t4 := Tryz.underlying4
  a4 := Tryz.isAgg4
  z4 := Tryz.sizeOf4
  v4 := Tryz.zeroValue4
  t22 := Tryz.underlying35
  a22 := Tryz.isAgg35
  z22 := Tryz.sizeOf35
  v22 := Tryz.zeroValue35
  a23 := Tryz.isAgg9
  z23 := Tryz.sizeOf9
  t25 := Tryz.underlying62
  a25 := Tryz.isAgg62
  z25 := Tryz.sizeOf62
  v25 := Tryz.zeroValue62 }
open Go.RowKit Go.Lib Go.Sort in
theorem Tryz.slices_DeleteFunc {α : Type} [Inhabited α] (enc : α → Value) (hO : OneCell enc) (p : α → Bool) (g : Nat) (lb : Array Value) (eg : ∀ args w, (callFunc g args).run Tryz.prog w = .ok (.enter g args) w) (zr : α) (v23 : ∀ w, (zeroValue 9).run Tryz.prog w = .ok (enc zr) w) (blk off cap : Nat) (d : Array α) (w : World) (hp : PredAt Tryz.prog g lb enc p w) (hpo : PredOver Tryz.prog g lb enc p blk off d.size w) (hH : Holds enc w blk off d) (hsz : d.size ≤ 9223372036854775807) (hcap : d.size ≤ cap) :
    Calls Tryz.prog 84 #[.slice (some ⟨blk, off, none⟩) d.size cap, .func (.func g) #[] lb] w fun e w' => e = .returned (.slice (some ⟨blk, off, none⟩) (d.toList.filter fun x => !p x).length cap) ∧ ∃ q, w' = putRow enc (Sort.ahead w q) blk off ((d.toList.filter fun x => !p x) ++ List.replicate (d.size - (d.toList.filter fun x => !p x).length) zr).toArray := AnyE.slices_DeleteFunc Tryz.laysSlH10_f84 enc hO p g lb eg zr v23 blk off cap d w hp hpo hH hsz hcap
end Go.Proofs
