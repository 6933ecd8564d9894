/- Models. -/
import Derived.Test.YtfepdfjhejkemaaDoorD16
set_option linter.unusedSimpArgs false
set_option linter.unusedVariables false
namespace Go.Proofs.YtfepdfjhejkemaaDoor
open Go.RowKit Go.Tri
def shaStart : List Int := [0x6a09e667, 0xbb67ae85, 0x3c6ef372, 0xa54ff53a, 0x510e527f, 0x9b05688c, 0x1f83d9ab, 0x5be0cd19]
theorem shaStart_len : shaStart.length = 8 := rfl
def shaRounds : List Int := [0x428a2f98, 0x71374491, 0xb5c0fbcf, 0xe9b5dba5, 0x3956c25b, 0x59f111f1, 0x923f82a4, 0xab1c5ed5, 0xd807aa98, 0x12835b01, 0x243185be, 0x550c7dc3, 0x72be5d74, 0x80deb1fe, 0x9bdc06a7, 0xc19bf174, 0xe49b69c1, 0xefbe4786, 0x0fc19dc6, 0x240ca1cc, 0x2de92c6f, 0x4a7484aa, 0x5cb0a9dc, 0x76f988da, 0x983e5152, 0xa831c66d, 0xb00327c8, 0xbf597fc7, 0xc6e00bf3, 0xd5a79147, 0x06ca6351, 0x14292967, 0x27b70a85, 0x2e1b2138, 0x4d2c6dfc, 0x53380d13, 0x650a7354, 0x766a0abb, 0x81c2c92e, 0x92722c85, 0xa2bfe8a1, 0xa81a664b, 0xc24b8b70, 0xc76c51a3, 0xd192e819, 0xd6990624, 0xf40e3585, 0x106aa070, 0x19a4c116, 0x1e376c08, 0x2748774c, 0x34b0bcb5, 0x391c0cb3, 0x4ed8aa4a, 0x5b9cca4f, 0x682e6ff3, 0x748f82ee, 0x78a5636f, 0x84c87814, 0x8cc70208, 0x90befffa, 0xa4506ceb, 0xbef9a3f7, 0xc67178f2]
theorem shaRounds_len : shaRounds.length = 64 := by kernel_rfl
noncomputable def rotL32 (x : Int) (k : Int) : Option Int :=
(shlO .u32 x (andI .u64 (IntKind.u64.wrap (k)) 31)).bind fun x1 =>
(shrO .u32 x (IntKind.u64.wrap (32 - (andI .u64 (IntKind.u64.wrap (k)) 31)))).bind fun x2 =>
some (orI .u32 x1 x2)
noncomputable def turn (x : Int) (a_ : Int) (b_ : Int) (c_ : Int) (sh : Bool) : Option Int :=
(rotL32 x (IntKind.i64.wrap (0 - c_))).bind fun x1 =>
Option.bind (α := (Int)) (if sh = true then ((shrO .u32 x c_).bind fun x6 =>
some x6)
 else (some x1)) fun r4 => (rotL32 x (IntKind.i64.wrap (0 - a_))).bind fun x7 =>
(rotL32 x (IntKind.i64.wrap (0 - b_))).bind fun x8 =>
some (xorI .u32 (xorI .u32 x7 x8) r4)
noncomputable def shaNew  : Option ((List Int) × (List UInt8) × Int) :=
some (shaStart, ([] : List UInt8), 0)
noncomputable def rotr (x : Int) (n : Int) : Option Int :=
(shrO .u32 x (IntKind.u64.wrap (n))).bind fun x1 =>
(shlO .u32 x (IntKind.u64.wrap (IntKind.i64.wrap (32 - n)))).bind fun x2 =>
some (orI .u32 x1 x2)
noncomputable def rPad (b : List UInt8) : Option (List UInt8) :=
(appO ([] : List UInt8) b).bind fun x5 =>
(u8O 128).bind fun x7 =>
(appO x5 ([x7])).bind fun x9 =>
Option.bind (α := ((List UInt8))) (loopO (fun (s48 : (List UInt8)) => (remO ((s48).length : Int) 64).bind fun x50 =>
if x50 = 56 then (some (.inr s48))
 else ((u8O 0).bind fun x53 =>
(appO s48 ([x53])).bind fun x55 =>
some (.inl x55))) x9) fun r32 => Option.bind (α := ((List UInt8))) (loopO (fun (s94 : (List UInt8) × Int) => if 0 ≤ s94.2 then ((shrO .u64 (IntKind.u64.wrap ((IntKind.u64.wrap (((b).length : Int))) * 8)) (IntKind.u64.wrap (IntKind.i64.wrap (8 * s94.2)))).bind fun x97 =>
(u8O (IntKind.u8.wrap (x97))).bind fun x99 =>
(appO s94.1 ([x99])).bind fun x101 =>
some (.inl (x101, IntKind.i64.wrap (s94.2 - 1))))
 else (some (.inr s94.1))) (r32, 7)) fun r78 => some r78
noncomputable def rConst  : Option (List Int) :=
some ([1116352408, 1899447441, 3049323471, 3921009573, 961987163, 1508970993, 2453635748, 2870763221, 3624381080, 310598401, 607225278, 1426881987, 1925078388, 2162078206, 2614888103, 3248222580, 3835390401, 4022224774, 264347078, 604807628, 770255983, 1249150122, 1555081692, 1996064986, 2554220882, 2821834349, 2952996808, 3210313671, 3336571891, 3584528711, 113926993, 338241895, 666307205, 773529912, 1294757372, 1396182291, 1695183700, 1986661051, 2177026350, 2456956037, 2730485921, 2820302411, 3259730800, 3345764771, 3516065817, 3600352804, 4094571909, 275423344, 430227734, 506948616, 659060556, 883997877, 958139571, 1322822218, 1537002063, 1747873779, 1955562222, 2024104815, 2227730452, 2361852424, 2428436474, 2756734187, 3204031479, 3329325298] : List Int)
noncomputable def rSum (b : List UInt8) : Option (List UInt8) :=
(rConst).bind fun x4 =>
(rPad b).bind fun x8 =>
Option.bind (α := ((List Int))) (loopO (fun (s3273 : (List Int) × Int) => if s3273.2 < ((x8).length : Int) then (Option.bind (α := ((List Int))) (loopO (fun (s3670 : (List Int) × Int) => if s3670.2 < 64 then (Option.bind (α := ((List Int))) (if s3670.2 < 16 then ((idxO x8 (IntKind.i64.wrap (s3273.2 + (IntKind.i64.wrap (4 * s3670.2))))).bind fun x3724 =>
(idxO x8 (IntKind.i64.wrap ((IntKind.i64.wrap (s3273.2 + (IntKind.i64.wrap (4 * s3670.2)))) + 1))).bind fun x3727 =>
(idxO x8 (IntKind.i64.wrap ((IntKind.i64.wrap (s3273.2 + (IntKind.i64.wrap (4 * s3670.2)))) + 2))).bind fun x3729 =>
(idxO x8 (IntKind.i64.wrap ((IntKind.i64.wrap (s3273.2 + (IntKind.i64.wrap (4 * s3670.2)))) + 3))).bind fun x3731 =>
(idxO s3670.1 s3670.2).bind fun x3733 =>
some ((s3670.1).set (s3670.2 : Int).toNat (orI .u32 (orI .u32 (orI .u32 (shlI .u32 (IntKind.u32.wrap (((x3724).toNat : Int))) 24) (shlI .u32 (IntKind.u32.wrap (((x3727).toNat : Int))) 16)) (shlI .u32 (IntKind.u32.wrap (((x3729).toNat : Int))) 8)) (IntKind.u32.wrap (((x3731).toNat : Int))))))
 else ((idxO s3670.1 (IntKind.i64.wrap (s3670.2 - 15))).bind fun x3735 =>
(idxO s3670.1 (IntKind.i64.wrap (s3670.2 - 2))).bind fun x3736 =>
(rotr x3735 7).bind fun x3737 =>
(rotr x3735 18).bind fun x3738 =>
(rotr x3736 17).bind fun x3739 =>
(rotr x3736 19).bind fun x3740 =>
(idxO s3670.1 (IntKind.i64.wrap (s3670.2 - 16))).bind fun x3745 =>
(idxO s3670.1 (IntKind.i64.wrap (s3670.2 - 7))).bind fun x3746 =>
(idxO s3670.1 s3670.2).bind fun x3747 =>
some ((s3670.1).set (s3670.2 : Int).toNat (IntKind.u32.wrap ((IntKind.u32.wrap ((IntKind.u32.wrap (x3745 + (xorI .u32 (xorI .u32 x3737 x3738) (shrI .u32 x3735 3)))) + x3746)) + (xorI .u32 (xorI .u32 x3739 x3740) (shrI .u32 x3736 10))))))) fun r3710 => some (.inl (r3710, IntKind.i64.wrap (s3670.2 + 1))))
 else (some (.inr s3670.1))) (([0, 0, 0, 0, 0, 0, 0, 0, 0, 0, 0, 0, 0, 0, 0, 0, 0, 0, 0, 0, 0, 0, 0, 0, 0, 0, 0, 0, 0, 0, 0, 0, 0, 0, 0, 0, 0, 0, 0, 0, 0, 0, 0, 0, 0, 0, 0, 0, 0, 0, 0, 0, 0, 0, 0, 0, 0, 0, 0, 0, 0, 0, 0, 0] : List Int), 0)) fun r3512 => Option.bind (α := ((List Int))) (loopO (fun (s3843 : (List Int) × Int) => if s3843.2 < 64 then ((idxO s3843.1 0).bind fun x3846 =>
(idxO s3843.1 1).bind fun x3847 =>
(idxO s3843.1 2).bind fun x3848 =>
(idxO s3843.1 4).bind fun x3849 =>
(idxO s3843.1 5).bind fun x3850 =>
(idxO s3843.1 6).bind fun x3851 =>
(rotr x3849 6).bind fun x3852 =>
(rotr x3849 11).bind fun x3853 =>
(rotr x3849 25).bind fun x3854 =>
(idxO s3843.1 7).bind fun x3855 =>
(idxO x4 s3843.2).bind fun x3856 =>
(idxO r3512 s3843.2).bind fun x3857 =>
(rotr x3846 2).bind fun x3858 =>
(rotr x3846 13).bind fun x3859 =>
(rotr x3846 22).bind fun x3860 =>
(idxO s3843.1 3).bind fun x3861 =>
some (.inl (([IntKind.u32.wrap ((IntKind.u32.wrap ((IntKind.u32.wrap ((IntKind.u32.wrap ((IntKind.u32.wrap ((IntKind.u32.wrap (x3855 + (xorI .u32 (xorI .u32 x3852 x3853) x3854))) + (xorI .u32 (andI .u32 x3849 x3850) (andI .u32 (xorI .u32 4294967295 x3849) x3851)))) + x3856)) + x3857)) + (xorI .u32 (xorI .u32 x3858 x3859) x3860))) + (xorI .u32 (xorI .u32 (andI .u32 x3846 x3847) (andI .u32 x3846 x3848)) (andI .u32 x3847 x3848))), x3846, x3847, x3848, IntKind.u32.wrap (x3861 + (IntKind.u32.wrap ((IntKind.u32.wrap ((IntKind.u32.wrap ((IntKind.u32.wrap (x3855 + (xorI .u32 (xorI .u32 x3852 x3853) x3854))) + (xorI .u32 (andI .u32 x3849 x3850) (andI .u32 (xorI .u32 4294967295 x3849) x3851)))) + x3856)) + x3857))), x3849, x3850, x3851] : List Int), IntKind.i64.wrap (s3843.2 + 1))))
 else (some (.inr s3843.1))) (s3273.1, 0)) fun r3805 => Option.bind (α := ((List Int))) (loopO (fun (s3915 : (List Int) × Int) => if s3915.2 < 8 then ((idxO s3915.1 s3915.2).bind fun x3922 =>
(idxO r3805 s3915.2).bind fun x3923 =>
(idxO s3915.1 s3915.2).bind fun x3924 =>
some (.inl ((s3915.1).set (s3915.2 : Int).toNat (IntKind.u32.wrap (x3922 + x3923)), IntKind.i64.wrap (s3915.2 + 1))))
 else (some (.inr s3915.1))) (s3273.1, 0)) fun r3893 => some (.inl (r3893, IntKind.i64.wrap (s3273.2 + 64))))
 else (some (.inr s3273.1))) (([1779033703, 3144134277, 1013904242, 2773480762, 1359893119, 2600822924, 528734635, 1541459225] : List Int), 0)) fun r1967 => Option.bind (α := ((List UInt8))) (loopO (fun (s3975 : (List UInt8) × Int) => if s3975.2 < 32 then ((quoO .i64 s3975.2 4).bind fun x3978 =>
(idxO r1967 x3978).bind fun x3979 =>
(remO s3975.2 4).bind fun x3980 =>
(shrO .u32 x3979 (IntKind.u64.wrap (IntKind.i64.wrap (24 - (IntKind.i64.wrap (8 * x3980)))))).bind fun x3981 =>
(idxO s3975.1 s3975.2).bind fun x3982 =>
(u8O (IntKind.u8.wrap (x3981))).bind fun x3984 =>
some (.inl ((s3975.1).set (s3975.2 : Int).toNat x3984, IntKind.i64.wrap (s3975.2 + 1))))
 else (some (.inr s3975.1))) (((List.replicate 32 0) : List UInt8), 0)) fun r3955 => some r3955
noncomputable def mix (state : List Int) (p : List UInt8) : Option (List Int) :=
Option.bind (α := ((List Int))) (loopO (fun (s731 : (List Int) × Int) => if s731.2 < 64 then (Option.bind (α := ((List Int))) (if s731.2 < 16 then ((slcO p (IntKind.i64.wrap (4 * s731.2)) (IntKind.i64.wrap (4 * (IntKind.i64.wrap (s731.2 + 1))))).bind fun x807 =>
Option.bind (α := ((List Int))) (loopO (fun (s851 : (List Int) × Int) => if s851.2 < ((x807).length : Int) then ((idxO x807 s851.2).bind fun x854 =>
(idxO s851.1 s731.2).bind fun x857 =>
(idxO s851.1 s731.2).bind fun x858 =>
some (.inl ((s851.1).set (s731.2 : Int).toNat (orI .u32 (shlI .u32 x857 8) (IntKind.u32.wrap (((x854).toNat : Int)))), IntKind.i64.wrap (s851.2 + 1))))
 else (some (.inr s851.1))) (s731.1, 0)) fun r833 => some r833)
 else ((idxO s731.1 (IntKind.i64.wrap (s731.2 - 2))).bind fun x868 =>
(idxO s731.1 (IntKind.i64.wrap (s731.2 - 7))).bind fun x869 =>
(idxO s731.1 (IntKind.i64.wrap (s731.2 - 15))).bind fun x870 =>
(idxO s731.1 (IntKind.i64.wrap (s731.2 - 16))).bind fun x871 =>
(turn x868 17 19 10 true).bind fun x872 =>
(turn x870 7 18 3 true).bind fun x873 =>
(idxO s731.1 s731.2).bind fun x874 =>
some ((s731.1).set (s731.2 : Int).toNat (IntKind.u32.wrap ((IntKind.u32.wrap ((IntKind.u32.wrap (x872 + x869)) + x873)) + x871))))) fun r804 => some (.inl (r804, IntKind.i64.wrap (s731.2 + 1))))
 else (some (.inr s731.1))) ((List.replicate 64 0), 0)) fun r441 => Option.bind (α := ((List Int))) (loopO (fun (s1010 : (List Int) × Int) => if s1010.2 < 64 then ((idxO shaRounds s1010.2).bind fun x1013 =>
(idxO s1010.1 0).bind fun x1014 =>
(idxO s1010.1 4).bind fun x1015 =>
(idxO s1010.1 5).bind fun x1016 =>
(idxO s1010.1 6).bind fun x1017 =>
(idxO s1010.1 1).bind fun x1018 =>
(idxO s1010.1 2).bind fun x1019 =>
(idxO s1010.1 1).bind fun x1020 =>
(idxO s1010.1 2).bind fun x1021 =>
(idxO s1010.1 7).bind fun x1022 =>
(turn x1015 6 11 25 false).bind fun x1023 =>
(idxO r441 s1010.2).bind fun x1024 =>
(slcO s1010.1 1 ((s1010.1).length : Int)).bind fun x1028 =>
(slcO s1010.1 0 7).bind fun x1029 =>
(idxO (putAt s1010.1 (1 : Int).toNat ((x1029).take (x1028).length)) 4).bind fun x1031 =>
(idxO (putAt s1010.1 (1 : Int).toNat ((x1029).take (x1028).length)) 4).bind fun x1032 =>
(turn x1014 2 13 22 false).bind fun x1034 =>
(idxO ((putAt s1010.1 (1 : Int).toNat ((x1029).take (x1028).length)).set (4 : Int).toNat (IntKind.u32.wrap (x1031 + (IntKind.u32.wrap ((IntKind.u32.wrap ((IntKind.u32.wrap ((IntKind.u32.wrap (x1022 + x1023)) + (xorI .u32 (andI .u32 x1015 x1016) (andI .u32 (notI .u32 x1015) x1017)))) + x1013)) + x1024))))) 0).bind fun x1035 =>
some (.inl (((putAt s1010.1 (1 : Int).toNat ((x1029).take (x1028).length)).set (4 : Int).toNat (IntKind.u32.wrap (x1031 + (IntKind.u32.wrap ((IntKind.u32.wrap ((IntKind.u32.wrap ((IntKind.u32.wrap (x1022 + x1023)) + (xorI .u32 (andI .u32 x1015 x1016) (andI .u32 (notI .u32 x1015) x1017)))) + x1013)) + x1024))))).set (0 : Int).toNat (IntKind.u32.wrap ((IntKind.u32.wrap ((IntKind.u32.wrap ((IntKind.u32.wrap ((IntKind.u32.wrap ((IntKind.u32.wrap (x1022 + x1023)) + (xorI .u32 (andI .u32 x1015 x1016) (andI .u32 (notI .u32 x1015) x1017)))) + x1013)) + x1024)) + x1034)) + (xorI .u32 (xorI .u32 (andI .u32 x1014 x1018) (andI .u32 x1014 x1019)) (andI .u32 x1020 x1021)))), IntKind.i64.wrap (s1010.2 + 1))))
 else (some (.inr s1010.1))) (state, 0)) fun r956 => Option.bind (α := ((List Int))) (loopO (fun (s1070 : (List Int) × Int) => if s1070.2 < 8 then ((idxO state s1070.2).bind fun x1073 =>
(idxO s1070.1 s1070.2).bind fun x1074 =>
(idxO s1070.1 s1070.2).bind fun x1075 =>
some (.inl ((s1070.1).set (s1070.2 : Int).toNat (IntKind.u32.wrap (x1074 + x1073)), IntKind.i64.wrap (s1070.2 + 1))))
 else (some (.inr s1070.1))) (r956, 0)) fun r1056 => some r1056
noncomputable def shaAdd (h : (List Int) × (List UInt8) × Int) (b : List UInt8) : Option ((List Int) × (List UInt8) × Int) :=
(appO h.2.1 b).bind fun x7 =>
Option.bind (α := (((List Int) × (List UInt8)))) (loopO (fun (s97 : ((List Int) × (List UInt8))) => if 64 ≤ ((s97.2).length : Int) then ((slcO s97.2 0 64).bind fun x108 =>
(arrO 64 x108).bind fun x110 =>
(mix s97.1 x108).bind fun x111 =>
(slcO s97.2 64 ((s97.2).length : Int)).bind fun x114 =>
some (.inl (x111, x114)))
 else (some (.inr (s97.1, s97.2)))) (h.1, x7)) fun r60 => some (r60.1, r60.2, IntKind.u64.wrap (h.2.2 + (IntKind.u64.wrap (((b).length : Int)))))
noncomputable def shaHSum (h : (List Int) × (List UInt8) × Int) : Option ((List UInt8) × ((List Int) × (List UInt8) × Int)) :=
Option.bind (α := ((List UInt8))) ((appO ([] : List UInt8) h.2.1).bind fun x53 =>
some x53) fun r29 => (u8O 128).bind fun x55 =>
Option.bind (α := ((List UInt8))) (loopO (fun (s94 : (List UInt8)) => (remO (IntKind.i64.wrap ((IntKind.i64.wrap (((h.2.1).length : Int) + ((s94).length : Int))) + 8)) 64).bind fun x96 =>
if x96 = 0 then (some (.inr s94))
 else ((u8O 0).bind fun x99 =>
(appO s94 ([x99])).bind fun x101 =>
some (.inl x101))) ([x55])) fun r78 => Option.bind (α := ((List UInt8))) (loopO (fun (s140 : (List UInt8) × Int) => if 0 ≤ s140.2 then ((shrO .u64 (IntKind.u64.wrap (h.2.2 * 8)) (IntKind.i64.wrap (8 * s140.2))).bind fun x143 =>
(u8O (IntKind.u8.wrap (x143))).bind fun x145 =>
(appO s140.1 ([x145])).bind fun x147 =>
some (.inl (x147, IntKind.i64.wrap (s140.2 - 1))))
 else (some (.inr s140.1))) (r78, 7)) fun r124 => (shaAdd (h.1, r29, 0) r124).bind fun x148 =>
Option.bind (α := ((List UInt8))) (loopO (fun (s369 : (List UInt8) × Int) => if s369.2 < 8 then ((idxO x148.1 s369.2).bind fun x372 =>
Option.bind (α := ((List UInt8))) (loopO (fun (s406 : (List UInt8) × Int) => if s406.2 < 4 then ((shrO .u32 x372 (IntKind.i64.wrap (8 * (IntKind.i64.wrap (3 - s406.2))))).bind fun x409 =>
(idxO s406.1 (IntKind.i64.wrap ((IntKind.i64.wrap (4 * s369.2)) + s406.2))).bind fun x410 =>
(u8O (IntKind.u8.wrap (x409))).bind fun x412 =>
some (.inl ((s406.1).set (IntKind.i64.wrap ((IntKind.i64.wrap (4 * s369.2)) + s406.2) : Int).toNat x412, IntKind.i64.wrap (s406.2 + 1))))
 else (some (.inr s406.1))) (s369.1, 0)) fun r392 => some (.inl (r392, IntKind.i64.wrap (s369.2 + 1))))
 else (some (.inr s369.1))) ((List.replicate 32 0), 0)) fun r281 => some (r281, (h.1, h.2.1, h.2.2))
noncomputable def shaSum (b : List UInt8) : Option (List UInt8) :=
(shaNew).bind fun x4 =>
(shaAdd (x4.1, x4.2.1, x4.2.2) b).bind fun x8 =>
(shaHSum (x8.1, x8.2.1, x8.2.2)).bind fun x11 =>
some x11.1
noncomputable def cloneB (s : List UInt8) : Option (List UInt8) :=
(appO ([] : List UInt8) s).bind fun x5 =>
some x5
noncomputable def penRaw (p : (List UInt8)) (b : List UInt8) : Option (List UInt8) :=
(appO p b).bind fun x5 =>
some x5
noncomputable def penUint (p : (List UInt8)) (n : Int) (size : Int) : Option (Int × (List UInt8)) :=
if size < 1 then (some (1, p))
 else (if 8 < size then (some (1, p))
 else (if size < 8 then ((shrO .u64 n (IntKind.i64.wrap (8 * size))).bind fun x6 =>
if 0 < x6 then (some (1, p))
 else (Option.bind (α := ((List UInt8))) (loopO (fun (s71 : (List UInt8) × Int) => if 0 ≤ s71.2 then ((shrO .u64 n (IntKind.i64.wrap (8 * s71.2))).bind fun x79 =>
(u8O (IntKind.u8.wrap (x79))).bind fun x81 =>
(appO s71.1 ([x81])).bind fun x83 =>
some (.inl (x83, IntKind.i64.wrap (s71.2 - 1))))
 else (some (.inr s71.1))) (p, IntKind.i64.wrap (size - 1))) fun r45 => some (0, r45)))
 else (Option.bind (α := ((List UInt8))) (loopO (fun (s147 : (List UInt8) × Int) => if 0 ≤ s147.2 then ((shrO .u64 n (IntKind.i64.wrap (8 * s147.2))).bind fun x155 =>
(u8O (IntKind.u8.wrap (x155))).bind fun x157 =>
(appO s147.1 ([x157])).bind fun x159 =>
some (.inl (x159, IntKind.i64.wrap (s147.2 - 1))))
 else (some (.inr s147.1))) (p, IntKind.i64.wrap (size - 1))) fun r121 => some (0, r121))))
noncomputable def penData (p : (List UInt8)) : Option ((List UInt8) × (List UInt8)) :=
(cloneB p).bind fun x4 =>
some (x4, p)
noncomputable def newEye (data : List UInt8) : Option (List UInt8) :=
(cloneB data).bind fun x4 =>
some x4
noncomputable def eyeRaw (e : (List UInt8)) (n : Int) : Option ((List UInt8) × Int × (List UInt8)) :=
if n < 0 then (some (([] : List UInt8), 1, e))
 else (if ((e).length : Int) < n then (some (([] : List UInt8), 20, e))
 else ((slcO e 0 n).bind fun x7 =>
(cloneB x7).bind fun x8 =>
(slcO e n ((e).length : Int)).bind fun x11 =>
some (x8, 0, x11)))
noncomputable def eyeUint (e : (List UInt8)) (size : Int) : Option (Int × Int × (List UInt8)) :=
if size < 1 then (some (0, 1, e))
 else (if 8 < size then (some (0, 1, e))
 else ((eyeRaw e size).bind fun x5 =>
Option.bind (α := (Int)) (loopO (fun (s30 : Int × Int) => if s30.2 < ((x5.1).length : Int) then ((idxO x5.1 s30.2).bind fun x32 =>
some (.inl (orI .u64 (shlI .u64 s30.1 8) (IntKind.u64.wrap (((x32).toNat : Int))), IntKind.i64.wrap (s30.2 + 1))))
 else (some (.inr s30.1))) (0, 0)) fun r21 => some (r21, x5.2.1, x5.2.2)))
noncomputable def secFull (p : (List UInt8)) : Option ((List UInt8) × (List UInt8)) :=
(penData p).bind fun x4 =>
(appMkO x4.1 (IntKind.i64.wrap (512 - ((x4.1).length : Int))) (0 : UInt8)).bind fun x8 =>
some (x8, x4.2)
noncomputable def wrap (block : List UInt8) : Option ((List UInt8) × Int) :=
if 470 < ((block).length : Int) then (some (([] : List UInt8), 23))
 else ((u8O 66).bind fun x6 =>
(penRaw ([] : List UInt8) ([x6])).bind fun x7 =>
(penUint x7 (IntKind.u64.wrap (((block).length : Int))) 2).bind fun x9 =>
(penRaw x9.2 block).bind fun x11 =>
(secFull x11).bind fun x13 =>
some (x13.1, 0))
noncomputable def equalB (x : List UInt8) (y : List UInt8) : Option Bool :=
if ((x).length : Int) = ((y).length : Int) then (Option.bind (α := (Unit) ⊕ Bool) (loopO (fun (s46 : Int) => if s46 < ((x).length : Int) then ((idxO x s46).bind fun x48 =>
(idxO y s46).bind fun x51 =>
if ((x48).toNat : Int) = ((x51).toNat : Int) then (some (.inl (IntKind.i64.wrap (s46 + 1))))
 else (some (.inr (.inr false))))
 else (some (.inr (.inl ())))) 0) fun o29 => Sum.elim (fun r29 => some true) (fun rv => some rv) o29)
 else (some false)
noncomputable def unwrap (sector : List UInt8) : Option ((List UInt8) × Int) :=
(newEye sector).bind fun x3 =>
(eyeUint x3 1).bind fun x6 =>
(eyeUint x6.2.2 2).bind fun x8 =>
(eyeRaw x8.2.2 (IntKind.i64.wrap (x8.1))).bind fun x10 =>
if x10.2.1 = 0 then ((wrap x10.1).bind fun x14 =>
if x14.2 = 0 then ((equalB x14.1 sector).bind fun x17 =>
if (!x17) = true then (some (([] : List UInt8), 22))
 else (some (x10.1, 0)))
 else (some (([] : List UInt8), 22)))
 else (some (([] : List UInt8), 22))
noncomputable def diskNew (n : Int) : Option (((List (List UInt8)) × (List (Int × (List UInt8))) × Int × Bool) × Int) :=
if n < 1 then (none)
 else (if 4096 < n then (none)
 else (Option.bind (α := ((List (List UInt8)))) (loopO (fun (s70 : (List (List UInt8)) × Int) => if s70.2 < n then ((mkO 512 (0 : UInt8)).bind fun x79 =>
(appO s70.1 ([x79])).bind fun x82 =>
some (.inl (x82, IntKind.i64.wrap (s70.2 + 1))))
 else (some (.inr s70.1))) (([] : List (List UInt8)), 0)) fun r44 => some ((r44, ([] : List (Int × (List UInt8))), -1, false), 0)))
noncomputable def diskSectors (d : (List (List UInt8)) × (List (Int × (List UInt8))) × Int × Bool) : Option Int :=
some ((d.1).length : Int)
noncomputable def diskCall (d : (List (List UInt8)) × (List (Int × (List UInt8))) × Int × Bool) : Option (Bool × ((List (List UInt8)) × (List (Int × (List UInt8))) × Int × Bool)) :=
if d.2.2.1 = 0 then (some (false, (d.1, d.2.1, d.2.2.1, true)))
 else (Option.bind (α := (Int)) (if 0 < d.2.2.1 then (some (IntKind.i64.wrap (d.2.2.1 - 1)))
 else (some d.2.2.1)) fun r7 => some (true, (d.1, d.2.1, r7, d.2.2.2)))
noncomputable def diskRead (d : (List (List UInt8)) × (List (Int × (List UInt8))) × Int × Bool) (i : Int) : Option ((List UInt8) × Int) :=
if d.2.2.2 = true then (some (([] : List UInt8), 3))
 else (if i < 0 then (some (([] : List UInt8), 2))
 else (if ((d.1).length : Int) ≤ i then (some (([] : List UInt8), 2))
 else (Option.bind (α := (Unit) ⊕ (List UInt8)) (foldO (fun (s24 : Unit) (x24 : Int × (Int × (List UInt8))) => if x24.2.1 = i then ((cloneB x24.2.2).bind fun x30 =>
some (.inr x30))
 else (some (.inl ()))) () (backL d.2.1)) fun o24 => Sum.elim (fun s24 => (idxO d.1 i).bind fun x39 =>
(cloneB x39).bind fun x43 =>
some (x43, 0)) (fun r24 => some (r24, 0)) o24)))
noncomputable def diskWrite (d : (List (List UInt8)) × (List (Int × (List UInt8))) × Int × Bool) (i : Int) (data : List UInt8) : Option (Int × ((List (List UInt8)) × (List (Int × (List UInt8))) × Int × Bool)) :=
if d.2.2.2 = true then (some (3, (d.1, d.2.1, d.2.2.1, d.2.2.2)))
 else (if i < 0 then (some (2, (d.1, d.2.1, d.2.2.1, d.2.2.2)))
 else (if ((d.1).length : Int) ≤ i then (some (2, (d.1, d.2.1, d.2.2.1, d.2.2.2)))
 else (if ((data).length : Int) = 512 then ((diskCall (d.1, d.2.1, d.2.2.1, d.2.2.2)).bind fun x10 =>
(cloneB data).bind fun x18 =>
(appO x10.2.2.1 ([(i, x18)])).bind fun x22 =>
if (!x10.1) = true then (some (3, (x10.2.1, x22, x10.2.2.2.1, x10.2.2.2.2)))
 else (some (0, (x10.2.1, x22, x10.2.2.2.1, x10.2.2.2.2))))
 else (some (1, (d.1, d.2.1, d.2.2.1, d.2.2.2))))))
noncomputable def diskFlush (d : (List (List UInt8)) × (List (Int × (List UInt8))) × Int × Bool) : Option (Int × ((List (List UInt8)) × (List (Int × (List UInt8))) × Int × Bool)) :=
if d.2.2.2 = true then (some (3, (d.1, d.2.1, d.2.2.1, d.2.2.2)))
 else ((diskCall (d.1, d.2.1, d.2.2.1, d.2.2.2)).bind fun x6 =>
if (!x6.1) = true then (some (3, (x6.2.1, x6.2.2.1, x6.2.2.2.1, x6.2.2.2.2)))
 else (Option.bind (α := ((List (List UInt8)))) (loopO (fun (s93 : (List (List UInt8)) × Int) => if s93.2 < ((x6.2.2.1).length : Int) then ((idxO x6.2.2.1 s93.2).bind fun x96 =>
(idxO s93.1 x96.1).bind fun x106 =>
some (.inl ((s93.1).set (x96.1 : Int).toNat x96.2, IntKind.i64.wrap (s93.2 + 1))))
 else (some (.inr s93.1))) (x6.2.1, 0)) fun r59 => some (0, (r59, ([] : List (Int × (List UInt8))), x6.2.2.2.1, x6.2.2.2.2))))
noncomputable def diskCrash (d : (List (List UInt8)) × (List (Int × (List UInt8))) × Int × Bool) (fates : List Int) : Option ((List (List UInt8)) × (List (Int × (List UInt8))) × Int × Bool) :=
Option.bind (α := ((List (List UInt8)))) (loopO (fun (s91 : (List (List UInt8)) × Int) => if s91.2 < ((d.1).length : Int) then ((idxO d.1 s91.2).bind fun x94 =>
(cloneB x94).bind fun x103 =>
(appO s91.1 [x103]).bind fun x107 =>
some (.inl (x107, IntKind.i64.wrap (s91.2 + 1))))
 else (some (.inr s91.1))) (([] : List (List UInt8)), 0)) fun r57 => Option.bind (α := ((List (List UInt8)))) (loopO (fun (s2640 : (List (List UInt8)) × Int) => if s2640.2 < ((d.2.1).length : Int) then (Option.bind (α := ((List (List UInt8)))) ((idxO d.2.1 s2640.2).bind fun x2895 =>
Option.bind (α := (Int)) (if s2640.2 < ((fates).length : Int) then ((idxO fates s2640.2).bind fun x2907 =>
some x2907)
 else (some 0)) fun r2905 => (idxO s2640.1 x2895.1).bind fun x2910 =>
(remO (shrI .i64 r2905 2) 513).bind fun x2914 =>
(remO (IntKind.i64.wrap ((IntKind.i64.wrap (x2914 + 512)) + 1)) 513).bind fun x2915 =>
Option.bind (α := ((List (List UInt8)))) (Option.bind (α := ((List (List UInt8)))) (if (andI .i64 r2905 3) = 1 then (some ((s2640.1).set (x2895.1 : Int).toNat (putAt x2910 0 ((x2895.2).take (x2910).length))))
 else (Option.bind (α := ((List (List UInt8)))) (if (andI .i64 r2905 3) = 2 then ((slcO x2895.2 0 x2915).bind fun x3122 =>
some ((s2640.1).set (x2895.1 : Int).toNat (putAt x2910 0 ((x3122).take (x2910).length))))
 else (Option.bind (α := ((List (List UInt8)))) (if (andI .i64 r2905 3) = 3 then ((slcO x2910 x2915 ((x2910).length : Int)).bind fun x3143 =>
(slcO x2895.2 x2915 ((x2895.2).length : Int)).bind fun x3145 =>
some ((s2640.1).set (x2895.1 : Int).toNat (putAt x2910 (x2915 : Int).toNat ((x3145).take (x3143).length))))
 else (some s2640.1)) fun r3135 => some r3135)) fun r3119 => some r3119)) fun r3089 => some r3089) fun r3031 => some r3031) fun r2894 => some (.inl (r2894, IntKind.i64.wrap (s2640.2 + 1))))
 else (some (.inr s2640.1))) (r57, 0)) fun r1627 => some (r1627, ([] : List (Int × (List UInt8))), -1, false)
noncomputable def stHas (s : ((List (List UInt8)) × (List (Int × (List UInt8))) × Int × Bool) × ((List UInt8) → Option Int) × (Int → Option (List UInt8)) × ((List UInt8) → Option Int)) (h : List UInt8) : Option Bool :=
some ((s.2.1 h).isSome)
noncomputable def stHold (s : ((List (List UInt8)) × (List (Int × (List UInt8))) × Int × Bool) × ((List UInt8) → Option Int) × (Int → Option (List UInt8)) × ((List UInt8) → Option Int)) (list : List (List UInt8)) : Option (((List (List UInt8)) × (List (Int × (List UInt8))) × Int × Bool) × ((List UInt8) → Option Int) × (Int → Option (List UInt8)) × ((List UInt8) → Option Int)) :=
Option.bind (α := (((List UInt8) → Option Int))) (loopO (fun (s45 : ((List UInt8) → Option Int) × Int) => if s45.2 < ((list).length : Int) then ((idxO list s45.2).bind fun x47 =>
some (.inl (fset x47 1 s45.1, IntKind.i64.wrap (s45.2 + 1))))
 else (some (.inr s45.1))) ((fnil : (List UInt8) → Option Int), 0)) fun r32 => some ((s.1.1, s.1.2.1, s.1.2.2.1, s.1.2.2.2), s.2.1, s.2.2.1, r32)
noncomputable def stfree (s : ((List (List UInt8)) × (List (Int × (List UInt8))) × Int × Bool) × ((List UInt8) → Option Int) × (Int → Option (List UInt8)) × ((List UInt8) → Option Int)) (i : Int) : Option Bool :=
if (!((s.2.2.1 i).isSome)) = true then (some true)
 else (some (decide (((s.2.2.2 ((s.2.2.1 i).getD (List.replicate 32 0))).getD 0) = 0)))
noncomputable def stFree (s : ((List (List UInt8)) × (List (Int × (List UInt8))) × Int × Bool) × ((List UInt8) → Option Int) × (Int → Option (List UInt8)) × ((List UInt8) → Option Int)) : Option Int :=
Option.bind (α := (Int)) (loopO (fun (s63 : Int × Int) => (diskSectors (s.1.1, s.1.2.1, s.1.2.2.1, s.1.2.2.2)).bind fun x64 =>
if s63.2 < x64 then (Option.bind (α := (Int)) ((stfree ((s.1.1, s.1.2.1, s.1.2.2.1, s.1.2.2.2), s.2.1, s.2.2.1, s.2.2.2) s63.2).bind fun x71 =>
Option.bind (α := (Int)) (if x71 = true then (some (IntKind.i64.wrap (s63.1 + 1)))
 else (some s63.1)) fun r73 => some r73) fun r70 => some (.inl (r70, IntKind.i64.wrap (s63.2 + 1))))
 else (some (.inr s63.1))) (0, 2)) fun r40 => some r40
noncomputable def stPut (s : ((List (List UInt8)) × (List (Int × (List UInt8))) × Int × Bool) × ((List UInt8) → Option Int) × (Int → Option (List UInt8)) × ((List UInt8) → Option Int)) (block : List UInt8) : Option ((List UInt8) × Int × (((List (List UInt8)) × (List (Int × (List UInt8))) × Int × Bool) × ((List UInt8) → Option Int) × (Int → Option (List UInt8)) × ((List UInt8) → Option Int))) :=
(wrap block).bind fun x14 =>
if x14.2 = 0 then ((shaSum block).bind fun x17 =>
(stHas ((s.1.1, s.1.2.1, s.1.2.2.1, s.1.2.2.2), s.2.1, s.2.2.1, s.2.2.2) x17).bind fun x20 =>
if x20 = true then (some (x17, 0, ((s.1.1, s.1.2.1, s.1.2.2.1, s.1.2.2.2), s.2.1, s.2.2.1, fset x17 1 s.2.2.2)))
 else (Option.bind (α := (Unit) ⊕ ((List UInt8) × Int × (((List (List UInt8)) × (List (Int × (List UInt8))) × Int × Bool) × ((List UInt8) → Option Int) × (Int → Option (List UInt8)) × ((List UInt8) → Option Int)))) (loopO (fun (s129 : Int) => (diskSectors (s.1.1, s.1.2.1, s.1.2.2.1, s.1.2.2.2)).bind fun x130 =>
if s129 < x130 then ((stfree ((s.1.1, s.1.2.1, s.1.2.2.1, s.1.2.2.2), s.2.1, s.2.2.1, s.2.2.2) s129).bind fun x132 =>
if (!x132) = true then (some (.inl (IntKind.i64.wrap (s129 + 1))))
 else ((diskWrite (s.1.1, s.1.2.1, s.1.2.2.1, s.1.2.2.2) s129 x14.1).bind fun x134 =>
if x134.1 = 0 then (Option.bind (α := (((List UInt8) → Option Int))) (if ((s.2.2.1 s129).isSome) = true then (some (fdel ((s.2.2.1 s129).getD (List.replicate 32 0)) s.2.1))
 else (some s.2.1)) fun r143 => some (.inr (.inr (x17, 0, ((x134.2.1, x134.2.2.1, x134.2.2.2.1, x134.2.2.2.2), fset x17 s129 r143, fset s129 x17 s.2.2.1, fset x17 1 s.2.2.2)))))
 else (some (.inr (.inr (((List.replicate 32 0) : List UInt8), x134.1, ((x134.2.1, x134.2.2.1, x134.2.2.2.1, x134.2.2.2.2), s.2.1, s.2.2.1, s.2.2.2)))))))
 else (some (.inr (.inl ())))) 2) fun o86 => Sum.elim (fun r86 => some (((List.replicate 32 0) : List UInt8), 50, ((s.1.1, s.1.2.1, s.1.2.2.1, s.1.2.2.2), s.2.1, s.2.2.1, s.2.2.2))) (fun rv => some rv) o86))
 else (some (((List.replicate 32 0) : List UInt8), x14.2, ((s.1.1, s.1.2.1, s.1.2.2.1, s.1.2.2.2), s.2.1, s.2.2.1, s.2.2.2)))
noncomputable def stGet (s : ((List (List UInt8)) × (List (Int × (List UInt8))) × Int × Bool) × ((List UInt8) → Option Int) × (Int → Option (List UInt8)) × ((List UInt8) → Option Int)) (h : List UInt8) : Option ((List UInt8) × Int) :=
if (!((s.2.1 h).isSome)) = true then (some (([] : List UInt8), 51))
 else ((diskRead (s.1.1, s.1.2.1, s.1.2.2.1, s.1.2.2.2) ((s.2.1 h).getD 0)).bind fun x12 =>
if x12.2 = 0 then ((unwrap x12.1).bind fun x15 =>
if x15.2 = 0 then ((shaSum x15.1).bind fun x18 =>
if x18 = h then (some (x15.1, 0))
 else (some (([] : List UInt8), 51)))
 else (some (([] : List UInt8), 51)))
 else (some (([] : List UInt8), x12.2)))
noncomputable def stOpen (d : (List (List UInt8)) × (List (Int × (List UInt8))) × Int × Bool) : Option ((((List UInt8) → Option Int) × (Int → Option (List UInt8)) × ((List UInt8) → Option Int)) × Int) :=
(diskSectors (d.1, d.2.1, d.2.2.1, d.2.2.2)).bind fun x11 =>
Option.bind (α := ((Int → Option (List UInt8)) × ((List UInt8) → Option Int)) ⊕ ((((List UInt8) → Option Int) × (Int → Option (List UInt8)) × ((List UInt8) → Option Int)) × Int)) (loopO (fun (s254 : (Int → Option (List UInt8)) × ((List UInt8) → Option Int) × Int) => if s254.2.2 < x11 then (Option.bind (α := ((Int → Option (List UInt8)) × ((List UInt8) → Option Int)) ⊕ ((((List UInt8) → Option Int) × (Int → Option (List UInt8)) × ((List UInt8) → Option Int)) × Int)) ((diskRead (d.1, d.2.1, d.2.2.1, d.2.2.2) s254.2.2).bind fun x280 =>
if x280.2 = 0 then ((unwrap x280.1).bind fun x283 =>
if s254.2.2 < 2 then (some (.inl (s254.1, s254.2.1)))
 else (if x283.2 = 0 then ((shaSum x283.1).bind fun x287 =>
Option.bind (α := ((Int → Option (List UInt8)) × ((List UInt8) → Option Int))) (if (!((s254.2.1 x287).isSome)) = true then (some (fset s254.2.2 x287 s254.1, fset x287 s254.2.2 s254.2.1))
 else (some (s254.1, s254.2.1))) fun r297 => some (.inl (r297.1, r297.2)))
 else (some (.inl (s254.1, s254.2.1)))))
 else (none)) fun o279 => Sum.elim (fun r279 => some (.inl (r279.1, r279.2, IntKind.i64.wrap (s254.2.2 + 1)))) (fun rv => some (.inr (.inr rv))) o279)
 else (some (.inr (.inl (s254.1, s254.2.1))))) ((fnil : Int → Option (List UInt8)), (fnil : (List UInt8) → Option Int), 0)) fun o157 => Sum.elim (fun r157 => some ((r157.2, r157.1, (fnil : (List UInt8) → Option Int)), 0)) (fun rv => some rv) o157
noncomputable def m_triremelaw05_speaks  : Option Bool :=
(diskNew 4).bind fun x1 =>
(stOpen (x1.1.1, x1.1.2.1, x1.1.2.2.1, x1.1.2.2.2)).bind fun x5 =>
if x5.2 = 0 then ((u8O 97).bind fun x12 =>
(stPut ((x1.1.1, x1.1.2.1, x1.1.2.2.1, x1.1.2.2.2), x5.1.1, x5.1.2.1, x5.1.2.2) ([x12])).bind fun x13 =>
(u8O 98).bind fun x22 =>
(stPut ((x13.2.2.1.1, x13.2.2.1.2.1, x13.2.2.1.2.2.1, x13.2.2.1.2.2.2), x13.2.2.2.1, x13.2.2.2.2.1, x13.2.2.2.2.2) ([x22])).bind fun x23 =>
(u8O 99).bind fun x31 =>
(stPut ((x23.2.2.1.1, x23.2.2.1.2.1, x23.2.2.1.2.2.1, x23.2.2.1.2.2.2), x23.2.2.2.1, x23.2.2.2.2.1, x23.2.2.2.2.2) ([x31])).bind fun x32 =>
(stHold ((x32.2.2.1.1, x32.2.2.1.2.1, x32.2.2.1.2.2.1, x32.2.2.1.2.2.2), x32.2.2.2.1, x32.2.2.2.2.1, x32.2.2.2.2.2) ([] : List (List UInt8))).bind fun x40 =>
(u8O 99).bind fun x47 =>
(stPut ((x40.1.1, x40.1.2.1, x40.1.2.2.1, x40.1.2.2.2), x40.2.1, x40.2.2.1, x40.2.2.2) ([x47])).bind fun x48 =>
if x13.2.1 = 0 then ((u8O 97).bind fun x69 =>
(rSum ([x69])).bind fun x70 =>
if x13.1 = x70 then (if x32.2.1 = 50 then (if x48.2.1 = 0 then ((stHas ((x48.2.2.1.1, x48.2.2.1.2.1, x48.2.2.1.2.2.1, x48.2.2.1.2.2.2), x48.2.2.2.1, x48.2.2.2.2.1, x48.2.2.2.2.2) x13.1).bind fun x75 =>
if (!x75) = true then ((stFree ((x48.2.2.1.1, x48.2.2.1.2.1, x48.2.2.1.2.2.1, x48.2.2.1.2.2.2), x48.2.2.2.1, x48.2.2.2.2.1, x48.2.2.2.2.2)).bind fun x77 =>
some (decide (x77 = 1)))
 else (some false))
 else (some false))
 else (some false))
 else (some false))
 else (some false))
 else (some false)
noncomputable def m_triremelaw05_StoreKeeps (x0_ : List (List UInt8)) (x1_ : List (List UInt8)) (x2_ : List Int) : Option Bool :=
(m_triremelaw05_speaks).bind fun x4 =>
if (!x4) = true then (some false)
 else (if 10 < ((x0_).length : Int) then (some true)
 else (if 30 < ((x1_).length : Int) then (some true)
 else ((diskNew 16).bind fun x8 =>
(stOpen (x8.1.1, x8.1.2.1, x8.1.2.2.1, x8.1.2.2.2)).bind fun x12 =>
Option.bind (α := ((((List UInt8) → Option Int) × (Int → Option (List UInt8)) × ((List UInt8) → Option Int)) × ((List (List UInt8)) × (List (Int × (List UInt8))) × Int × Bool) × (List (List UInt8))) ⊕ Bool) (loopO (fun (s161 : (((List UInt8) → Option Int) × (Int → Option (List UInt8)) × ((List UInt8) → Option Int)) × ((List (List UInt8)) × (List (Int × (List UInt8))) × Int × Bool) × (List (List UInt8)) × Int) => if s161.2.2.2 < ((x0_).length : Int) then ((idxO x0_ s161.2.2.2).bind fun x169 =>
if 470 < ((x169).length : Int) then (some (.inr (.inr true)))
 else ((stPut ((s161.2.1.1, s161.2.1.2.1, s161.2.1.2.2.1, s161.2.1.2.2.2), s161.1.1, s161.1.2.1, s161.1.2.2) x169).bind fun x174 =>
if x174.2.1 = 0 then ((rSum x169).bind fun x183 =>
if x174.1 = x183 then ((appO s161.2.2.1 ([x174.1])).bind fun x188 =>
some (.inl ((x174.2.2.2.1, x174.2.2.2.2.1, x174.2.2.2.2.2), (x174.2.2.1.1, x174.2.2.1.2.1, x174.2.2.1.2.2.1, x174.2.2.1.2.2.2), x188, IntKind.i64.wrap (s161.2.2.2 + 1))))
 else (some (.inr (.inr false))))
 else (some (.inr (.inr false)))))
 else (some (.inr (.inl ((s161.1.1, s161.1.2.1, s161.1.2.2), (s161.2.1.1, s161.2.1.2.1, s161.2.1.2.2.1, s161.2.1.2.2.2), s161.2.2.1))))) ((x12.1.1, x12.1.2.1, x12.1.2.2), (x8.1.1, x8.1.2.1, x8.1.2.2.1, x8.1.2.2.2), ([] : List (List UInt8)), 0)) fun o100 => Sum.elim (fun r100 => (diskFlush (r100.2.1.1, r100.2.1.2.1, r100.2.1.2.2.1, r100.2.1.2.2.2)).bind fun x189 =>
(stHold ((x189.2.1, x189.2.2.1, x189.2.2.2.1, x189.2.2.2.2), r100.1.1, r100.1.2.1, r100.1.2.2) r100.2.2).bind fun x192 =>
Option.bind (α := ((((List UInt8) → Option Int) × (Int → Option (List UInt8)) × ((List UInt8) → Option Int)) × ((List (List UInt8)) × (List (Int × (List UInt8))) × Int × Bool))) (loopO (fun (s290 : (((List UInt8) → Option Int) × (Int → Option (List UInt8)) × ((List UInt8) → Option Int)) × ((List (List UInt8)) × (List (Int × (List UInt8))) × Int × Bool) × Int) => if s290.2.2 < ((x1_).length : Int) then ((idxO x1_ s290.2.2).bind fun x297 =>
(stPut ((s290.2.1.1, s290.2.1.2.1, s290.2.1.2.2.1, s290.2.1.2.2.2), s290.1.1, s290.1.2.1, s290.1.2.2) x297).bind fun x301 =>
some (.inl ((x301.2.2.2.1, x301.2.2.2.2.1, x301.2.2.2.2.2), (x301.2.2.1.1, x301.2.2.1.2.1, x301.2.2.1.2.2.1, x301.2.2.1.2.2.2), IntKind.i64.wrap (s290.2.2 + 1))))
 else (some (.inr ((s290.1.1, s290.1.2.1, s290.1.2.2), (s290.2.1.1, s290.2.1.2.1, s290.2.1.2.2.1, s290.2.1.2.2.2))))) ((x192.2.1, x192.2.2.1, x192.2.2.2), (x192.1.1, x192.1.2.1, x192.1.2.2.1, x192.1.2.2.2), 0)) fun r250 => (diskCrash (r250.2.1, r250.2.2.1, r250.2.2.2.1, r250.2.2.2.2) x2_).bind fun x308 =>
(stOpen (x308.1, x308.2.1, x308.2.2.1, x308.2.2.2)).bind fun x312 =>
if x312.2 = 0 then (Option.bind (α := (Unit) ⊕ Bool) (loopO (fun (s405 : Int) => if s405 < ((r100.2.2).length : Int) then ((idxO r100.2.2 s405).bind fun x407 =>
(stGet ((x308.1, x308.2.1, x308.2.2.1, x308.2.2.2), x312.1.1, x312.1.2.1, x312.1.2.2) x407).bind fun x412 =>
if x412.2 = 0 then ((idxO x0_ s405).bind fun x415 =>
if x412.1 = x415 then (some (.inl (IntKind.i64.wrap (s405 + 1))))
 else ((rSum x412.1).bind fun x420 =>
if x420 = x407 then (some (.inl (IntKind.i64.wrap (s405 + 1))))
 else (some (.inr (.inr false)))))
 else (some (.inr (.inr false))))
 else (some (.inr (.inl ())))) 0) fun o370 => Sum.elim (fun r370 => some true) (fun rv => some rv) o370)
 else (some false)) (fun rv => some rv) o100)))
end Go.Proofs.YtfepdfjhejkemaaDoor
