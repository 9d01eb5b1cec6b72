/- ShelfL -/
import Derived.Shelf.Small.Bits
import Derived.Shelf.Utf8.RuneCount
import Derived.Shelf.Strconv.Itoa0
import Derived.Shelf.Strconv.Itoa1
import Derived.Shelf.LaysM
import Derived.Shelf.Strconv.Itoa2
import Derived.Shelf.Strconv.Itoa3
import Derived.Shelf.Strconv.Lower
import Derived.Shelf.Strconv.ParseUint10
import Derived.Shelf.Strconv.ParseUintEmpty
import Derived.Shelf.Strconv.ParseUint10b64
import Derived.Shelf.Strconv.ParseUint10b32
import Derived.Shelf.Strconv.ParseUint10b16
import Derived.Shelf.Strconv.ParseUint10b8
import Derived.Shelf.Strconv.ParseUint10At
import Derived.Ground.MpProg
import Derived.Shelf.Pu.ParseUintPublic10
import Derived.Shelf.Strings.Search1
import Derived.Shelf.Strings.Search2
import Derived.Shelf.Strings.Search3
import Derived.Shelf.Strings.Count
import Derived.Shelf.Strings.Shaped
import Derived.Shelf.GgClosure.StringsIndexFunc
import Derived.Ground.GgwProg
import Derived.Shelf.GgClosure.StringsIndexFuncTop
import Derived.Shelf.GgClosure.StringsRunes
import Derived.Shelf.Strings.Split
import Derived.Shelf.Strings.Fields
import Derived.Shelf.Strings.SplitShaped
import Derived.Shelf.Unicode.Latin
import Derived.Shelf.Unicode.Decode
import Derived.Shelf.Strings.RuneCount
import Derived.Shelf.Strings.Explode
import Derived.Shelf.Unicode.DecodeSlow
import Derived.Shelf.Unicode.DecodeAny
import Derived.Shelf.Unicode.Is16White
import Derived.Shelf.Unicode.IsSpaceAny
import Derived.Shelf.Unicode.Is16WhiteD
import Derived.Shelf.Unicode.IsSpaceAnyD
import Derived.Shelf.Strings.FieldsAny
import Derived.Shelf.Strings.FieldsFuncAny
import Derived.Shelf.Unicode.Is16Any
import Derived.Shelf.Unicode.Is32Any
import Derived.Shelf.Unicode.ExclAny
import Derived.Shelf.Strings.FuncGrows
import Derived.Shelf.Slices.Turned
import Derived.Ground.Names2Prog
import Derived.Shelf.Slices.SearchI
import Derived.Test.YtpblcjipmoblnaaGreatDoorProg
set_option maxRecDepth 100000
set_option maxHeartbeats 4000000
set_option linter.unusedVariables false
set_option linter.unusedSimpArgs false
namespace Go.Proofs
open Go.Shelf
def Tryz.lays283_ren : Go.Shelf.Ren := ⟨fun | 283 => 174 | n => n, fun | 3 => 3 | 9 => 9 | 4 => 4 | n => n, fun | n => n⟩
theorem Tryz.lays283 : Go.Proofs.Lays.n283 Tryz.prog Tryz.lays283_ren := {
 mixed := by kernel_rfl
 f283 := Tryz.func174.trans (congrArg some (by kernel_rfl))
 t3 := Tryz.underlying3
 a3 := Tryz.isAgg3
 z3 := Tryz.sizeOf3
 v3 := Tryz.zeroValue3
 t4 := Tryz.underlying4
 a4 := Tryz.isAgg4
 z4 := Tryz.sizeOf4
 v4 := Tryz.zeroValue4
 t9 := Tryz.underlying9
 a9 := Tryz.isAgg9
 z9 := Tryz.sizeOf9
 v9 := Tryz.zeroValue9 }
open Go.Lib in
theorem Tryz.internal_strconv_small (i : Nat) (h : i < 100) (w : World) :
 Calls Tryz.prog 174 #[.int .i64 i] w fun e w' => e = .returned (.string ⟨(Lib.decDigits i).toArray⟩) ∧ w' = w := Any.internal_strconv_small Tryz.lays283 i h w
def Tryz.laysM284_ren : Go.Shelf.Ren := ⟨fun | 284 => 175 | 129 => 187 | 317 => 198 | 318 => 199 | n => n, fun | 53 => 39 | 3 => 3 | 212 => 323 | 0 => 0 | 4 => 4 | 46 => 209 | 5 => 5 | 9 => 9 | n => n, fun | 17 => 5 | n => n⟩
theorem Tryz.laysM284 : Go.Proofs.LaysM.n284 Tryz.prog Tryz.laysM284_ren := {
 mixed := by kernel_rfl
 f129 := Tryz.func187.trans (congrArg some (by kernel_rfl))
 f284 := Tryz.func175.trans (congrArg some (by kernel_rfl))
 f317 := Tryz.func198.trans (congrArg some (by kernel_rfl))
 f318 := Tryz.func199.trans (congrArg some (by kernel_rfl))
 t0 := Tryz.underlying0
 a0 := Tryz.isAgg0
 z0 := Tryz.sizeOf0
 v0 := Tryz.zeroValue0
 t3 := Tryz.underlying3
 a3 := Tryz.isAgg3
 z3 := Tryz.sizeOf3
 v3 := Tryz.zeroValue3
 t4 := Tryz.underlying4
 a4 := Tryz.isAgg4
 z4 := Tryz.sizeOf4
 v4 := Tryz.zeroValue4
 t5 := Tryz.underlying5
 a5 := Tryz.isAgg5
 z5 := Tryz.sizeOf5
 v5 := Tryz.zeroValue5
 t9 := Tryz.underlying9
 a9 := Tryz.isAgg9
 z9 := Tryz.sizeOf9
 v9 := Tryz.zeroValue9
 t46 := Tryz.underlying209
 a46 := Tryz.isAgg209
 z46 := Tryz.sizeOf209
 v46 := Tryz.zeroValue209
 t53 := Tryz.underlying39
 a53 := Tryz.isAgg39
 z53 := Tryz.sizeOf39
 v53 := Tryz.zeroValue39
 t212 := Tryz.underlying323
 a212 := Tryz.isAgg323
 z212 := Tryz.sizeOf323
 v212 := Tryz.zeroValue323
 g17 := by kernel_rfl
 i0 := by kernel_rfl
 i3 := by kernel_rfl
 i4 := by kernel_rfl
 i5 := by kernel_rfl
 i9 := by kernel_rfl
 i46 := by kernel_rfl
 i53 := by kernel_rfl
 i212 := by kernel_rfl
 m17 := by kernel_rfl }
open Go.Lib in
theorem Tryz.internal_strconv_numDigits (u : Nat) (h1 : 1 ≤ u) (h2 : u < 18446744073709551616) (w : World) (htab : Lib.TabIs Tryz.prog w "internal/strconv.uint64pow10" .u64 Lib.pow10Tab) :
 Calls Tryz.prog 175 #[.int .u64 u] w fun e w' => e = .returned (.int .i64 (Lib.nDigits u)) ∧ w' = w := Any.internal_strconv_numDigits Tryz.laysM284 u h1 h2 w htab
def Tryz.lays285_ren : Go.Shelf.Ren := ⟨fun | 285 => 176 | n => n, fun | 37 => 292 | 53 => 39 | 3 => 3 | 4 => 4 | 51 => 310 | 9 => 9 | 5 => 5 | 0 => 0 | n => n, fun | n => n⟩
theorem Tryz.lays285 : Go.Proofs.Lays.n285 Tryz.prog Tryz.lays285_ren := {
 mixed := by kernel_rfl
 f285 := Tryz.func176.trans (congrArg some (by kernel_rfl))
 t0 := Tryz.underlying0
 a0 := Tryz.isAgg0
 z0 := Tryz.sizeOf0
 v0 := Tryz.zeroValue0
 t3 := Tryz.underlying3
 a3 := Tryz.isAgg3
 z3 := Tryz.sizeOf3
 v3 := Tryz.zeroValue3
 t4 := Tryz.underlying4
 a4 := Tryz.isAgg4
 z4 := Tryz.sizeOf4
 v4 := Tryz.zeroValue4
 t5 := Tryz.underlying5
 a5 := Tryz.isAgg5
 z5 := Tryz.sizeOf5
 v5 := Tryz.zeroValue5
 t9 := Tryz.underlying9
 a9 := Tryz.isAgg9
 z9 := Tryz.sizeOf9
 v9 := Tryz.zeroValue9
 t37 := Tryz.underlying292
 a37 := Tryz.isAgg292
 z37 := Tryz.sizeOf292
 v37 := Tryz.zeroValue292
 t51 := Tryz.underlying310
 a51 := Tryz.isAgg310
 z51 := Tryz.sizeOf310
 v51 := Tryz.zeroValue310
 t53 := Tryz.underlying39
 a53 := Tryz.isAgg39
 z53 := Tryz.sizeOf39
 v53 := Tryz.zeroValue39 }
open Go.RowKit Go.Sort Go.Lib in
theorem Tryz.internal_strconv_formatBase10 (blk off cap : Nat) (u : Nat) (d : Array UInt8) (w : World) (hH : Holds (fun (b : UInt8) => Value.int .u8 (b.toNat : Int)) w blk off d) (hu : u < 10 ^ d.size) (hu64 : u < 18446744073709551616) (hsz : d.size < 4611686018427387904) :
 Calls Tryz.prog 176 #[.slice (some ⟨blk, off, none⟩) d.size cap, .int .u64 u] w fun e w' =>
  e = .returned (.tuple #[]) ∧ ∃ (n v' : Nat) (dk : Array UInt8), w' = (putRow (fun (b : UInt8) => Value.int .u8 (b.toNat : Int)) w blk off dk).drewN n ∧ FmtInv d.size u 0 v' dk := Any.internal_strconv_formatBase10 Tryz.lays285 blk off cap u d w hH hu hu64 hsz
def Tryz.laysPu14_ren : Go.Shelf.Ren := ⟨fun | 14 => 142 | 16 => 157 | 17 => 158 | 19 => 168 | 20 => 169 | 21 => 170 | 22 => 171 | 23 => 172 | 24 => 173 | 25 => 195 | 27 => 197 | 26 => 196 | 28 => 213 | 29 => 221 | 30 => 174 | 31 => 175 | 32 => 176 | 33 => 177 | 35 => 187 | 34 => 198 | 36 => 199 | 37 => 200 | 38 => 201 | 39 => 214 | 40 => 215 | n => n, fun | 9 => 9 | 3 => 3 | 22 => 39 | 24 => 111 | 25 => 258 | 4 => 4 | 34 => 291 | 5 => 5 | 36 => 209 | 37 => 292 | 0 => 0 | 39 => 293 | 21 => 21 | 44 => 319 | 47 => 336 | 50 => 339 | 48 => 337 | 2 => 2 | 52 => 297 | 55 => 299 | 59 => 323 | 60 => 310 | 20 => 20 | 61 => 324 | 65 => 360 | 66 => 361 | 67 => 364 | n => n, fun | 0 => 3 | 1 => 4 | 2 => 5 | 3 => 10 | 4 => 11 | n => n⟩
theorem Tryz.laysPu14 : Go.Proofs.LaysPu.n14 Tryz.prog Tryz.laysPu14_ren := {
 mixed := by kernel_rfl
 f14 := Tryz.func142.trans (congrArg some (by kernel_rfl))
 f16 := Tryz.func157.trans (congrArg some (by kernel_rfl))
 f17 := Tryz.func158.trans (congrArg some (by kernel_rfl))
 f19 := Tryz.func168.trans (congrArg some (by kernel_rfl))
 f20 := Tryz.func169.trans (congrArg some (by kernel_rfl))
 f21 := Tryz.func170.trans (congrArg some (by kernel_rfl))
 f22 := Tryz.func171.trans (congrArg some (by kernel_rfl))
 f23 := Tryz.func172.trans (congrArg some (by kernel_rfl))
 f24 := Tryz.func173.trans (congrArg some (by kernel_rfl))
 f25 := Tryz.func195.trans (congrArg some (by kernel_rfl))
 f26 := Tryz.func196.trans (congrArg some (by kernel_rfl))
 f27 := Tryz.func197.trans (congrArg some (by kernel_rfl))
 f28 := Tryz.func213.trans (congrArg some (by kernel_rfl))
 f29 := Tryz.func221.trans (congrArg some (by kernel_rfl))
 f30 := Tryz.func174.trans (congrArg some (by kernel_rfl))
 f31 := Tryz.func175.trans (congrArg some (by kernel_rfl))
 f32 := Tryz.func176.trans (congrArg some (by kernel_rfl))
 f33 := Tryz.func177.trans (congrArg some (by kernel_rfl))
 f34 := Tryz.func198.trans (congrArg some (by kernel_rfl))
 f35 := Tryz.func187.trans (congrArg some (by kernel_rfl))
 f36 := Tryz.func199.trans (congrArg some (by kernel_rfl))
 f37 := Tryz.func200.trans (congrArg some (by kernel_rfl))
 f38 := Tryz.func201.trans (congrArg some (by kernel_rfl))
 f39 := Tryz.func214.trans (congrArg some (by kernel_rfl))
 f40 := Tryz.func215.trans (congrArg some (by kernel_rfl))
 t0 := Tryz.underlying0
 a0 := Tryz.isAgg0
 z0 := Tryz.sizeOf0
 v0 := Tryz.zeroValue0
 i0 := by kernel_rfl
 t2 := Tryz.underlying2
 a2 := Tryz.isAgg2
 z2 := Tryz.sizeOf2
 v2 := Tryz.zeroValue2
 i2 := by kernel_rfl
 t3 := Tryz.underlying3
 a3 := Tryz.isAgg3
 z3 := Tryz.sizeOf3
 v3 := Tryz.zeroValue3
 i3 := by kernel_rfl
 t4 := Tryz.underlying4
 a4 := Tryz.isAgg4
 z4 := Tryz.sizeOf4
 v4 := Tryz.zeroValue4
 i4 := by kernel_rfl
 t5 := Tryz.underlying5
 a5 := Tryz.isAgg5
 z5 := Tryz.sizeOf5
 v5 := Tryz.zeroValue5
 i5 := by kernel_rfl
 t9 := Tryz.underlying9
 a9 := Tryz.isAgg9
 z9 := Tryz.sizeOf9
 v9 := Tryz.zeroValue9
 i9 := by kernel_rfl
 t20 := Tryz.underlying20
 a20 := Tryz.isAgg20
 z20 := Tryz.sizeOf20
 v20 := Tryz.zeroValue20
 i20 := by kernel_rfl
 t21 := Tryz.underlying21
 a21 := Tryz.isAgg21
 z21 := Tryz.sizeOf21
 v21 := Tryz.zeroValue21
 i21 := by kernel_rfl
 t22 := Tryz.underlying39
 a22 := Tryz.isAgg39
 z22 := Tryz.sizeOf39
 v22 := Tryz.zeroValue39
 i22 := by kernel_rfl
 t24 := Tryz.underlying111
 a24 := Tryz.isAgg111
 z24 := Tryz.sizeOf111
 v24 := Tryz.zeroValue111
 i24 := by kernel_rfl
 t25 := Tryz.underlying258
 a25 := Tryz.isAgg258
 z25 := Tryz.sizeOf258
 v25 := Tryz.zeroValue258
 i25 := by kernel_rfl
 t34 := Tryz.underlying291
 a34 := Tryz.isAgg291
 z34 := Tryz.sizeOf291
 v34 := Tryz.zeroValue291
 i34 := by kernel_rfl
 c34 := by kernel_rfl
 t36 := Tryz.underlying209
 a36 := Tryz.isAgg209
 z36 := Tryz.sizeOf209
 v36 := Tryz.zeroValue209
 i36 := by kernel_rfl
 t37 := Tryz.underlying292
 a37 := Tryz.isAgg292
 z37 := Tryz.sizeOf292
 v37 := Tryz.zeroValue292
 i37 := by kernel_rfl
 t39 := Tryz.underlying293
 a39 := Tryz.isAgg293
 z39 := Tryz.sizeOf293
 v39 := Tryz.zeroValue293
 i39 := by kernel_rfl
 t44 := Tryz.underlying319
 a44 := Tryz.isAgg319
 z44 := Tryz.sizeOf319
 v44 := Tryz.zeroValue319
 i44 := by kernel_rfl
 t47 := Tryz.underlying336
 a47 := Tryz.isAgg336
 z47 := Tryz.sizeOf336
 v47 := Tryz.zeroValue336
 i47 := by kernel_rfl
 t48 := Tryz.underlying337
 a48 := Tryz.isAgg337
 z48 := Tryz.sizeOf337
 v48 := Tryz.zeroValue337
 i48 := by kernel_rfl
 t50 := Tryz.underlying339
 a50 := Tryz.isAgg339
 z50 := Tryz.sizeOf339
 v50 := Tryz.zeroValue339
 i50 := by kernel_rfl
 t52 := Tryz.underlying297
 a52 := Tryz.isAgg297
 z52 := Tryz.sizeOf297
 v52 := Tryz.zeroValue297
 i52 := by kernel_rfl
 t55 := Tryz.underlying299
 a55 := Tryz.isAgg299
 z55 := Tryz.sizeOf299
 v55 := Tryz.zeroValue299
 i55 := by kernel_rfl
 t59 := Tryz.underlying323
 a59 := Tryz.isAgg323
 z59 := Tryz.sizeOf323
 v59 := Tryz.zeroValue323
 i59 := by kernel_rfl
 t60 := Tryz.underlying310
 a60 := Tryz.isAgg310
 z60 := Tryz.sizeOf310
 v60 := Tryz.zeroValue310
 i60 := by kernel_rfl
 t61 := Tryz.underlying324
 a61 := Tryz.isAgg324
 z61 := Tryz.sizeOf324
 t65 := Tryz.underlying360
 a65 := Tryz.isAgg360
 z65 := Tryz.sizeOf360
 v65 := Tryz.zeroValue360
 i65 := by kernel_rfl
 t66 := Tryz.underlying361
 a66 := Tryz.isAgg361
 z66 := Tryz.sizeOf361
 v66 := Tryz.zeroValue361
 i66 := by kernel_rfl
 t67 := Tryz.underlying364
 a67 := Tryz.isAgg364
 z67 := Tryz.sizeOf364
 v67 := Tryz.zeroValue364
 i67 := by kernel_rfl
 g0 := by kernel_rfl
 m0 := by kernel_rfl
 g1 := by kernel_rfl
 m1 := by kernel_rfl
 g2 := by kernel_rfl
 m2 := by kernel_rfl
 g3 := by kernel_rfl
 m3 := by kernel_rfl
 g4 := by kernel_rfl
 m4 := by kernel_rfl }
open Go.RowKit in
theorem Tryz.strconv_ParseUint_10_at64_ok (s : ByteArray) (hmax : s.size ≤ 9223372036854775806) (u : Nat) (h : Lib.parseUintB 64 s.data.toList = .ok u) (w : World) :
 Calls Tryz.prog 142 #[.string s, .int .i64 10, .int .i64 64] w fun e w' => e = .returned (.tuple #[.int .u64 u, .nilIface]) ∧ (w' = w ∨ w' = Lib.bytesWorld w 5 s) := Any.strconv_ParseUint_10_at64_ok Tryz.laysPu14 s hmax u h w
open Go.RowKit in
theorem Tryz.strconv_ParseUint_10_at64_range (s : ByteArray) (hlim : s.size ≤ 281474976710656) (h : Lib.parseUintB 64 s.data.toList = .range) (ev : Value) (w : World) (hv : w.cell? ⟨4, 0, none⟩ = some ev) (hev : ev = .nilIface ∨ ∃ te pe, ev = .iface te pe) :
 Calls Tryz.prog 142 #[.string s, .int .i64 10, .int .i64 64] w fun e w' => ∃ N, e = .returned (.tuple #[.int .u64 18446744073709551615, .iface 293 (.pointer (some ⟨N, 0, none⟩))]) ∧ w.heap.size ≤ N ∧ w'.heap[N]? = some (.cells #[.string ⟨#[80, 97, 114, 115, 101, 85, 105, 110, 116]⟩, .string s, ev] 319 (0, 0)) ∧ Below w.heap.size w w' := Any.strconv_ParseUint_10_at64_range Tryz.laysPu14 s hlim h ev w hv hev
def Tryz.laysGw17_ren : Go.Shelf.Ren := ⟨fun | 17 => 154 | 15 => 167 | 20 => 194 | n => n, fun | 9 => 9 | 23 => 277 | 4 => 4 | 3 => 3 | 0 => 0 | 21 => 21 | n => n, fun | n => n⟩
theorem Tryz.laysGw17 : Go.Proofs.LaysGw.n17 Tryz.prog Tryz.laysGw17_ren := {
 mixed := by kernel_rfl
 f15 := Tryz.func167.trans (congrArg some (by kernel_rfl))
 f17 := Tryz.func154.trans (congrArg some (by kernel_rfl))
 f20 := Tryz.func194.trans (congrArg some (by kernel_rfl))
 t0 := Tryz.underlying0
 a0 := Tryz.isAgg0
 z0 := Tryz.sizeOf0
 v0 := Tryz.zeroValue0
 i0 := by kernel_rfl
 t3 := Tryz.underlying3
 a3 := Tryz.isAgg3
 z3 := Tryz.sizeOf3
 v3 := Tryz.zeroValue3
 i3 := by kernel_rfl
 t4 := Tryz.underlying4
 a4 := Tryz.isAgg4
 z4 := Tryz.sizeOf4
 v4 := Tryz.zeroValue4
 i4 := by kernel_rfl
 t9 := Tryz.underlying9
 a9 := Tryz.isAgg9
 z9 := Tryz.sizeOf9
 v9 := Tryz.zeroValue9
 i9 := by kernel_rfl
 t21 := Tryz.underlying21
 a21 := Tryz.isAgg21
 z21 := Tryz.sizeOf21
 v21 := Tryz.zeroValue21
 i21 := by kernel_rfl
 t23 := Tryz.underlying277
 a23 := Tryz.isAgg277
 z23 := Tryz.sizeOf277
 v23 := Tryz.zeroValue277
 i23 := by kernel_rfl }
open Go.RowKit Go.Lib in
theorem Tryz.strings_ContainsFunc_runes (g : Nat) (lb : Array Value) (eg : ∀ args w, (callFunc g args).run Tryz.prog w = .ok (.enter g args) w) (p : Nat → Bool) (s : ByteArray) (w : World) (hp : PredAtRunes Tryz.prog g lb p w) :
 Calls Tryz.prog 154 #[.string s, .func (.func g) #[] lb] w fun e w' => e = .returned (.bool (decide (0 ≤ Lib.idxFunc p true s))) ∧ Below w.heap.size w w' := Any.strings_ContainsFunc_runes Tryz.laysGw17 g lb eg p s w hp
def Tryz.lays146_ren : Go.Shelf.Ren := ⟨fun | 146 => 140 | 221 => 151 | 268 => 162 | 138 => 163 | 143 => 164 | 195 => 188 | 197 => 189 | 218 => 190 | 219 => 191 | 260 => 207 | 217 => 208 | 225 => 209 | 224 => 210 | 267 => 211 | 266 => 217 | 314 => 218 | n => n, fun | 9 => 9 | 31 => 124 | 3 => 3 | 4 => 4 | 0 => 0 | 105 => 311 | 21 => 21 | 5 => 5 | 46 => 209 | 119 => 314 | 139 => 345 | 138 => 344 | 146 => 346 | 51 => 310 | n => n, fun | 1 => 6 | 3 => 8 | 4 => 9 | n => n⟩
theorem Tryz.lays146 : Go.Proofs.Lays.n146 Tryz.prog Tryz.lays146_ren := {
 mixed := by kernel_rfl
 f138 := Tryz.func163.trans (congrArg some (by kernel_rfl))
 f143 := Tryz.func164.trans (congrArg some (by kernel_rfl))
 f146 := Tryz.func140.trans (congrArg some (by kernel_rfl))
 f195 := Tryz.func188.trans (congrArg some (by kernel_rfl))
 f197 := Tryz.func189.trans (congrArg some (by kernel_rfl))
 f217 := Tryz.func208.trans (congrArg some (by kernel_rfl))
 f218 := Tryz.func190.trans (congrArg some (by kernel_rfl))
 f219 := Tryz.func191.trans (congrArg some (by kernel_rfl))
 f221 := Tryz.func151.trans (congrArg some (by kernel_rfl))
 f224 := Tryz.func210.trans (congrArg some (by kernel_rfl))
 f225 := Tryz.func209.trans (congrArg some (by kernel_rfl))
 f260 := Tryz.func207.trans (congrArg some (by kernel_rfl))
 f266 := Tryz.func217.trans (congrArg some (by kernel_rfl))
 f267 := Tryz.func211.trans (congrArg some (by kernel_rfl))
 f268 := Tryz.func162.trans (congrArg some (by kernel_rfl))
 f314 := Tryz.func218.trans (congrArg some (by kernel_rfl))
 t0 := Tryz.underlying0
 a0 := Tryz.isAgg0
 z0 := Tryz.sizeOf0
 v0 := Tryz.zeroValue0
 t3 := Tryz.underlying3
 a3 := Tryz.isAgg3
 z3 := Tryz.sizeOf3
 v3 := Tryz.zeroValue3
 t4 := Tryz.underlying4
 a4 := Tryz.isAgg4
 z4 := Tryz.sizeOf4
 v4 := Tryz.zeroValue4
 t5 := Tryz.underlying5
 a5 := Tryz.isAgg5
 z5 := Tryz.sizeOf5
 v5 := Tryz.zeroValue5
 t9 := Tryz.underlying9
 a9 := Tryz.isAgg9
 z9 := Tryz.sizeOf9
 v9 := Tryz.zeroValue9
 t21 := Tryz.underlying21
 a21 := Tryz.isAgg21
 z21 := Tryz.sizeOf21
 v21 := Tryz.zeroValue21
 t31 := Tryz.underlying124
 a31 := Tryz.isAgg124
 z31 := Tryz.sizeOf124
 v31 := Tryz.zeroValue124
 t46 := Tryz.underlying209
 a46 := Tryz.isAgg209
 z46 := Tryz.sizeOf209
 v46 := Tryz.zeroValue209
 t51 := Tryz.underlying310
 a51 := Tryz.isAgg310
 z51 := Tryz.sizeOf310
 v51 := Tryz.zeroValue310
 t105 := Tryz.underlying311
 a105 := Tryz.isAgg311
 z105 := Tryz.sizeOf311
 v105 := Tryz.zeroValue311
 t119 := Tryz.underlying314
 a119 := Tryz.isAgg314
 z119 := Tryz.sizeOf314
 t138 := Tryz.underlying344
 a138 := Tryz.isAgg344
 z138 := Tryz.sizeOf344
 v138 := Tryz.zeroValue344
 t139 := Tryz.underlying345
 a139 := Tryz.isAgg345
 z139 := Tryz.sizeOf345
 v139 := Tryz.zeroValue345
 t146 := Tryz.underlying346
 a146 := Tryz.isAgg346
 z146 := Tryz.sizeOf346
 v146 := Tryz.zeroValue346
 g1 := by kernel_rfl
 g3 := by kernel_rfl
 g4 := by kernel_rfl }
open Go.RowKit Go.Lib in
theorem Tryz.strings_Split (s sep : ByteArray) (m : Int) (w : World) (hs : s.size < 4294967281) (hm : w.cell? ⟨6, 0, none⟩ = some (.int .i64 m)) (h1 : 1 ≤ sep.size) :
 Calls Tryz.prog 140 #[.string s, .string sep] w fun e w' =>
  e = .returned (.slice (some ⟨w.heap.size, 0, none⟩) (Lib.countB s sep + 1) (Lib.countB s sep + 1)) ∧ w' = w.alloc (.cells ((Lib.splitB sep 0 (Lib.countB s sep) s).map Value.string).toArray 9) := Any.strings_Split Tryz.lays146 (by kernel_rfl) s sep m w hs hm h1
def Tryz.lays157_ren : Go.Shelf.Ren := ⟨fun | 157 => 166 | 229 => 192 | 199 => 193 | 261 => 212 | 311 => 219 | 312 => 220 | n => n, fun | 9 => 9 | 31 => 124 | 3 => 3 | 5 => 5 | 4 => 4 | 119 => 314 | 0 => 0 | 40 => 277 | 152 => 331 | 21 => 21 | 154 => 333 | 51 => 310 | 141 => 335 | 196 => 351 | 193 => 348 | 198 => 354 | 49 => 352 | 194 => 349 | 201 => 357 | 226 => 362 | 46 => 209 | 227 => 363 | n => n, fun | 0 => 2 | 6 => 7 | n => n⟩
theorem Tryz.lays157 : Go.Proofs.Lays.n157 Tryz.prog Tryz.lays157_ren := {
 mixed := by kernel_rfl
 f157 := Tryz.func166.trans (congrArg some (by kernel_rfl))
 f199 := Tryz.func193.trans (congrArg some (by kernel_rfl))
 f229 := Tryz.func192.trans (congrArg some (by kernel_rfl))
 f261 := Tryz.func212.trans (congrArg some (by kernel_rfl))
 f311 := Tryz.func219.trans (congrArg some (by kernel_rfl))
 f312 := Tryz.func220.trans (congrArg some (by kernel_rfl))
 t0 := Tryz.underlying0
 a0 := Tryz.isAgg0
 z0 := Tryz.sizeOf0
 v0 := Tryz.zeroValue0
 t3 := Tryz.underlying3
 a3 := Tryz.isAgg3
 z3 := Tryz.sizeOf3
 v3 := Tryz.zeroValue3
 t4 := Tryz.underlying4
 a4 := Tryz.isAgg4
 z4 := Tryz.sizeOf4
 v4 := Tryz.zeroValue4
 t5 := Tryz.underlying5
 a5 := Tryz.isAgg5
 z5 := Tryz.sizeOf5
 v5 := Tryz.zeroValue5
 t9 := Tryz.underlying9
 a9 := Tryz.isAgg9
 z9 := Tryz.sizeOf9
 v9 := Tryz.zeroValue9
 t21 := Tryz.underlying21
 a21 := Tryz.isAgg21
 z21 := Tryz.sizeOf21
 v21 := Tryz.zeroValue21
 t31 := Tryz.underlying124
 a31 := Tryz.isAgg124
 z31 := Tryz.sizeOf124
 v31 := Tryz.zeroValue124
 t40 := Tryz.underlying277
 a40 := Tryz.isAgg277
 z40 := Tryz.sizeOf277
 v40 := Tryz.zeroValue277
 t46 := Tryz.underlying209
 a46 := Tryz.isAgg209
 z46 := Tryz.sizeOf209
 v46 := Tryz.zeroValue209
 t49 := Tryz.underlying352
 a49 := Tryz.isAgg352
 z49 := Tryz.sizeOf352
 v49 := Tryz.zeroValue352
 t51 := Tryz.underlying310
 a51 := Tryz.isAgg310
 z51 := Tryz.sizeOf310
 v51 := Tryz.zeroValue310
 t119 := Tryz.underlying314
 a119 := Tryz.isAgg314
 z119 := Tryz.sizeOf314
 t141 := Tryz.underlying335
 a141 := Tryz.isAgg335
 z141 := Tryz.sizeOf335
 v141 := Tryz.zeroValue335
 t152 := Tryz.underlying331
 a152 := Tryz.isAgg331
 z152 := Tryz.sizeOf331
 v152 := Tryz.zeroValue331
 t154 := Tryz.underlying333
 a154 := Tryz.isAgg333
 z154 := Tryz.sizeOf333
 v154 := Tryz.zeroValue333
 t193 := Tryz.underlying348
 a193 := Tryz.isAgg348
 z193 := Tryz.sizeOf348
 v193 := Tryz.zeroValue348
 t194 := Tryz.underlying349
 a194 := Tryz.isAgg349
 z194 := Tryz.sizeOf349
 v194 := Tryz.zeroValue349
 t196 := Tryz.underlying351
 a196 := Tryz.isAgg351
 z196 := Tryz.sizeOf351
 v196 := Tryz.zeroValue351
 t198 := Tryz.underlying354
 a198 := Tryz.isAgg354
 z198 := Tryz.sizeOf354
 v198 := Tryz.zeroValue354
 t201 := Tryz.underlying357
 a201 := Tryz.isAgg357
 z201 := Tryz.sizeOf357
 v201 := Tryz.zeroValue357
 t226 := Tryz.underlying362
 a226 := Tryz.isAgg362
 z226 := Tryz.sizeOf362
 v226 := Tryz.zeroValue362
 t227 := Tryz.underlying363
 a227 := Tryz.isAgg363
 z227 := Tryz.sizeOf363
 v227 := Tryz.zeroValue363
 g0 := by kernel_rfl
 g6 := by kernel_rfl }
def Tryz.lays199_ren : Go.Shelf.Ren := ⟨fun | 199 => 193 | 261 => 212 | 311 => 219 | 312 => 220 | n => n, fun | 21 => 21 | 4 => 4 | 51 => 310 | 141 => 335 | 0 => 0 | 196 => 351 | 193 => 348 | 3 => 3 | 198 => 354 | 49 => 352 | 194 => 349 | 201 => 357 | 226 => 362 | 46 => 209 | 227 => 363 | n => n, fun | 6 => 7 | n => n⟩
theorem Tryz.lays199 : Go.Proofs.Lays.n199 Tryz.prog Tryz.lays199_ren := {
 mixed := by kernel_rfl
 f199 := Tryz.func193.trans (congrArg some (by kernel_rfl))
 f261 := Tryz.func212.trans (congrArg some (by kernel_rfl))
 f311 := Tryz.func219.trans (congrArg some (by kernel_rfl))
 f312 := Tryz.func220.trans (congrArg some (by kernel_rfl))
 t0 := Tryz.underlying0
 a0 := Tryz.isAgg0
 z0 := Tryz.sizeOf0
 v0 := Tryz.zeroValue0
 t3 := Tryz.underlying3
 a3 := Tryz.isAgg3
 z3 := Tryz.sizeOf3
 v3 := Tryz.zeroValue3
 t4 := Tryz.underlying4
 a4 := Tryz.isAgg4
 z4 := Tryz.sizeOf4
 v4 := Tryz.zeroValue4
 t21 := Tryz.underlying21
 a21 := Tryz.isAgg21
 z21 := Tryz.sizeOf21
 v21 := Tryz.zeroValue21
 t46 := Tryz.underlying209
 a46 := Tryz.isAgg209
 z46 := Tryz.sizeOf209
 v46 := Tryz.zeroValue209
 t49 := Tryz.underlying352
 a49 := Tryz.isAgg352
 z49 := Tryz.sizeOf352
 v49 := Tryz.zeroValue352
 t51 := Tryz.underlying310
 a51 := Tryz.isAgg310
 z51 := Tryz.sizeOf310
 v51 := Tryz.zeroValue310
 t141 := Tryz.underlying335
 a141 := Tryz.isAgg335
 z141 := Tryz.sizeOf335
 v141 := Tryz.zeroValue335
 t193 := Tryz.underlying348
 a193 := Tryz.isAgg348
 z193 := Tryz.sizeOf348
 v193 := Tryz.zeroValue348
 t194 := Tryz.underlying349
 a194 := Tryz.isAgg349
 z194 := Tryz.sizeOf349
 v194 := Tryz.zeroValue349
 t196 := Tryz.underlying351
 a196 := Tryz.isAgg351
 z196 := Tryz.sizeOf351
 v196 := Tryz.zeroValue351
 t198 := Tryz.underlying354
 a198 := Tryz.isAgg354
 z198 := Tryz.sizeOf354
 v198 := Tryz.zeroValue354
 t201 := Tryz.underlying357
 a201 := Tryz.isAgg357
 z201 := Tryz.sizeOf357
 v201 := Tryz.zeroValue357
 t226 := Tryz.underlying362
 a226 := Tryz.isAgg362
 z226 := Tryz.sizeOf362
 v226 := Tryz.zeroValue362
 t227 := Tryz.underlying363
 a227 := Tryz.isAgg363
 z227 := Tryz.sizeOf363
 v227 := Tryz.zeroValue363
 g6 := by kernel_rfl }
open Go.RowKit Go.Lib in
theorem Tryz.strings_Fields_any (s : ByteArray) (w : World) (hs : s.size < 4294967281) (htab : Lib.TabIs Tryz.prog w "strings.asciiSpace" .u8 Lib.asciiSpaceTab) (hW : Lib.WhiteTab 7 w) :
 Calls Tryz.prog 166 #[.string s] w fun e w' => ∃ A, e = .returned (.slice (some ⟨A, 0, none⟩) (Lib.fieldsD s.data.toList).length (Lib.fieldsD s.data.toList).length) ∧ w.heap.size ≤ A ∧
  w'.ownsRow w.heap.size 9 1 (.slice (some ⟨A, 0, none⟩) (Lib.fieldsD s.data.toList).length (Lib.fieldsD s.data.toList).length) (Lib.fieldsD s.data.toList).length ((Lib.fieldsD s.data.toList).map fun x => Value.string ⟨x.toArray⟩) ∧ Below w.heap.size w w' := Any.strings_Fields_any Tryz.lays157 (by kernel_rfl) (by kernel_rfl) (by kernel_rfl) s w hs htab hW
def Tryz.lays109_ren : Go.Shelf.Ren := ⟨fun | 109 => 165 | n => n, fun | 31 => 124 | 9 => 9 | 3 => 3 | 0 => 0 | 4 => 4 | n => n, fun | n => n⟩
theorem Tryz.lays109 : Go.Proofs.Lays.n109 Tryz.prog Tryz.lays109_ren := {
 mixed := by kernel_rfl
 f109 := Tryz.func165.trans (congrArg some (by kernel_rfl))
 t0 := Tryz.underlying0
 a0 := Tryz.isAgg0
 z0 := Tryz.sizeOf0
 v0 := Tryz.zeroValue0
 t3 := Tryz.underlying3
 a3 := Tryz.isAgg3
 z3 := Tryz.sizeOf3
 v3 := Tryz.zeroValue3
 t4 := Tryz.underlying4
 a4 := Tryz.isAgg4
 z4 := Tryz.sizeOf4
 v4 := Tryz.zeroValue4
 t9 := Tryz.underlying9
 a9 := Tryz.isAgg9
 z9 := Tryz.sizeOf9
 v9 := Tryz.zeroValue9
 t31 := Tryz.underlying124
 a31 := Tryz.isAgg124
 z31 := Tryz.sizeOf124
 v31 := Tryz.zeroValue124 }
open Go.Lib in
theorem Tryz.slices_Index_string (b off n c : Nat) (zs : List ByteArray) (x : ByteArray) (w : World) (hz : n ≤ zs.length) (hbig : n ≤ 9223372036854775807) (hc : ∀ j, j < zs.length → w.cell? ⟨b, off + j, none⟩ = some (.string (zs.getD j ByteArray.empty))) :
 Calls Tryz.prog 165 #[.slice (some ⟨b, off, none⟩) n c, .string x] w fun e w' => e = .returned (.int .i64 (Lib.idxOfS (zs.take n) x)) ∧ w' = w := Any.slices_Index_string Tryz.lays109 b off n c zs x w hz hbig hc
end Go.Proofs
