/- Texts joined by a program of mine (pack.py): Shelf. -/
import Derived.Shelf.Strings.Trim
import Derived.Shelf.Small.Utf8
import Derived.Shelf.Small.Strs
import Derived.Shelf.Small.Wraps
import Derived.Shelf.Strconv.Itoa0
import Derived.Shelf.Strconv.Itoa1
import Derived.Shelf.LaysM
import Derived.Shelf.Strconv.Itoa2
import Derived.Shelf.Strconv.Itoa3
import Derived.Shelf.Strings.Search1
import Derived.Shelf.Strings.Search2
import Derived.Shelf.Strings.Search3
import Derived.Shelf.Strings.Shaped
import Derived.Shelf.Strings.LastIndex
import Derived.Shelf.Strings.LastIndexAll
import Derived.Shelf.Strings.Prefix
import Derived.Shelf.Strings.Runes
import Derived.Shelf.Strings.AsciiSet
import Derived.Shelf.Bits.Mul64
import Derived.Shelf.Unicode.DecodeSlow
import Derived.Test.YtdbekeidlppfiaaGreatDoorProg
set_option linter.unusedVariables false
set_option linter.unusedSimpArgs false
namespace Go.Proofs
open Go.Shelf
def Tryz.lays162_ren : Go.Shelf.Ren := ⟨fun | 162 => 124 | 232 => 182 | 227 => 183 | 234 => 184 | 236 => 185 | 228 => 246 | 271 => 247 | 151 => 248 | 120 => 277 | 197 => 244 | 152 => 278 | 260 => 275 | 137 => 70 | 119 => 292 | 224 => 290 | 225 => 289 | 217 => 119 | 266 => 180 | n => n, fun | 9 => 9 | 4 => 4 | 3 => 3 | 5 => 5 | 117 => 278 | 116 => 277 | 0 => 0 | 124 => 281 | 21 => 21 | 105 => 347 | 46 => 164 | 119 => 387 | 139 => 390 | 138 => 389 | n => n, fun | 3 => 6 | 4 => 7 | n => n⟩
theorem Tryz.lays162 : Go.Proofs.Lays.n162 Tryz.prog Tryz.lays162_ren := {
 mixed := by kernel_rfl
 f119 := Tryz.func292.trans (congrArg some (by kernel_rfl))
 f120 := Tryz.func277.trans (congrArg some (by kernel_rfl))
 f137 := Tryz.func70.trans (congrArg some (by kernel_rfl))
 f151 := Tryz.func248.trans (congrArg some (by kernel_rfl))
 f152 := Tryz.func278.trans (congrArg some (by kernel_rfl))
 f162 := Tryz.func124.trans (congrArg some (by kernel_rfl))
 f197 := Tryz.func244.trans (congrArg some (by kernel_rfl))
 f217 := Tryz.func119.trans (congrArg some (by kernel_rfl))
 f224 := Tryz.func290.trans (congrArg some (by kernel_rfl))
 f225 := Tryz.func289.trans (congrArg some (by kernel_rfl))
 f227 := Tryz.func183.trans (congrArg some (by kernel_rfl))
 f228 := Tryz.func246.trans (congrArg some (by kernel_rfl))
 f232 := Tryz.func182.trans (congrArg some (by kernel_rfl))
 f234 := Tryz.func184.trans (congrArg some (by kernel_rfl))
 f236 := Tryz.func185.trans (congrArg some (by kernel_rfl))
 f260 := Tryz.func275.trans (congrArg some (by kernel_rfl))
 f266 := Tryz.func180.trans (congrArg some (by kernel_rfl))
 f271 := Tryz.func247.trans (congrArg some (by kernel_rfl))
 t0 := Tryz.underlying0
 a0 := Tryz.isAgg0
 z0 := Tryz.sizeOf0
 v0 := Tryz.zeroValue0
 t3 := Tryz.underlying3
 a3 := Tryz.isAgg3
 z3 := Tryz.sizeOf3
 v3 := Tryz.zeroValue3
 t4 := Tryz.underlying4
 a4 := Tryz.isAgg4
 z4 := Tryz.sizeOf4
 v4 := Tryz.zeroValue4
 t5 := Tryz.underlying5
 a5 := Tryz.isAgg5
 z5 := Tryz.sizeOf5
 v5 := Tryz.zeroValue5
 t9 := Tryz.underlying9
 a9 := Tryz.isAgg9
 z9 := Tryz.sizeOf9
 v9 := Tryz.zeroValue9
 t21 := Tryz.underlying21
 a21 := Tryz.isAgg21
 z21 := Tryz.sizeOf21
 v21 := Tryz.zeroValue21
 t46 := Tryz.underlying164
 a46 := Tryz.isAgg164
 z46 := Tryz.sizeOf164
 v46 := Tryz.zeroValue164
 t105 := Tryz.underlying347
 a105 := Tryz.isAgg347
 z105 := Tryz.sizeOf347
 v105 := Tryz.zeroValue347
 t116 := Tryz.underlying277
 a116 := Tryz.isAgg277
 z116 := Tryz.sizeOf277
 t117 := Tryz.underlying278
 a117 := Tryz.isAgg278
 z117 := Tryz.sizeOf278
 v117 := Tryz.zeroValue278
 t119 := Tryz.underlying387
 a119 := Tryz.isAgg387
 z119 := Tryz.sizeOf387
 t124 := Tryz.underlying281
 a124 := Tryz.isAgg281
 z124 := Tryz.sizeOf281
 v124 := Tryz.zeroValue281
 t138 := Tryz.underlying389
 a138 := Tryz.isAgg389
 z138 := Tryz.sizeOf389
 v138 := Tryz.zeroValue389
 t139 := Tryz.underlying390
 a139 := Tryz.isAgg390
 z139 := Tryz.sizeOf390
 v139 := Tryz.zeroValue390
 g3 := by kernel_rfl
 g4 := by kernel_rfl }
open Go.RowKit in
theorem Tryz.strings_TrimRight_one (s : ByteArray) (c : UInt8) (hc : c.toNat < 128) (w : World) (hs : s.size ≤ 9223372036854775807) :
  Calls Tryz.prog 124 #[.string s, .string ⟨#[c]⟩] w fun e w' => e = .returned (.string ⟨(Lib.trimRightB s.data.toList c).toArray⟩) ∧ w' = w := Any.strings_TrimRight_one Tryz.lays162 s c hc w hs
def Tryz.lays106_ren : Go.Shelf.Ren := ⟨fun | 106 => 297 | 213 => 301 | 265 => 306 | n => n, fun | 9 => 9 | 3 => 3 | n => n, fun | n => n⟩
theorem Tryz.lays106 : Go.Proofs.Lays.n106 Tryz.prog Tryz.lays106_ren := {
 mixed := by kernel_rfl
 f106 := Tryz.func297.trans (congrArg some (by kernel_rfl))
 f213 := Tryz.func301.trans (congrArg some (by kernel_rfl))
 f265 := Tryz.func306.trans (congrArg some (by kernel_rfl))
 t3 := Tryz.underlying3
 a3 := Tryz.isAgg3
 z3 := Tryz.sizeOf3
 v3 := Tryz.zeroValue3
 t9 := Tryz.underlying9
 a9 := Tryz.isAgg9
 z9 := Tryz.sizeOf9
 v9 := Tryz.zeroValue9 }
open Go.RowKit in
theorem Tryz.strings_Compare (a b : ByteArray) (w : World) :
  Calls Tryz.prog 297 #[.string a, .string b] w fun e w' => e = .returned (.int .i64 (Lib.compareBytes a.data.toList b.data.toList)) ∧ w' = w := Any.strings_Compare Tryz.lays106 a b w
def Tryz.lays137_ren : Go.Shelf.Ren := ⟨fun | 137 => 70 | 217 => 119 | 266 => 180 | n => n, fun | 9 => 9 | 5 => 5 | 3 => 3 | n => n, fun | n => n⟩
theorem Tryz.lays137 : Go.Proofs.Lays.n137 Tryz.prog Tryz.lays137_ren := {
 mixed := by kernel_rfl
 f137 := Tryz.func70.trans (congrArg some (by kernel_rfl))
 f217 := Tryz.func119.trans (congrArg some (by kernel_rfl))
 f266 := Tryz.func180.trans (congrArg some (by kernel_rfl))
 t3 := Tryz.underlying3
 a3 := Tryz.isAgg3
 z3 := Tryz.sizeOf3
 v3 := Tryz.zeroValue3
 t5 := Tryz.underlying5
 a5 := Tryz.isAgg5
 z5 := Tryz.sizeOf5
 v5 := Tryz.zeroValue5
 t9 := Tryz.underlying9
 a9 := Tryz.isAgg9
 z9 := Tryz.sizeOf9
 v9 := Tryz.zeroValue9 }
open Go.RowKit in
theorem Tryz.strings_IndexByte (s : ByteArray) (c : Int) (w : World) :
  Calls Tryz.prog 70 #[.string s, .int .u8 c] w fun e w' => e = .returned (.int .i64 (Lib.indexByte s.data.toList c.toNat.toUInt8)) ∧ w' = w := Any.strings_IndexByte Tryz.lays137 s c w
def Tryz.laysM171_ren : Go.Shelf.Ren := ⟨fun | 171 => 69 | 243 => 118 | 246 => 179 | 283 => 239 | 284 => 240 | 285 => 241 | 286 => 242 | 129 => 271 | 317 => 270 | 318 => 272 | 319 => 273 | 320 => 274 | 337 => 287 | 338 => 288 | n => n, fun | 3 => 3 | 9 => 9 | 2 => 2 | 4 => 4 | 171 => 342 | 0 => 0 | 53 => 202 | 37 => 304 | 5 => 5 | 173 => 345 | 212 => 373 | 51 => 282 | 20 => 20 | 213 => 374 | 46 => 164 | 232 => 395 | 233 => 396 | n => n, fun | 17 => 5 | 18 => 8 | 19 => 9 | n => n⟩
theorem Tryz.laysM171 : Go.Proofs.LaysM.n171 Tryz.prog Tryz.laysM171_ren := {
 mixed := by kernel_rfl
 f129 := Tryz.func271.trans (congrArg some (by kernel_rfl))
 f171 := Tryz.func69.trans (congrArg some (by kernel_rfl))
 f243 := Tryz.func118.trans (congrArg some (by kernel_rfl))
 f246 := Tryz.func179.trans (congrArg some (by kernel_rfl))
 f283 := Tryz.func239.trans (congrArg some (by kernel_rfl))
 f284 := Tryz.func240.trans (congrArg some (by kernel_rfl))
 f285 := Tryz.func241.trans (congrArg some (by kernel_rfl))
 f286 := Tryz.func242.trans (congrArg some (by kernel_rfl))
 f317 := Tryz.func270.trans (congrArg some (by kernel_rfl))
 f318 := Tryz.func272.trans (congrArg some (by kernel_rfl))
 f319 := Tryz.func273.trans (congrArg some (by kernel_rfl))
 f320 := Tryz.func274.trans (congrArg some (by kernel_rfl))
 f337 := Tryz.func287.trans (congrArg some (by kernel_rfl))
 f338 := Tryz.func288.trans (congrArg some (by kernel_rfl))
 t0 := Tryz.underlying0
 a0 := Tryz.isAgg0
 z0 := Tryz.sizeOf0
 v0 := Tryz.zeroValue0
 t2 := Tryz.underlying2
 a2 := Tryz.isAgg2
 z2 := Tryz.sizeOf2
 v2 := Tryz.zeroValue2
 t3 := Tryz.underlying3
 a3 := Tryz.isAgg3
 z3 := Tryz.sizeOf3
 v3 := Tryz.zeroValue3
 t4 := Tryz.underlying4
 a4 := Tryz.isAgg4
 z4 := Tryz.sizeOf4
 v4 := Tryz.zeroValue4
 t5 := Tryz.underlying5
 a5 := Tryz.isAgg5
 z5 := Tryz.sizeOf5
 v5 := Tryz.zeroValue5
 t9 := Tryz.underlying9
 a9 := Tryz.isAgg9
 z9 := Tryz.sizeOf9
 v9 := Tryz.zeroValue9
 t20 := Tryz.underlying20
 a20 := Tryz.isAgg20
 z20 := Tryz.sizeOf20
 v20 := Tryz.zeroValue20
 t37 := Tryz.underlying304
 a37 := Tryz.isAgg304
 z37 := Tryz.sizeOf304
 v37 := Tryz.zeroValue304
 t46 := Tryz.underlying164
 a46 := Tryz.isAgg164
 z46 := Tryz.sizeOf164
 v46 := Tryz.zeroValue164
 t51 := Tryz.underlying282
 a51 := Tryz.isAgg282
 z51 := Tryz.sizeOf282
 v51 := Tryz.zeroValue282
 t53 := Tryz.underlying202
 a53 := Tryz.isAgg202
 z53 := Tryz.sizeOf202
 v53 := Tryz.zeroValue202
 t171 := Tryz.underlying342
 a171 := Tryz.isAgg342
 z171 := Tryz.sizeOf342
 v171 := Tryz.zeroValue342
 t173 := Tryz.underlying345
 a173 := Tryz.isAgg345
 z173 := Tryz.sizeOf345
 v173 := Tryz.zeroValue345
 t212 := Tryz.underlying373
 a212 := Tryz.isAgg373
 z212 := Tryz.sizeOf373
 v212 := Tryz.zeroValue373
 t213 := Tryz.underlying374
 a213 := Tryz.isAgg374
 z213 := Tryz.sizeOf374
 t232 := Tryz.underlying395
 a232 := Tryz.isAgg395
 z232 := Tryz.sizeOf395
 v232 := Tryz.zeroValue395
 t233 := Tryz.underlying396
 a233 := Tryz.isAgg396
 z233 := Tryz.sizeOf396
 v233 := Tryz.zeroValue396
 g17 := by kernel_rfl
 g18 := by kernel_rfl
 g19 := by kernel_rfl
 i0 := by kernel_rfl
 i2 := by kernel_rfl
 i3 := by kernel_rfl
 i4 := by kernel_rfl
 i5 := by kernel_rfl
 i9 := by kernel_rfl
 i20 := by kernel_rfl
 i37 := by kernel_rfl
 i46 := by kernel_rfl
 i51 := by kernel_rfl
 i53 := by kernel_rfl
 i171 := by kernel_rfl
 i173 := by kernel_rfl
 i212 := by kernel_rfl
 i232 := by kernel_rfl
 i233 := by kernel_rfl
 m17 := by kernel_rfl
 m18 := by kernel_rfl
 m19 := by kernel_rfl }
open Go.RowKit Go.Sort Go.Lib in
theorem Tryz.strconv_Itoa (n : Int) (h0 : -9223372036854775808 ≤ n) (h1 : n ≤ 9223372036854775807) (w : World) (htab : Lib.TabIs Tryz.prog w "internal/strconv.uint64pow10" .u64 Lib.pow10Tab) :
  Calls Tryz.prog 69 #[.int .i64 n] w fun e w' => e = .returned (.string ⟨(Lib.itoa n).toArray⟩) ∧ ∃ k os, w' = grow (w.drewN k) os := Any.strconv_Itoa Tryz.laysM171 n h0 h1 w htab
def Tryz.lays143_ren : Go.Shelf.Ren := ⟨fun | 143 => 245 | 219 => 276 | 217 => 119 | 225 => 289 | 224 => 290 | 267 => 291 | 266 => 180 | 314 => 300 | n => n, fun | 9 => 9 | 3 => 3 | 4 => 4 | 5 => 5 | 46 => 164 | 146 => 283 | 51 => 282 | n => n, fun | 1 => 4 | n => n⟩
theorem Tryz.lays143 : Go.Proofs.Lays.n143 Tryz.prog Tryz.lays143_ren := {
 mixed := by kernel_rfl
 f143 := Tryz.func245.trans (congrArg some (by kernel_rfl))
 f217 := Tryz.func119.trans (congrArg some (by kernel_rfl))
 f219 := Tryz.func276.trans (congrArg some (by kernel_rfl))
 f224 := Tryz.func290.trans (congrArg some (by kernel_rfl))
 f225 := Tryz.func289.trans (congrArg some (by kernel_rfl))
 f266 := Tryz.func180.trans (congrArg some (by kernel_rfl))
 f267 := Tryz.func291.trans (congrArg some (by kernel_rfl))
 f314 := Tryz.func300.trans (congrArg some (by kernel_rfl))
 t3 := Tryz.underlying3
 a3 := Tryz.isAgg3
 z3 := Tryz.sizeOf3
 v3 := Tryz.zeroValue3
 t4 := Tryz.underlying4
 a4 := Tryz.isAgg4
 z4 := Tryz.sizeOf4
 v4 := Tryz.zeroValue4
 t5 := Tryz.underlying5
 a5 := Tryz.isAgg5
 z5 := Tryz.sizeOf5
 v5 := Tryz.zeroValue5
 t9 := Tryz.underlying9
 a9 := Tryz.isAgg9
 z9 := Tryz.sizeOf9
 v9 := Tryz.zeroValue9
 t46 := Tryz.underlying164
 a46 := Tryz.isAgg164
 z46 := Tryz.sizeOf164
 v46 := Tryz.zeroValue164
 t51 := Tryz.underlying282
 a51 := Tryz.isAgg282
 z51 := Tryz.sizeOf282
 v51 := Tryz.zeroValue282
 t146 := Tryz.underlying283
 a146 := Tryz.isAgg283
 z146 := Tryz.sizeOf283
 v146 := Tryz.zeroValue283
 g1 := by kernel_rfl }
open Go.RowKit Go.Lib in
theorem Tryz.strings_Index_one (s : ByteArray) (c : UInt8) (w : World) :
  Calls Tryz.prog 245 #[.string s, .string ⟨#[c]⟩] w fun e w' => e = .returned (.int .i64 (Lib.indexByte s.data.toList c)) ∧ w' = w := Any.strings_Index_one Tryz.lays143 s c w
def Tryz.lays144_ren : Go.Shelf.Ren := ⟨fun | 144 => 238 | 143 => 245 | 219 => 276 | 217 => 119 | 225 => 289 | 224 => 290 | 267 => 291 | 266 => 180 | 314 => 300 | n => n, fun | 9 => 9 | 4 => 4 | 3 => 3 | 5 => 5 | 46 => 164 | 146 => 283 | 51 => 282 | n => n, fun | 1 => 4 | n => n⟩
theorem Tryz.lays144 : Go.Proofs.Lays.n144 Tryz.prog Tryz.lays144_ren := {
 mixed := by kernel_rfl
 f143 := Tryz.func245.trans (congrArg some (by kernel_rfl))
 f144 := Tryz.func238.trans (congrArg some (by kernel_rfl))
 f217 := Tryz.func119.trans (congrArg some (by kernel_rfl))
 f219 := Tryz.func276.trans (congrArg some (by kernel_rfl))
 f224 := Tryz.func290.trans (congrArg some (by kernel_rfl))
 f225 := Tryz.func289.trans (congrArg some (by kernel_rfl))
 f266 := Tryz.func180.trans (congrArg some (by kernel_rfl))
 f267 := Tryz.func291.trans (congrArg some (by kernel_rfl))
 f314 := Tryz.func300.trans (congrArg some (by kernel_rfl))
 t3 := Tryz.underlying3
 a3 := Tryz.isAgg3
 z3 := Tryz.sizeOf3
 v3 := Tryz.zeroValue3
 t4 := Tryz.underlying4
 a4 := Tryz.isAgg4
 z4 := Tryz.sizeOf4
 v4 := Tryz.zeroValue4
 t5 := Tryz.underlying5
 a5 := Tryz.isAgg5
 z5 := Tryz.sizeOf5
 v5 := Tryz.zeroValue5
 t9 := Tryz.underlying9
 a9 := Tryz.isAgg9
 z9 := Tryz.sizeOf9
 v9 := Tryz.zeroValue9
 t46 := Tryz.underlying164
 a46 := Tryz.isAgg164
 z46 := Tryz.sizeOf164
 v46 := Tryz.zeroValue164
 t51 := Tryz.underlying282
 a51 := Tryz.isAgg282
 z51 := Tryz.sizeOf282
 v51 := Tryz.zeroValue282
 t146 := Tryz.underlying283
 a146 := Tryz.isAgg283
 z146 := Tryz.sizeOf283
 v146 := Tryz.zeroValue283
 g1 := by kernel_rfl }
open Go.RowKit Go.Lib in
theorem Tryz.strings_Contains (s sub : ByteArray) (m : Int) (w : World) (hs : s.size < 4294967281) (hm : w.cell? ⟨4, 0, none⟩ = some (.int .i64 m)) :
  Calls Tryz.prog 238 #[.string s, .string sub] w fun e w' => e = .returned (.bool (Lib.contains s.data.toList sub.data.toList)) ∧ w' = w := Any.strings_Contains Tryz.lays144 s sub m w hs hm
def Tryz.laysM144_ren : Go.Shelf.Ren := ⟨fun | 144 => 238 | 143 => 245 | 219 => 276 | 217 => 119 | 225 => 289 | 224 => 290 | 267 => 291 | 266 => 180 | 314 => 300 | n => n, fun | 9 => 9 | 4 => 4 | 3 => 3 | 5 => 5 | 46 => 164 | 146 => 283 | 51 => 282 | n => n, fun | 1 => 4 | n => n⟩
theorem Tryz.laysM144 : Go.Proofs.LaysM.n144 Tryz.prog Tryz.laysM144_ren := {
 mixed := by kernel_rfl
 f143 := Tryz.func245.trans (congrArg some (by kernel_rfl))
 f144 := Tryz.func238.trans (congrArg some (by kernel_rfl))
 f217 := Tryz.func119.trans (congrArg some (by kernel_rfl))
 f219 := Tryz.func276.trans (congrArg some (by kernel_rfl))
 f224 := Tryz.func290.trans (congrArg some (by kernel_rfl))
 f225 := Tryz.func289.trans (congrArg some (by kernel_rfl))
 f266 := Tryz.func180.trans (congrArg some (by kernel_rfl))
 f267 := Tryz.func291.trans (congrArg some (by kernel_rfl))
 f314 := Tryz.func300.trans (congrArg some (by kernel_rfl))
 t3 := Tryz.underlying3
 a3 := Tryz.isAgg3
 z3 := Tryz.sizeOf3
 v3 := Tryz.zeroValue3
 t4 := Tryz.underlying4
 a4 := Tryz.isAgg4
 z4 := Tryz.sizeOf4
 v4 := Tryz.zeroValue4
 t5 := Tryz.underlying5
 a5 := Tryz.isAgg5
 z5 := Tryz.sizeOf5
 v5 := Tryz.zeroValue5
 t9 := Tryz.underlying9
 a9 := Tryz.isAgg9
 z9 := Tryz.sizeOf9
 v9 := Tryz.zeroValue9
 t46 := Tryz.underlying164
 a46 := Tryz.isAgg164
 z46 := Tryz.sizeOf164
 v46 := Tryz.zeroValue164
 t51 := Tryz.underlying282
 a51 := Tryz.isAgg282
 z51 := Tryz.sizeOf282
 v51 := Tryz.zeroValue282
 t146 := Tryz.underlying283
 a146 := Tryz.isAgg283
 z146 := Tryz.sizeOf283
 v146 := Tryz.zeroValue283
 g1 := by kernel_rfl
 i3 := by kernel_rfl
 i4 := by kernel_rfl
 i5 := by kernel_rfl
 i9 := by kernel_rfl
 i46 := by kernel_rfl
 i51 := by kernel_rfl
 i146 := by kernel_rfl
 m1 := by kernel_rfl
 s1_3 := fun w h => Go.Proofs.cell_of_shapedOpen_int (zero := #[.int .i64 0]) (t := 3) h (of_decide_eq_true (by kernel_rfl)) (by kernel_rfl) rfl (by kernel_rfl) (by kernel_rfl) Tryz.underlying3 }
def Tryz.lays148_ren : Go.Shelf.Ren := ⟨fun | 148 => 125 | 222 => 186 | 223 => 187 | 269 => 249 | n => n, fun | 9 => 9 | 3 => 3 | 4 => 4 | 5 => 5 | 146 => 283 | 51 => 282 | 46 => 164 | n => n, fun | n => n⟩
theorem Tryz.lays148 : Go.Proofs.Lays.n148 Tryz.prog Tryz.lays148_ren := {
 mixed := by kernel_rfl
 f148 := Tryz.func125.trans (congrArg some (by kernel_rfl))
 f222 := Tryz.func186.trans (congrArg some (by kernel_rfl))
 f223 := Tryz.func187.trans (congrArg some (by kernel_rfl))
 f269 := Tryz.func249.trans (congrArg some (by kernel_rfl))
 t3 := Tryz.underlying3
 a3 := Tryz.isAgg3
 z3 := Tryz.sizeOf3
 v3 := Tryz.zeroValue3
 t4 := Tryz.underlying4
 a4 := Tryz.isAgg4
 z4 := Tryz.sizeOf4
 v4 := Tryz.zeroValue4
 t5 := Tryz.underlying5
 a5 := Tryz.isAgg5
 z5 := Tryz.sizeOf5
 v5 := Tryz.zeroValue5
 t9 := Tryz.underlying9
 a9 := Tryz.isAgg9
 z9 := Tryz.sizeOf9
 v9 := Tryz.zeroValue9
 t46 := Tryz.underlying164
 a46 := Tryz.isAgg164
 z46 := Tryz.sizeOf164
 v46 := Tryz.zeroValue164
 t51 := Tryz.underlying282
 a51 := Tryz.isAgg282
 z51 := Tryz.sizeOf282
 v51 := Tryz.zeroValue282
 t146 := Tryz.underlying283
 a146 := Tryz.isAgg283
 z146 := Tryz.sizeOf283
 v146 := Tryz.zeroValue283 }
open Go.RowKit Go.Lib in
theorem Tryz.strings_LastIndex_one (s sub : ByteArray) (h1 : sub.size = 1) (hs : s.size < 4611686018427387904) (w : World) :
  Calls Tryz.prog 125 #[.string s, .string sub] w fun e w' => e = .returned (.int .i64 (Lib.lastIndexByte s ((sub[0]'(by omega)).toNat : Int))) ∧ w' = w := Any.strings_LastIndex_one Tryz.lays148 s sub h1 hs w
def Tryz.lays212_ren : Go.Shelf.Ren := ⟨fun | 212 => 130 | 263 => 189 | 264 => 190 | n => n, fun | 46 => 164 | 51 => 282 | 146 => 283 | 53 => 202 | 148 => 285 | n => n, fun | n => n⟩
theorem Tryz.lays212 : Go.Proofs.Lays.n212 Tryz.prog Tryz.lays212_ren := {
 mixed := by kernel_rfl
 f212 := Tryz.func130.trans (congrArg some (by kernel_rfl))
 f263 := Tryz.func189.trans (congrArg some (by kernel_rfl))
 f264 := Tryz.func190.trans (congrArg some (by kernel_rfl))
 t46 := Tryz.underlying164
 a46 := Tryz.isAgg164
 z46 := Tryz.sizeOf164
 v46 := Tryz.zeroValue164
 t51 := Tryz.underlying282
 a51 := Tryz.isAgg282
 z51 := Tryz.sizeOf282
 v51 := Tryz.zeroValue282
 t53 := Tryz.underlying202
 a53 := Tryz.isAgg202
 z53 := Tryz.sizeOf202
 v53 := Tryz.zeroValue202
 t146 := Tryz.underlying283
 a146 := Tryz.isAgg283
 z146 := Tryz.sizeOf283
 v146 := Tryz.zeroValue283
 t148 := Tryz.underlying285
 a148 := Tryz.isAgg285
 z148 := Tryz.sizeOf285
 v148 := Tryz.zeroValue285 }
open Go.RowKit Go.Lib in
theorem Tryz.bits_Mul (x y : Nat) (hx : x < 18446744073709551616) (hy : y < 18446744073709551616) (w : World) :
  Calls Tryz.prog 130 #[.int .u64 x, .int .u64 y] w fun e w' => e = .returned (.tuple #[.int .u64 ((x * y / 18446744073709551616 : Nat) : Int), .int .u64 ((x * y % 18446744073709551616 : Nat) : Int)]) ∧ w' = w := Any.bits_Mul Tryz.lays212 x y hx hy w
end Go.Proofs
