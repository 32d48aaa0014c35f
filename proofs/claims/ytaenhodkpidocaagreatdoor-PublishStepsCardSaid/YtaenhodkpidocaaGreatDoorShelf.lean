/- Texts joined by a program of mine (pack.py): Shelf. -/
import Derived.Shelf.Strings.Builder1
import Derived.Shelf.Strings.Trim
import Derived.Shelf.Small.Utf8
import Derived.Shelf.Small.Strs
import Derived.Shelf.Small.Wraps
import Derived.Shelf.Strings.BuilderF
import Derived.Shelf.Strings.BuilderK
import Derived.Shelf.Strings.BuilderRune
import Derived.Shelf.Strconv.Itoa0
import Derived.Shelf.Strconv.Itoa1
import Derived.Shelf.LaysM
import Derived.Shelf.Strconv.Itoa2
import Derived.Shelf.Strconv.Itoa3
import Derived.Shelf.Strings.Search1
import Derived.Shelf.Strings.Search2
import Derived.Shelf.Strings.Search3
import Derived.Shelf.Strings.Shaped
import Derived.Shelf.Strings.LastIndex
import Derived.Shelf.Strings.LastIndexAll
import Derived.Shelf.Strings.Prefix
import Derived.Shelf.Strings.Runes
import Derived.Shelf.Strings.AsciiSet
import Derived.Shelf.Bits.Mul64
import Derived.Shelf.Unicode.DecodeSlow
import Derived.Test.YtaenhodkpidocaaGreatDoorProg
set_option linter.unusedVariables false
set_option linter.unusedSimpArgs false
namespace Go.Proofs
open Go.Shelf
def Tryz.lays169_ren : Go.Shelf.Ren := ⟨fun | 169 => 129 | n => n, fun | 70 => 195 | 9 => 9 | 0 => 0 | 72 => 198 | 37 => 196 | 127 => 288 | 3 => 3 | 5 => 5 | n => n, fun | n => n⟩
theorem Tryz.lays169 : Go.Proofs.Lays.n169 Tryz.prog Tryz.lays169_ren := {
 mixed := by kernel_rfl
 f169 := Tryz.func129.trans (congrArg some (by kernel_rfl))
 t0 := Tryz.underlying0
 a0 := Tryz.isAgg0
 z0 := Tryz.sizeOf0
 v0 := Tryz.zeroValue0
 t3 := Tryz.underlying3
 a3 := Tryz.isAgg3
 z3 := Tryz.sizeOf3
 v3 := Tryz.zeroValue3
 t9 := Tryz.underlying9
 a9 := Tryz.isAgg9
 z9 := Tryz.sizeOf9
 v9 := Tryz.zeroValue9
 t37 := Tryz.underlying196
 a37 := Tryz.isAgg196
 z37 := Tryz.sizeOf196
 v37 := Tryz.zeroValue196
 t70 := Tryz.underlying195
 a70 := Tryz.isAgg195
 z70 := Tryz.sizeOf195
 v70 := Tryz.zeroValue195
 t72 := Tryz.underlying198
 a72 := Tryz.isAgg198
 z72 := Tryz.sizeOf198
 v72 := Tryz.zeroValue198
 t127 := Tryz.underlying288
 a127 := Tryz.isAgg288
 z127 := Tryz.sizeOf288
 v127 := Tryz.zeroValue288 }
theorem Tryz.Builder_Extra_169 : Builder.Extra Tryz.prog Tryz.lays169_ren := {
 sizeBuilder := by kernel_rfl
 liesBuilder := by kernel_rfl
 t5 := Tryz.underlying5
 a5 := Tryz.isAgg5
 z5 := Tryz.sizeOf5
 v5 := Tryz.zeroValue5
 infoByte := by kernel_rfl
 cellsByte := by kernel_rfl
 sizeByte := by kernel_rfl
 neB5 := by decide }
def Tryz.lays162_ren : Go.Shelf.Ren := ⟨fun | 162 => 72 | 232 => 133 | 227 => 134 | 234 => 135 | 236 => 136 | 228 => 200 | 271 => 201 | 151 => 202 | 120 => 265 | 197 => 261 | 152 => 266 | 260 => 292 | 137 => 62 | 119 => 294 | 224 => 295 | 225 => 296 | 217 => 122 | 266 => 196 | n => n, fun | 9 => 9 | 4 => 4 | 3 => 3 | 5 => 5 | 117 => 209 | 116 => 208 | 0 => 0 | 124 => 212 | 21 => 21 | 105 => 290 | 46 => 218 | 119 => 397 | 139 => 400 | 138 => 399 | n => n, fun | 3 => 6 | 4 => 7 | n => n⟩
theorem Tryz.lays162 : Go.Proofs.Lays.n162 Tryz.prog Tryz.lays162_ren := {
 mixed := by kernel_rfl
 f119 := Tryz.func294.trans (congrArg some (by kernel_rfl))
 f120 := Tryz.func265.trans (congrArg some (by kernel_rfl))
 f137 := Tryz.func62.trans (congrArg some (by kernel_rfl))
 f151 := Tryz.func202.trans (congrArg some (by kernel_rfl))
 f152 := Tryz.func266.trans (congrArg some (by kernel_rfl))
 f162 := Tryz.func72.trans (congrArg some (by kernel_rfl))
 f197 := Tryz.func261.trans (congrArg some (by kernel_rfl))
 f217 := Tryz.func122.trans (congrArg some (by kernel_rfl))
 f224 := Tryz.func295.trans (congrArg some (by kernel_rfl))
 f225 := Tryz.func296.trans (congrArg some (by kernel_rfl))
 f227 := Tryz.func134.trans (congrArg some (by kernel_rfl))
 f228 := Tryz.func200.trans (congrArg some (by kernel_rfl))
 f232 := Tryz.func133.trans (congrArg some (by kernel_rfl))
 f234 := Tryz.func135.trans (congrArg some (by kernel_rfl))
 f236 := Tryz.func136.trans (congrArg some (by kernel_rfl))
 f260 := Tryz.func292.trans (congrArg some (by kernel_rfl))
 f266 := Tryz.func196.trans (congrArg some (by kernel_rfl))
 f271 := Tryz.func201.trans (congrArg some (by kernel_rfl))
 t0 := Tryz.underlying0
 a0 := Tryz.isAgg0
 z0 := Tryz.sizeOf0
 v0 := Tryz.zeroValue0
 t3 := Tryz.underlying3
 a3 := Tryz.isAgg3
 z3 := Tryz.sizeOf3
 v3 := Tryz.zeroValue3
 t4 := Tryz.underlying4
 a4 := Tryz.isAgg4
 z4 := Tryz.sizeOf4
 v4 := Tryz.zeroValue4
 t5 := Tryz.underlying5
 a5 := Tryz.isAgg5
 z5 := Tryz.sizeOf5
 v5 := Tryz.zeroValue5
 t9 := Tryz.underlying9
 a9 := Tryz.isAgg9
 z9 := Tryz.sizeOf9
 v9 := Tryz.zeroValue9
 t21 := Tryz.underlying21
 a21 := Tryz.isAgg21
 z21 := Tryz.sizeOf21
 v21 := Tryz.zeroValue21
 t46 := Tryz.underlying218
 a46 := Tryz.isAgg218
 z46 := Tryz.sizeOf218
 v46 := Tryz.zeroValue218
 t105 := Tryz.underlying290
 a105 := Tryz.isAgg290
 z105 := Tryz.sizeOf290
 v105 := Tryz.zeroValue290
 t116 := Tryz.underlying208
 a116 := Tryz.isAgg208
 z116 := Tryz.sizeOf208
 t117 := Tryz.underlying209
 a117 := Tryz.isAgg209
 z117 := Tryz.sizeOf209
 v117 := Tryz.zeroValue209
 t119 := Tryz.underlying397
 a119 := Tryz.isAgg397
 z119 := Tryz.sizeOf397
 t124 := Tryz.underlying212
 a124 := Tryz.isAgg212
 z124 := Tryz.sizeOf212
 v124 := Tryz.zeroValue212
 t138 := Tryz.underlying399
 a138 := Tryz.isAgg399
 z138 := Tryz.sizeOf399
 v138 := Tryz.zeroValue399
 t139 := Tryz.underlying400
 a139 := Tryz.isAgg400
 z139 := Tryz.sizeOf400
 v139 := Tryz.zeroValue400
 g3 := by kernel_rfl
 g4 := by kernel_rfl }
open Go.RowKit in
theorem Tryz.strings_TrimRight_one (s : ByteArray) (c : UInt8) (hc : c.toNat < 128) (w : World) (hs : s.size ≤ 9223372036854775807) :
  Calls Tryz.prog 72 #[.string s, .string ⟨#[c]⟩] w fun e w' => e = .returned (.string ⟨(Lib.trimRightB s.data.toList c).toArray⟩) ∧ w' = w := Any.strings_TrimRight_one Tryz.lays162 s c hc w hs
def Tryz.lays106_ren : Go.Shelf.Ren := ⟨fun | 106 => 312 | 213 => 316 | 265 => 321 | n => n, fun | 9 => 9 | 3 => 3 | n => n, fun | n => n⟩
theorem Tryz.lays106 : Go.Proofs.Lays.n106 Tryz.prog Tryz.lays106_ren := {
 mixed := by kernel_rfl
 f106 := Tryz.func312.trans (congrArg some (by kernel_rfl))
 f213 := Tryz.func316.trans (congrArg some (by kernel_rfl))
 f265 := Tryz.func321.trans (congrArg some (by kernel_rfl))
 t3 := Tryz.underlying3
 a3 := Tryz.isAgg3
 z3 := Tryz.sizeOf3
 v3 := Tryz.zeroValue3
 t9 := Tryz.underlying9
 a9 := Tryz.isAgg9
 z9 := Tryz.sizeOf9
 v9 := Tryz.zeroValue9 }
open Go.RowKit in
theorem Tryz.strings_Compare (a b : ByteArray) (w : World) :
  Calls Tryz.prog 312 #[.string a, .string b] w fun e w' => e = .returned (.int .i64 (Lib.compareBytes a.data.toList b.data.toList)) ∧ w' = w := Any.strings_Compare Tryz.lays106 a b w
def Tryz.lays137_ren : Go.Shelf.Ren := ⟨fun | 137 => 62 | 217 => 122 | 266 => 196 | n => n, fun | 9 => 9 | 5 => 5 | 3 => 3 | n => n, fun | n => n⟩
theorem Tryz.lays137 : Go.Proofs.Lays.n137 Tryz.prog Tryz.lays137_ren := {
 mixed := by kernel_rfl
 f137 := Tryz.func62.trans (congrArg some (by kernel_rfl))
 f217 := Tryz.func122.trans (congrArg some (by kernel_rfl))
 f266 := Tryz.func196.trans (congrArg some (by kernel_rfl))
 t3 := Tryz.underlying3
 a3 := Tryz.isAgg3
 z3 := Tryz.sizeOf3
 v3 := Tryz.zeroValue3
 t5 := Tryz.underlying5
 a5 := Tryz.isAgg5
 z5 := Tryz.sizeOf5
 v5 := Tryz.zeroValue5
 t9 := Tryz.underlying9
 a9 := Tryz.isAgg9
 z9 := Tryz.sizeOf9
 v9 := Tryz.zeroValue9 }
open Go.RowKit in
theorem Tryz.strings_IndexByte (s : ByteArray) (c : Int) (w : World) :
  Calls Tryz.prog 62 #[.string s, .int .u8 c] w fun e w' => e = .returned (.int .i64 (Lib.indexByte s.data.toList c.toNat.toUInt8)) ∧ w' = w := Any.strings_IndexByte Tryz.lays137 s c w
open Go.RowKit in
theorem Tryz.Builder_String_any_k (B b : Nat) (l : List UInt8) (w : World) (h : Lib.IsBuilderF 198 5 B b (Lib.byteCells l) w) (hBw : B ≤ w.heap.size) :
  Calls Tryz.prog 129 #[.pointer (some ⟨b, 0, none⟩)] w fun e w' => e = .returned (.string ⟨l.toArray⟩) ∧ (Lib.IsBuilderF 198 5 B b (Lib.byteCells l) w' ∧ Below B w w' ∧ Lib.OthersKept 5 (some b) w w') := Any.Builder_String_any_k Tryz.lays169 Tryz.Builder_Extra_169 B b l w h hBw
def Tryz.laysM171_ren : Go.Shelf.Ren := ⟨fun | 171 => 61 | 243 => 121 | 246 => 195 | 283 => 256 | 284 => 257 | 285 => 258 | 286 => 259 | 129 => 288 | 317 => 287 | 318 => 289 | 319 => 290 | 320 => 291 | 337 => 305 | 338 => 306 | n => n, fun | 3 => 3 | 9 => 9 | 2 => 2 | 4 => 4 | 171 => 354 | 0 => 0 | 53 => 204 | 37 => 196 | 5 => 5 | 173 => 357 | 212 => 382 | 51 => 293 | 20 => 20 | 213 => 383 | 46 => 218 | 232 => 404 | 233 => 405 | n => n, fun | 17 => 5 | 18 => 8 | 19 => 9 | n => n⟩
theorem Tryz.laysM171 : Go.Proofs.LaysM.n171 Tryz.prog Tryz.laysM171_ren := {
 mixed := by kernel_rfl
 f129 := Tryz.func288.trans (congrArg some (by kernel_rfl))
 f171 := Tryz.func61.trans (congrArg some (by kernel_rfl))
 f243 := Tryz.func121.trans (congrArg some (by kernel_rfl))
 f246 := Tryz.func195.trans (congrArg some (by kernel_rfl))
 f283 := Tryz.func256.trans (congrArg some (by kernel_rfl))
 f284 := Tryz.func257.trans (congrArg some (by kernel_rfl))
 f285 := Tryz.func258.trans (congrArg some (by kernel_rfl))
 f286 := Tryz.func259.trans (congrArg some (by kernel_rfl))
 f317 := Tryz.func287.trans (congrArg some (by kernel_rfl))
 f318 := Tryz.func289.trans (congrArg some (by kernel_rfl))
 f319 := Tryz.func290.trans (congrArg some (by kernel_rfl))
 f320 := Tryz.func291.trans (congrArg some (by kernel_rfl))
 f337 := Tryz.func305.trans (congrArg some (by kernel_rfl))
 f338 := Tryz.func306.trans (congrArg some (by kernel_rfl))
 t0 := Tryz.underlying0
 a0 := Tryz.isAgg0
 z0 := Tryz.sizeOf0
 v0 := Tryz.zeroValue0
 t2 := Tryz.underlying2
 a2 := Tryz.isAgg2
 z2 := Tryz.sizeOf2
 v2 := Tryz.zeroValue2
 t3 := Tryz.underlying3
 a3 := Tryz.isAgg3
 z3 := Tryz.sizeOf3
 v3 := Tryz.zeroValue3
 t4 := Tryz.underlying4
 a4 := Tryz.isAgg4
 z4 := Tryz.sizeOf4
 v4 := Tryz.zeroValue4
 t5 := Tryz.underlying5
 a5 := Tryz.isAgg5
 z5 := Tryz.sizeOf5
 v5 := Tryz.zeroValue5
 t9 := Tryz.underlying9
 a9 := Tryz.isAgg9
 z9 := Tryz.sizeOf9
 v9 := Tryz.zeroValue9
 t20 := Tryz.underlying20
 a20 := Tryz.isAgg20
 z20 := Tryz.sizeOf20
 v20 := Tryz.zeroValue20
 t37 := Tryz.underlying196
 a37 := Tryz.isAgg196
 z37 := Tryz.sizeOf196
 v37 := Tryz.zeroValue196
 t46 := Tryz.underlying218
 a46 := Tryz.isAgg218
 z46 := Tryz.sizeOf218
 v46 := Tryz.zeroValue218
 t51 := Tryz.underlying293
 a51 := Tryz.isAgg293
 z51 := Tryz.sizeOf293
 v51 := Tryz.zeroValue293
 t53 := Tryz.underlying204
 a53 := Tryz.isAgg204
 z53 := Tryz.sizeOf204
 v53 := Tryz.zeroValue204
 t171 := Tryz.underlying354
 a171 := Tryz.isAgg354
 z171 := Tryz.sizeOf354
 v171 := Tryz.zeroValue354
 t173 := Tryz.underlying357
 a173 := Tryz.isAgg357
 z173 := Tryz.sizeOf357
 v173 := Tryz.zeroValue357
 t212 := Tryz.underlying382
 a212 := Tryz.isAgg382
 z212 := Tryz.sizeOf382
 v212 := Tryz.zeroValue382
 t213 := Tryz.underlying383
 a213 := Tryz.isAgg383
 z213 := Tryz.sizeOf383
 t232 := Tryz.underlying404
 a232 := Tryz.isAgg404
 z232 := Tryz.sizeOf404
 v232 := Tryz.zeroValue404
 t233 := Tryz.underlying405
 a233 := Tryz.isAgg405
 z233 := Tryz.sizeOf405
 v233 := Tryz.zeroValue405
 g17 := by kernel_rfl
 g18 := by kernel_rfl
 g19 := by kernel_rfl
 i0 := by kernel_rfl
 i2 := by kernel_rfl
 i3 := by kernel_rfl
 i4 := by kernel_rfl
 i5 := by kernel_rfl
 i9 := by kernel_rfl
 i20 := by kernel_rfl
 i37 := by kernel_rfl
 i46 := by kernel_rfl
 i51 := by kernel_rfl
 i53 := by kernel_rfl
 i171 := by kernel_rfl
 i173 := by kernel_rfl
 i212 := by kernel_rfl
 i232 := by kernel_rfl
 i233 := by kernel_rfl
 m17 := by kernel_rfl
 m18 := by kernel_rfl
 m19 := by kernel_rfl }
open Go.RowKit Go.Sort Go.Lib in
theorem Tryz.strconv_Itoa (n : Int) (h0 : -9223372036854775808 ≤ n) (h1 : n ≤ 9223372036854775807) (w : World) (htab : Lib.TabIs Tryz.prog w "internal/strconv.uint64pow10" .u64 Lib.pow10Tab) :
  Calls Tryz.prog 61 #[.int .i64 n] w fun e w' => e = .returned (.string ⟨(Lib.itoa n).toArray⟩) ∧ ∃ k os, w' = grow (w.drewN k) os := Any.strconv_Itoa Tryz.laysM171 n h0 h1 w htab
def Tryz.lays143_ren : Go.Shelf.Ren := ⟨fun | 143 => 262 | 219 => 293 | 217 => 122 | 225 => 296 | 224 => 295 | 267 => 307 | 266 => 196 | 314 => 315 | n => n, fun | 9 => 9 | 3 => 3 | 4 => 4 | 5 => 5 | 46 => 218 | 146 => 294 | 51 => 293 | n => n, fun | 1 => 2 | n => n⟩
theorem Tryz.lays143 : Go.Proofs.Lays.n143 Tryz.prog Tryz.lays143_ren := {
 mixed := by kernel_rfl
 f143 := Tryz.func262.trans (congrArg some (by kernel_rfl))
 f217 := Tryz.func122.trans (congrArg some (by kernel_rfl))
 f219 := Tryz.func293.trans (congrArg some (by kernel_rfl))
 f224 := Tryz.func295.trans (congrArg some (by kernel_rfl))
 f225 := Tryz.func296.trans (congrArg some (by kernel_rfl))
 f266 := Tryz.func196.trans (congrArg some (by kernel_rfl))
 f267 := Tryz.func307.trans (congrArg some (by kernel_rfl))
 f314 := Tryz.func315.trans (congrArg some (by kernel_rfl))
 t3 := Tryz.underlying3
 a3 := Tryz.isAgg3
 z3 := Tryz.sizeOf3
 v3 := Tryz.zeroValue3
 t4 := Tryz.underlying4
 a4 := Tryz.isAgg4
 z4 := Tryz.sizeOf4
 v4 := Tryz.zeroValue4
 t5 := Tryz.underlying5
 a5 := Tryz.isAgg5
 z5 := Tryz.sizeOf5
 v5 := Tryz.zeroValue5
 t9 := Tryz.underlying9
 a9 := Tryz.isAgg9
 z9 := Tryz.sizeOf9
 v9 := Tryz.zeroValue9
 t46 := Tryz.underlying218
 a46 := Tryz.isAgg218
 z46 := Tryz.sizeOf218
 v46 := Tryz.zeroValue218
 t51 := Tryz.underlying293
 a51 := Tryz.isAgg293
 z51 := Tryz.sizeOf293
 v51 := Tryz.zeroValue293
 t146 := Tryz.underlying294
 a146 := Tryz.isAgg294
 z146 := Tryz.sizeOf294
 v146 := Tryz.zeroValue294
 g1 := by kernel_rfl }
open Go.RowKit Go.Lib in
theorem Tryz.strings_Index_one (s : ByteArray) (c : UInt8) (w : World) :
  Calls Tryz.prog 262 #[.string s, .string ⟨#[c]⟩] w fun e w' => e = .returned (.int .i64 (Lib.indexByte s.data.toList c)) ∧ w' = w := Any.strings_Index_one Tryz.lays143 s c w
def Tryz.lays144_ren : Go.Shelf.Ren := ⟨fun | 144 => 255 | 143 => 262 | 219 => 293 | 217 => 122 | 225 => 296 | 224 => 295 | 267 => 307 | 266 => 196 | 314 => 315 | n => n, fun | 9 => 9 | 4 => 4 | 3 => 3 | 5 => 5 | 46 => 218 | 146 => 294 | 51 => 293 | n => n, fun | 1 => 2 | n => n⟩
theorem Tryz.lays144 : Go.Proofs.Lays.n144 Tryz.prog Tryz.lays144_ren := {
 mixed := by kernel_rfl
 f143 := Tryz.func262.trans (congrArg some (by kernel_rfl))
 f144 := Tryz.func255.trans (congrArg some (by kernel_rfl))
 f217 := Tryz.func122.trans (congrArg some (by kernel_rfl))
 f219 := Tryz.func293.trans (congrArg some (by kernel_rfl))
 f224 := Tryz.func295.trans (congrArg some (by kernel_rfl))
 f225 := Tryz.func296.trans (congrArg some (by kernel_rfl))
 f266 := Tryz.func196.trans (congrArg some (by kernel_rfl))
 f267 := Tryz.func307.trans (congrArg some (by kernel_rfl))
 f314 := Tryz.func315.trans (congrArg some (by kernel_rfl))
 t3 := Tryz.underlying3
 a3 := Tryz.isAgg3
 z3 := Tryz.sizeOf3
 v3 := Tryz.zeroValue3
 t4 := Tryz.underlying4
 a4 := Tryz.isAgg4
 z4 := Tryz.sizeOf4
 v4 := Tryz.zeroValue4
 t5 := Tryz.underlying5
 a5 := Tryz.isAgg5
 z5 := Tryz.sizeOf5
 v5 := Tryz.zeroValue5
 t9 := Tryz.underlying9
 a9 := Tryz.isAgg9
 z9 := Tryz.sizeOf9
 v9 := Tryz.zeroValue9
 t46 := Tryz.underlying218
 a46 := Tryz.isAgg218
 z46 := Tryz.sizeOf218
 v46 := Tryz.zeroValue218
 t51 := Tryz.underlying293
 a51 := Tryz.isAgg293
 z51 := Tryz.sizeOf293
 v51 := Tryz.zeroValue293
 t146 := Tryz.underlying294
 a146 := Tryz.isAgg294
 z146 := Tryz.sizeOf294
 v146 := Tryz.zeroValue294
 g1 := by kernel_rfl }
open Go.RowKit Go.Lib in
theorem Tryz.strings_Contains (s sub : ByteArray) (m : Int) (w : World) (hs : s.size < 4294967281) (hm : w.cell? ⟨2, 0, none⟩ = some (.int .i64 m)) :
  Calls Tryz.prog 255 #[.string s, .string sub] w fun e w' => e = .returned (.bool (Lib.contains s.data.toList sub.data.toList)) ∧ w' = w := Any.strings_Contains Tryz.lays144 s sub m w hs hm
def Tryz.laysM144_ren : Go.Shelf.Ren := ⟨fun | 144 => 255 | 143 => 262 | 219 => 293 | 217 => 122 | 225 => 296 | 224 => 295 | 267 => 307 | 266 => 196 | 314 => 315 | n => n, fun | 9 => 9 | 4 => 4 | 3 => 3 | 5 => 5 | 46 => 218 | 146 => 294 | 51 => 293 | n => n, fun | 1 => 2 | n => n⟩
theorem Tryz.laysM144 : Go.Proofs.LaysM.n144 Tryz.prog Tryz.laysM144_ren := {
 mixed := by kernel_rfl
 f143 := Tryz.func262.trans (congrArg some (by kernel_rfl))
 f144 := Tryz.func255.trans (congrArg some (by kernel_rfl))
 f217 := Tryz.func122.trans (congrArg some (by kernel_rfl))
 f219 := Tryz.func293.trans (congrArg some (by kernel_rfl))
 f224 := Tryz.func295.trans (congrArg some (by kernel_rfl))
 f225 := Tryz.func296.trans (congrArg some (by kernel_rfl))
 f266 := Tryz.func196.trans (congrArg some (by kernel_rfl))
 f267 := Tryz.func307.trans (congrArg some (by kernel_rfl))
 f314 := Tryz.func315.trans (congrArg some (by kernel_rfl))
 t3 := Tryz.underlying3
 a3 := Tryz.isAgg3
 z3 := Tryz.sizeOf3
 v3 := Tryz.zeroValue3
 t4 := Tryz.underlying4
 a4 := Tryz.isAgg4
 z4 := Tryz.sizeOf4
 v4 := Tryz.zeroValue4
 t5 := Tryz.underlying5
 a5 := Tryz.isAgg5
 z5 := Tryz.sizeOf5
 v5 := Tryz.zeroValue5
 t9 := Tryz.underlying9
 a9 := Tryz.isAgg9
 z9 := Tryz.sizeOf9
 v9 := Tryz.zeroValue9
 t46 := Tryz.underlying218
 a46 := Tryz.isAgg218
 z46 := Tryz.sizeOf218
 v46 := Tryz.zeroValue218
 t51 := Tryz.underlying293
 a51 := Tryz.isAgg293
 z51 := Tryz.sizeOf293
 v51 := Tryz.zeroValue293
 t146 := Tryz.underlying294
 a146 := Tryz.isAgg294
 z146 := Tryz.sizeOf294
 v146 := Tryz.zeroValue294
 g1 := by kernel_rfl
 i3 := by kernel_rfl
 i4 := by kernel_rfl
 i5 := by kernel_rfl
 i9 := by kernel_rfl
 i46 := by kernel_rfl
 i51 := by kernel_rfl
 i146 := by kernel_rfl
 m1 := by kernel_rfl
 s1_3 := fun w h => Go.Proofs.cell_of_shapedOpen_int (zero := #[.int .i64 0]) (t := 3) h (of_decide_eq_true (by kernel_rfl)) (by kernel_rfl) rfl (by kernel_rfl) (by kernel_rfl) Tryz.underlying3 }
def Tryz.lays148_ren : Go.Shelf.Ren := ⟨fun | 148 => 73 | 222 => 137 | 223 => 138 | 269 => 203 | n => n, fun | 9 => 9 | 3 => 3 | 4 => 4 | 5 => 5 | 146 => 294 | 51 => 293 | 46 => 218 | n => n, fun | n => n⟩
theorem Tryz.lays148 : Go.Proofs.Lays.n148 Tryz.prog Tryz.lays148_ren := {
 mixed := by kernel_rfl
 f148 := Tryz.func73.trans (congrArg some (by kernel_rfl))
 f222 := Tryz.func137.trans (congrArg some (by kernel_rfl))
 f223 := Tryz.func138.trans (congrArg some (by kernel_rfl))
 f269 := Tryz.func203.trans (congrArg some (by kernel_rfl))
 t3 := Tryz.underlying3
 a3 := Tryz.isAgg3
 z3 := Tryz.sizeOf3
 v3 := Tryz.zeroValue3
 t4 := Tryz.underlying4
 a4 := Tryz.isAgg4
 z4 := Tryz.sizeOf4
 v4 := Tryz.zeroValue4
 t5 := Tryz.underlying5
 a5 := Tryz.isAgg5
 z5 := Tryz.sizeOf5
 v5 := Tryz.zeroValue5
 t9 := Tryz.underlying9
 a9 := Tryz.isAgg9
 z9 := Tryz.sizeOf9
 v9 := Tryz.zeroValue9
 t46 := Tryz.underlying218
 a46 := Tryz.isAgg218
 z46 := Tryz.sizeOf218
 v46 := Tryz.zeroValue218
 t51 := Tryz.underlying293
 a51 := Tryz.isAgg293
 z51 := Tryz.sizeOf293
 v51 := Tryz.zeroValue293
 t146 := Tryz.underlying294
 a146 := Tryz.isAgg294
 z146 := Tryz.sizeOf294
 v146 := Tryz.zeroValue294 }
open Go.RowKit Go.Lib in
theorem Tryz.strings_LastIndex_one (s sub : ByteArray) (h1 : sub.size = 1) (hs : s.size < 4611686018427387904) (w : World) :
  Calls Tryz.prog 73 #[.string s, .string sub] w fun e w' => e = .returned (.int .i64 (Lib.lastIndexByte s ((sub[0]'(by omega)).toNat : Int))) ∧ w' = w := Any.strings_LastIndex_one Tryz.lays148 s sub h1 hs w
def Tryz.lays212_ren : Go.Shelf.Ren := ⟨fun | 212 => 146 | 263 => 205 | 264 => 206 | n => n, fun | 46 => 218 | 51 => 293 | 146 => 294 | 53 => 204 | 148 => 297 | n => n, fun | n => n⟩
theorem Tryz.lays212 : Go.Proofs.Lays.n212 Tryz.prog Tryz.lays212_ren := {
 mixed := by kernel_rfl
 f212 := Tryz.func146.trans (congrArg some (by kernel_rfl))
 f263 := Tryz.func205.trans (congrArg some (by kernel_rfl))
 f264 := Tryz.func206.trans (congrArg some (by kernel_rfl))
 t46 := Tryz.underlying218
 a46 := Tryz.isAgg218
 z46 := Tryz.sizeOf218
 v46 := Tryz.zeroValue218
 t51 := Tryz.underlying293
 a51 := Tryz.isAgg293
 z51 := Tryz.sizeOf293
 v51 := Tryz.zeroValue293
 t53 := Tryz.underlying204
 a53 := Tryz.isAgg204
 z53 := Tryz.sizeOf204
 v53 := Tryz.zeroValue204
 t146 := Tryz.underlying294
 a146 := Tryz.isAgg294
 z146 := Tryz.sizeOf294
 v146 := Tryz.zeroValue294
 t148 := Tryz.underlying297
 a148 := Tryz.isAgg297
 z148 := Tryz.sizeOf297
 v148 := Tryz.zeroValue297 }
open Go.RowKit Go.Lib in
theorem Tryz.bits_Mul (x y : Nat) (hx : x < 18446744073709551616) (hy : y < 18446744073709551616) (w : World) :
  Calls Tryz.prog 146 #[.int .u64 x, .int .u64 y] w fun e w' => e = .returned (.tuple #[.int .u64 ((x * y / 18446744073709551616 : Nat) : Int), .int .u64 ((x * y % 18446744073709551616 : Nat) : Int)]) ∧ w' = w := Any.bits_Mul Tryz.lays212 x y hx hy w
end Go.Proofs
