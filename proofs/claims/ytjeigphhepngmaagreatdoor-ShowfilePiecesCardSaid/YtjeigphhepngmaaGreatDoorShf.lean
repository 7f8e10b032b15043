/- -/
import Derived.Shelf.Strings.Builder1
import Derived.Shelf.Strings.Trim
import Derived.Shelf.Small.Utf8
import Derived.Shelf.Small.Strs
import Derived.Shelf.Strings.BuilderF
import Derived.Shelf.Strings.BuilderK
import Derived.Shelf.Strconv.Atoi
import Derived.Shelf.Strconv.AtoiErrFast
import Derived.Shelf.Strconv.ParseIntEmpty
import Derived.Shelf.Strconv.AtoiFail
import Derived.Shelf.LaysM
import Derived.Shelf.Strconv.Clone
import Derived.Shelf.Strconv.SyntaxError
import Derived.Shelf.LaysC
import Derived.Shelf.Strconv.ToError
import Derived.Shelf.Strconv.Lower
import Derived.Shelf.Strconv.ParseUint10
import Derived.Shelf.Strconv.ParseUint10Empty
import Derived.Shelf.Strconv.ParseUint10Any
import Derived.Shelf.Strconv.ParseInt10
import Derived.Shelf.Strconv.AtoiLong
import Derived.Shelf.Strconv.AtoiInnerAll
import Derived.Shelf.Strconv.RangeError
import Derived.Shelf.Strconv.ToErrorRange
import Derived.Shelf.Strconv.AtoiAll
import Derived.Shelf.Strings.Search1
import Derived.Shelf.Strings.Search2
import Derived.Shelf.Strings.Prefix
import Derived.Shelf.Strings.Runes
import Derived.Shelf.Strings.AsciiSet
import Derived.Shelf.Unicode.DecodeSlow
import Derived.Test.YtjeigphhepngmaaGreatDoorProg
namespace Go.Proofs.YtjeigphhepngmaaGreatDoor
open Go.RowKit Go.Lib in
open Go.RowKit in
open Go.Shelf
set_option maxHeartbeats 8000000
set_option maxRecDepth 100000
open Go.RowKit in
def Tryz.laysC172_ren : Go.Shelf.Ren := ⟨fun | 172 => 400 | 244 => 401 | 245 => 402 | 247 => 403 | 279 => 404 | 280 => 405 | 281 => 406 | 282 => 407 | 287 => 408 | 316 => 409 | 171 => 411 | 205 => 410 | 321 => 412 | 322 => 413 | 243 => 414 | 246 => 415 | 283 => 416 | 284 => 417 | 285 => 418 | 286 => 419 | 129 => 421 | 317 => 420 | 318 => 422 | 319 => 423 | 320 => 424 | 337 => 425 | 338 => 426 | n => n, fun | 9 => 9 | 3 => 3 | 75 => 262 | 76 => 263 | 4 => 4 | 5 => 5 | 167 => 449 | 37 => 59 | 0 => 0 | 85 => 450 | 2 => 2 | 168 => 452 | 53 => 287 | 175 => 455 | 46 => 288 | 210 => 458 | 127 => 331 | 145 => 463 | 143 => 461 | 21 => 21 | 171 => 465 | 173 => 468 | 212 => 470 | 51 => 430 | 20 => 20 | 213 => 471 | 232 => 474 | 233 => 475 | 80 => 203 | n => n, fun | 15 => 3 | 16 => 4 | 17 => 5 | 18 => 6 | 19 => 7 | n => n⟩
theorem Tryz.laysC172 : Go.Proofs.LaysC.n172 Tryz.prog Tryz.laysC172_ren := {
 mixed := by kernel_rfl
 f129 := Tryz.func421.trans (congrArg some (by kernel_rfl))
 f171 := Tryz.func411.trans (congrArg some (by kernel_rfl))
 f172 := Tryz.func400.trans (congrArg some (by kernel_rfl))
 f205 := Tryz.func410.trans (congrArg some (by kernel_rfl))
 f243 := Tryz.func414.trans (congrArg some (by kernel_rfl))
 f244 := Tryz.func401.trans (congrArg some (by kernel_rfl))
 f245 := Tryz.func402.trans (congrArg some (by kernel_rfl))
 f246 := Tryz.func415.trans (congrArg some (by kernel_rfl))
 f247 := Tryz.func403.trans (congrArg some (by kernel_rfl))
 f279 := Tryz.func404.trans (congrArg some (by kernel_rfl))
 f280 := Tryz.func405.trans (congrArg some (by kernel_rfl))
 f281 := Tryz.func406.trans (congrArg some (by kernel_rfl))
 f282 := Tryz.func407.trans (congrArg some (by kernel_rfl))
 f283 := Tryz.func416.trans (congrArg some (by kernel_rfl))
 f284 := Tryz.func417.trans (congrArg some (by kernel_rfl))
 f285 := Tryz.func418.trans (congrArg some (by kernel_rfl))
 f286 := Tryz.func419.trans (congrArg some (by kernel_rfl))
 f287 := Tryz.func408.trans (congrArg some (by kernel_rfl))
 f316 := Tryz.func409.trans (congrArg some (by kernel_rfl))
 f317 := Tryz.func420.trans (congrArg some (by kernel_rfl))
 f318 := Tryz.func422.trans (congrArg some (by kernel_rfl))
 f319 := Tryz.func423.trans (congrArg some (by kernel_rfl))
 f320 := Tryz.func424.trans (congrArg some (by kernel_rfl))
 f321 := Tryz.func412.trans (congrArg some (by kernel_rfl))
 f322 := Tryz.func413.trans (congrArg some (by kernel_rfl))
 f337 := Tryz.func425.trans (congrArg some (by kernel_rfl))
 f338 := Tryz.func426.trans (congrArg some (by kernel_rfl))
 t0 := Tryz.underlying0
 a0 := Tryz.isAgg0
 z0 := Tryz.sizeOf0
 v0 := Tryz.zeroValue0
 t2 := Tryz.underlying2
 a2 := Tryz.isAgg2
 z2 := Tryz.sizeOf2
 v2 := Tryz.zeroValue2
 t3 := Tryz.underlying3
 a3 := Tryz.isAgg3
 z3 := Tryz.sizeOf3
 v3 := Tryz.zeroValue3
 t4 := Tryz.underlying4
 a4 := Tryz.isAgg4
 z4 := Tryz.sizeOf4
 v4 := Tryz.zeroValue4
 t5 := Tryz.underlying5
 a5 := Tryz.isAgg5
 z5 := Tryz.sizeOf5
 v5 := Tryz.zeroValue5
 t9 := Tryz.underlying9
 a9 := Tryz.isAgg9
 z9 := Tryz.sizeOf9
 v9 := Tryz.zeroValue9
 t20 := Tryz.underlying20
 a20 := Tryz.isAgg20
 z20 := Tryz.sizeOf20
 v20 := Tryz.zeroValue20
 t21 := Tryz.underlying21
 a21 := Tryz.isAgg21
 z21 := Tryz.sizeOf21
 v21 := Tryz.zeroValue21
 t37 := Tryz.underlying59
 a37 := Tryz.isAgg59
 z37 := Tryz.sizeOf59
 v37 := Tryz.zeroValue59
 t46 := Tryz.underlying288
 a46 := Tryz.isAgg288
 z46 := Tryz.sizeOf288
 v46 := Tryz.zeroValue288
 t51 := Tryz.underlying430
 a51 := Tryz.isAgg430
 z51 := Tryz.sizeOf430
 v51 := Tryz.zeroValue430
 t53 := Tryz.underlying287
 a53 := Tryz.isAgg287
 z53 := Tryz.sizeOf287
 v53 := Tryz.zeroValue287
 t75 := Tryz.underlying262
 a75 := Tryz.isAgg262
 z75 := Tryz.sizeOf262
 v75 := Tryz.zeroValue262
 t76 := Tryz.underlying263
 a76 := Tryz.isAgg263
 z76 := Tryz.sizeOf263
 v76 := Tryz.zeroValue263
 t85 := Tryz.underlying450
 a85 := Tryz.isAgg450
 z85 := Tryz.sizeOf450
 v85 := Tryz.zeroValue450
 t127 := Tryz.underlying331
 a127 := Tryz.isAgg331
 z127 := Tryz.sizeOf331
 v127 := Tryz.zeroValue331
 t143 := Tryz.underlying461
 a143 := Tryz.isAgg461
 z143 := Tryz.sizeOf461
 v143 := Tryz.zeroValue461
 t145 := Tryz.underlying463
 a145 := Tryz.isAgg463
 z145 := Tryz.sizeOf463
 v145 := Tryz.zeroValue463
 t167 := Tryz.underlying449
 a167 := Tryz.isAgg449
 z167 := Tryz.sizeOf449
 v167 := Tryz.zeroValue449
 t168 := Tryz.underlying452
 a168 := Tryz.isAgg452
 z168 := Tryz.sizeOf452
 v168 := Tryz.zeroValue452
 t171 := Tryz.underlying465
 a171 := Tryz.isAgg465
 z171 := Tryz.sizeOf465
 v171 := Tryz.zeroValue465
 t173 := Tryz.underlying468
 a173 := Tryz.isAgg468
 z173 := Tryz.sizeOf468
 v173 := Tryz.zeroValue468
 t175 := Tryz.underlying455
 a175 := Tryz.isAgg455
 z175 := Tryz.sizeOf455
 v175 := Tryz.zeroValue455
 t210 := Tryz.underlying458
 a210 := Tryz.isAgg458
 z210 := Tryz.sizeOf458
 v210 := Tryz.zeroValue458
 t212 := Tryz.underlying470
 a212 := Tryz.isAgg470
 z212 := Tryz.sizeOf470
 v212 := Tryz.zeroValue470
 t213 := Tryz.underlying471
 a213 := Tryz.isAgg471
 z213 := Tryz.sizeOf471
 t232 := Tryz.underlying474
 a232 := Tryz.isAgg474
 z232 := Tryz.sizeOf474
 v232 := Tryz.zeroValue474
 t233 := Tryz.underlying475
 a233 := Tryz.isAgg475
 z233 := Tryz.sizeOf475
 v233 := Tryz.zeroValue475
 g15 := by kernel_rfl
 g16 := by kernel_rfl
 g17 := by kernel_rfl
 g18 := by kernel_rfl
 g19 := by kernel_rfl
 t80 := Tryz.underlying203
 a80 := Tryz.isAgg203
 z80 := Tryz.sizeOf203
 v80 := Tryz.zeroValue203
 i0 := by kernel_rfl
 i2 := by kernel_rfl
 i3 := by kernel_rfl
 i4 := by kernel_rfl
 i5 := by kernel_rfl
 i9 := by kernel_rfl
 i20 := by kernel_rfl
 i21 := by kernel_rfl
 i37 := by kernel_rfl
 i46 := by kernel_rfl
 i51 := by kernel_rfl
 i53 := by kernel_rfl
 i75 := by kernel_rfl
 i76 := by kernel_rfl
 i80 := by kernel_rfl
 i85 := by kernel_rfl
 i127 := by kernel_rfl
 i143 := by kernel_rfl
 i145 := by kernel_rfl
 i167 := by kernel_rfl
 i168 := by kernel_rfl
 i171 := by kernel_rfl
 i173 := by kernel_rfl
 i175 := by kernel_rfl
 i210 := by kernel_rfl
 i212 := by kernel_rfl
 i232 := by kernel_rfl
 i233 := by kernel_rfl
 m15 := by kernel_rfl
 m16 := by kernel_rfl
 m17 := by kernel_rfl
 m18 := by kernel_rfl
 m19 := by kernel_rfl
 c0 := by kernel_rfl
 c2 := by kernel_rfl
 c3 := by kernel_rfl
 c4 := by kernel_rfl
 c5 := by kernel_rfl
 c9 := by kernel_rfl
 c20 := by kernel_rfl
 c21 := by kernel_rfl
 c37 := by kernel_rfl
 c46 := by kernel_rfl
 c51 := by kernel_rfl
 c53 := by kernel_rfl
 c75 := by kernel_rfl
 c76 := by kernel_rfl
 c80 := by kernel_rfl
 c85 := by kernel_rfl
 c127 := by kernel_rfl
 c143 := by kernel_rfl
 c145 := by kernel_rfl
 c167 := by kernel_rfl
 c168 := by kernel_rfl
 c171 := by kernel_rfl
 c173 := by kernel_rfl
 c175 := by kernel_rfl
 c210 := by kernel_rfl
 c212 := by kernel_rfl
 c213 := by kernel_rfl
 c232 := by kernel_rfl
 c233 := by kernel_rfl }
open Go.RowKit in
theorem Tryz.strconv_Atoi_ok (s : ByteArray) (hmax : s.size ≤ 9223372036854775806) (v : Int) (h : Lib.atoiAll s.data.toList = .ok v) (w : World) :
 Calls Tryz.prog 400 #[.string s] w fun e w' => e = .returned (.tuple #[.int .i64 v, .nilIface]) ∧ (w' = w ∨ ∃ t, w' = Lib.bytesWorld w 5 t) := Any.strconv_Atoi_ok Tryz.laysC172 s hmax v h w
def Tryz.lays219_ren : Go.Shelf.Ren := ⟨fun | 219 => 328 | 217 => 355 | 225 => 356 | 224 => 357 | 267 => 358 | 266 => 374 | 314 => 375 | n => n, fun | 9 => 9 | 3 => 3 | 4 => 4 | 5 => 5 | 46 => 288 | 146 => 431 | 51 => 430 | n => n, fun | 1 => 0 | n => n⟩
theorem Tryz.lays219 : Go.Proofs.Lays.n219 Tryz.prog Tryz.lays219_ren := {
 mixed := by kernel_rfl
 f217 := Tryz.func355.trans (congrArg some (by kernel_rfl))
 f219 := Tryz.func328.trans (congrArg some (by kernel_rfl))
 f224 := Tryz.func357.trans (congrArg some (by kernel_rfl))
 f225 := Tryz.func356.trans (congrArg some (by kernel_rfl))
 f266 := Tryz.func374.trans (congrArg some (by kernel_rfl))
 f267 := Tryz.func358.trans (congrArg some (by kernel_rfl))
 f314 := Tryz.func375.trans (congrArg some (by kernel_rfl))
 t3 := Tryz.underlying3
 a3 := Tryz.isAgg3
 z3 := Tryz.sizeOf3
 v3 := Tryz.zeroValue3
 t4 := Tryz.underlying4
 a4 := Tryz.isAgg4
 z4 := Tryz.sizeOf4
 v4 := Tryz.zeroValue4
 t5 := Tryz.underlying5
 a5 := Tryz.isAgg5
 z5 := Tryz.sizeOf5
 v5 := Tryz.zeroValue5
 t9 := Tryz.underlying9
 a9 := Tryz.isAgg9
 z9 := Tryz.sizeOf9
 v9 := Tryz.zeroValue9
 t46 := Tryz.underlying288
 a46 := Tryz.isAgg288
 z46 := Tryz.sizeOf288
 v46 := Tryz.zeroValue288
 t51 := Tryz.underlying430
 a51 := Tryz.isAgg430
 z51 := Tryz.sizeOf430
 v51 := Tryz.zeroValue430
 t146 := Tryz.underlying431
 a146 := Tryz.isAgg431
 z146 := Tryz.sizeOf431
 v146 := Tryz.zeroValue431
 g1 := by kernel_rfl }
open Go.RowKit Go.Lib in
theorem Tryz.stringslite_Index_one (s : ByteArray) (c : UInt8) (w : World) :
 Calls Tryz.prog 328 #[.string s, .string ⟨#[c]⟩] w fun e w' => e = .returned (.int .i64 (Lib.indexByte s.data.toList c)) ∧ w' = w := Any.stringslite_Index_one Tryz.lays219 s c w
open Go.RowKit Go.Lib in
def Tryz.lays100_ren : Go.Shelf.Ren := ⟨fun | 100 => 250 | 207 => 290 | n => n, fun | 9 => 9 | 4 => 4 | 3 => 3 | n => n, fun | n => n⟩
theorem Tryz.lays100 : Go.Proofs.Lays.n100 Tryz.prog Tryz.lays100_ren := {
 mixed := by kernel_rfl
 f100 := Tryz.func250.trans (congrArg some (by kernel_rfl))
 f207 := Tryz.func290.trans (congrArg some (by kernel_rfl))
 t3 := Tryz.underlying3
 a3 := Tryz.isAgg3
 z3 := Tryz.sizeOf3
 v3 := Tryz.zeroValue3
 t4 := Tryz.underlying4
 a4 := Tryz.isAgg4
 z4 := Tryz.sizeOf4
 v4 := Tryz.zeroValue4
 t9 := Tryz.underlying9
 a9 := Tryz.isAgg9
 z9 := Tryz.sizeOf9
 v9 := Tryz.zeroValue9 }
open Go.RowKit Go.Lib in
theorem Tryz.strings_HasSuffix (s p : ByteArray) (w : World) (hs : s.size ≤ 9223372036854775807) :
 Calls Tryz.prog 250 #[.string s, .string p] w fun e w' => e = .returned (.bool (Lib.hasSuffix s.data.toList p.data.toList)) ∧ w' = w := Any.strings_HasSuffix Tryz.lays100 s p w hs
end Go.Proofs.YtjeigphhepngmaaGreatDoor
