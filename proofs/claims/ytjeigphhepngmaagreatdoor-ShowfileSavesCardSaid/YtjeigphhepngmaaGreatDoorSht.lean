/- -/
import Derived.Shelf.Strings.Builder1
import Derived.Shelf.Strings.Trim
import Derived.Shelf.Small.Utf8
import Derived.Shelf.Small.Strs
import Derived.Shelf.Strings.BuilderF
import Derived.Shelf.Strings.BuilderK
import Derived.Shelf.Strconv.Atoi
import Derived.Shelf.Strconv.AtoiErrFast
import Derived.Shelf.Strconv.ParseIntEmpty
import Derived.Shelf.Strconv.AtoiFail
import Derived.Shelf.LaysM
import Derived.Shelf.Strconv.Clone
import Derived.Shelf.Strconv.SyntaxError
import Derived.Shelf.LaysC
import Derived.Shelf.Strconv.ToError
import Derived.Shelf.Strconv.Lower
import Derived.Shelf.Strconv.ParseUint10
import Derived.Shelf.Strconv.ParseUint10Empty
import Derived.Shelf.Strconv.ParseUint10Any
import Derived.Shelf.Strconv.ParseInt10
import Derived.Shelf.Strconv.AtoiLong
import Derived.Shelf.Strconv.AtoiInnerAll
import Derived.Shelf.Strconv.RangeError
import Derived.Shelf.Strconv.ToErrorRange
import Derived.Shelf.Strconv.AtoiAll
import Derived.Shelf.Strings.Search1
import Derived.Shelf.Strings.Search2
import Derived.Shelf.Strings.Cut
import Derived.Shelf.Strings.Shaped
import Derived.Shelf.Strings.Prefix
import Derived.Shelf.Strings.Runes
import Derived.Shelf.Strings.AsciiSet
import Derived.Shelf.Unicode.DecodeSlow
import Derived.Shelf.Strings.SlTrimAscii
import Derived.Test.YtjeigphhepngmaaGreatDoorProg
namespace Go.Proofs.YtjeigphhepngmaaGreatDoor
open Go.RowKit in
open Go.Shelf
set_option maxHeartbeats 8000000
set_option maxRecDepth 100000
def Tryz.lays160_ren : Go.Shelf.Ren := ⟨fun | 160 => 330 | 232 => 361 | 231 => 360 | 227 => 362 | 234 => 364 | 233 => 363 | 236 => 366 | 235 => 365 | 228 => 376 | 271 => 379 | 151 => 378 | 197 => 377 | 120 => 389 | 152 => 388 | 260 => 387 | 137 => 397 | 119 => 398 | 224 => 357 | 225 => 356 | 217 => 355 | 266 => 374 | n => n, fun | 9 => 9 | 4 => 4 | 3 => 3 | 5 => 5 | 117 => 420 | 116 => 419 | 0 => 0 | 124 => 423 | 21 => 21 | 105 => 434 | 46 => 288 | 119 => 443 | 139 => 446 | 138 => 445 | n => n, fun | 3 => 1 | 4 => 2 | n => n⟩
theorem Tryz.lays160 : Go.Proofs.Lays.n160 Tryz.prog Tryz.lays160_ren := {
 mixed := by kernel_rfl
 f119 := Tryz.func398.trans (congrArg some (by kernel_rfl))
 f120 := Tryz.func389.trans (congrArg some (by kernel_rfl))
 f137 := Tryz.func397.trans (congrArg some (by kernel_rfl))
 f151 := Tryz.func378.trans (congrArg some (by kernel_rfl))
 f152 := Tryz.func388.trans (congrArg some (by kernel_rfl))
 f160 := Tryz.func330.trans (congrArg some (by kernel_rfl))
 f197 := Tryz.func377.trans (congrArg some (by kernel_rfl))
 f217 := Tryz.func355.trans (congrArg some (by kernel_rfl))
 f224 := Tryz.func357.trans (congrArg some (by kernel_rfl))
 f225 := Tryz.func356.trans (congrArg some (by kernel_rfl))
 f227 := Tryz.func362.trans (congrArg some (by kernel_rfl))
 f228 := Tryz.func376.trans (congrArg some (by kernel_rfl))
 f231 := Tryz.func360.trans (congrArg some (by kernel_rfl))
 f232 := Tryz.func361.trans (congrArg some (by kernel_rfl))
 f233 := Tryz.func363.trans (congrArg some (by kernel_rfl))
 f234 := Tryz.func364.trans (congrArg some (by kernel_rfl))
 f235 := Tryz.func365.trans (congrArg some (by kernel_rfl))
 f236 := Tryz.func366.trans (congrArg some (by kernel_rfl))
 f260 := Tryz.func387.trans (congrArg some (by kernel_rfl))
 f266 := Tryz.func374.trans (congrArg some (by kernel_rfl))
 f271 := Tryz.func379.trans (congrArg some (by kernel_rfl))
 t0 := Tryz.underlying0
 a0 := Tryz.isAgg0
 z0 := Tryz.sizeOf0
 v0 := Tryz.zeroValue0
 t3 := Tryz.underlying3
 a3 := Tryz.isAgg3
 z3 := Tryz.sizeOf3
 v3 := Tryz.zeroValue3
 t4 := Tryz.underlying4
 a4 := Tryz.isAgg4
 z4 := Tryz.sizeOf4
 v4 := Tryz.zeroValue4
 t5 := Tryz.underlying5
 a5 := Tryz.isAgg5
 z5 := Tryz.sizeOf5
 v5 := Tryz.zeroValue5
 t9 := Tryz.underlying9
 a9 := Tryz.isAgg9
 z9 := Tryz.sizeOf9
 v9 := Tryz.zeroValue9
 t21 := Tryz.underlying21
 a21 := Tryz.isAgg21
 z21 := Tryz.sizeOf21
 v21 := Tryz.zeroValue21
 t46 := Tryz.underlying288
 a46 := Tryz.isAgg288
 z46 := Tryz.sizeOf288
 v46 := Tryz.zeroValue288
 t105 := Tryz.underlying434
 a105 := Tryz.isAgg434
 z105 := Tryz.sizeOf434
 v105 := Tryz.zeroValue434
 t116 := Tryz.underlying419
 a116 := Tryz.isAgg419
 z116 := Tryz.sizeOf419
 t117 := Tryz.underlying420
 a117 := Tryz.isAgg420
 z117 := Tryz.sizeOf420
 v117 := Tryz.zeroValue420
 t119 := Tryz.underlying443
 a119 := Tryz.isAgg443
 z119 := Tryz.sizeOf443
 t124 := Tryz.underlying423
 a124 := Tryz.isAgg423
 z124 := Tryz.sizeOf423
 v124 := Tryz.zeroValue423
 t138 := Tryz.underlying445
 a138 := Tryz.isAgg445
 z138 := Tryz.sizeOf445
 v138 := Tryz.zeroValue445
 t139 := Tryz.underlying446
 a139 := Tryz.isAgg446
 z139 := Tryz.sizeOf446
 v139 := Tryz.zeroValue446
 g3 := by kernel_rfl
 g4 := by kernel_rfl }
open Go.RowKit in
theorem Tryz.strings_Trim_ascii (s cutset : ByteArray) (w : World) (hs : s.size ≤ 9223372036854775807) (hcs : cutset.size < 4294967281) (hascii : ∀ (j : Nat) b, cutset.data.toList[j]? = some b → b.toNat < 128) :
 Calls Tryz.prog 330 #[.string s, .string cutset] w fun e w' => e = .returned (.string ⟨(Lib.trimS s.data.toList cutset.data.toList).toArray⟩) ∧ Below w.heap.size w w' := Any.strings_Trim_laid Tryz.lays160 (by kernel_rfl) s cutset w hs hcs hascii
end Go.Proofs.YtjeigphhepngmaaGreatDoor
