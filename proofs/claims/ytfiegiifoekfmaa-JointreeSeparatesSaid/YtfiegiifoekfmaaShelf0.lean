/- Written by the kit's lay-shelf and lay-plain for this seat: the shelf's table of numbers for math/bits.Len. -/
import Derived.Test.YtfiegiifoekfmaaProg
import Derived.Shelf.Small.Bits
namespace Go.Proofs
open Go.Shelf
def Ytfiegiifoekfmaa.lays125_ren : Go.Shelf.Ren := ⟨fun | 125 => 38 | 128 => 51 | 129 => 52 | n => n, fun | 46 => 69 | 3 => 3 | 51 => 44 | 53 => 70 | 4 => 4 | 5 => 5 | 9 => 9 | n => n, fun | n => n⟩
theorem Ytfiegiifoekfmaa.lays125 : Go.Proofs.Lays.n125 Try.prog Ytfiegiifoekfmaa.lays125_ren := {
  mixed := by kernel_rfl
  f125 := Try.func38.trans (congrArg some (by kernel_rfl))
  f128 := Try.func51.trans (congrArg some (by kernel_rfl))
  f129 := Try.func52.trans (congrArg some (by kernel_rfl))
  t3 := Try.underlying3
  a3 := Try.isAgg3
  z3 := Try.sizeOf3
  v3 := Try.zeroValue3
  t4 := Try.underlying4
  a4 := Try.isAgg4
  z4 := Try.sizeOf4
  v4 := Try.zeroValue4
  t5 := Try.underlying5
  a5 := Try.isAgg5
  z5 := Try.sizeOf5
  v5 := Try.zeroValue5
  t9 := Try.underlying9
  a9 := Try.isAgg9
  z9 := Try.sizeOf9
  v9 := Try.zeroValue9
  t46 := Try.underlying69
  a46 := Try.isAgg69
  z46 := Try.sizeOf69
  v46 := Try.zeroValue69
  t51 := Try.underlying44
  a51 := Try.isAgg44
  z51 := Try.sizeOf44
  v51 := Try.zeroValue44
  t53 := Try.underlying70
  a53 := Try.isAgg70
  z53 := Try.sizeOf70
  v53 := Try.zeroValue70 }
end Go.Proofs
