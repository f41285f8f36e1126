/- Written by the kit's lay-plain for this seat: the shelf's tables of numbers. -/
import Derived.Shelf.Small.Strs
import Derived.Shelf.Small.Wraps
import Derived.Shelf.SlicesE.Clone
import Derived.Shelf.SlSorted.Search
import Derived.Shelf.SlCmpFuncs.IsSortedFunc
import Derived.Shelf.SlCmpFuncs.None
import Derived.Test.YtiopkooigeaneaaProg
namespace Go.Proofs
open Go.Shelf
def Ytiopkooigeaneaa.lStrCmp_ren : Go.Shelf.Ren := ⟨fun | 106 => 86 | 213 => 93 | 265 => 104 | n => n, fun | 9 => 9 | 3 => 3 | n => n, fun | n => n⟩
theorem Ytiopkooigeaneaa.lStrCmp : Go.Proofs.Lays.n106 Try.prog Ytiopkooigeaneaa.lStrCmp_ren := {
  mixed := by kernel_rfl
  f106 := Try.func86.trans (congrArg some (by kernel_rfl))
  f213 := Try.func93.trans (congrArg some (by kernel_rfl))
  f265 := Try.func104.trans (congrArg some (by kernel_rfl))
  t3 := Try.underlying3
  a3 := Try.isAgg3
  z3 := Try.sizeOf3
  v3 := Try.zeroValue3
  t9 := Try.underlying9
  a9 := Try.isAgg9
  z9 := Try.sizeOf9
  v9 := Try.zeroValue9 }
def Ytiopkooigeaneaa.lCmpInt_ren : Go.Shelf.Ren := ⟨fun | 122 => 84 | 215 => 91 | n => n, fun | 3 => 3 | 4 => 4 | n => n, fun | n => n⟩
theorem Ytiopkooigeaneaa.lCmpInt : Go.Proofs.Lays.n122 Try.prog Ytiopkooigeaneaa.lCmpInt_ren := {
  mixed := by kernel_rfl
  f122 := Try.func84.trans (congrArg some (by kernel_rfl))
  f215 := Try.func91.trans (congrArg some (by kernel_rfl))
  t3 := Try.underlying3
  a3 := Try.isAgg3
  z3 := Try.sizeOf3
  v3 := Try.zeroValue3
  t4 := Try.underlying4
  a4 := Try.isAgg4
  z4 := Try.sizeOf4
  v4 := Try.zeroValue4 }
def Ytiopkooigeaneaa.lSearch_ren : Go.Shelf.Ren := ⟨fun | 16 => 54 | n => n, fun | 3 => 3 | 35 => 92 | 4 => 4 | 38 => 113 | n => n, fun | n => n⟩
theorem Ytiopkooigeaneaa.lSearch : Go.Proofs.SlLaysO.n16 Try.prog Ytiopkooigeaneaa.lSearch_ren := {
  mixed := by kernel_rfl
  f16 := Try.func54.trans (congrArg some (by kernel_rfl))
  t3 := Try.underlying3
  a3 := Try.isAgg3
  z3 := Try.sizeOf3
  v3 := Try.zeroValue3
  t4 := Try.underlying4
  a4 := Try.isAgg4
  z4 := Try.sizeOf4
  v4 := Try.zeroValue4
  t35 := Try.underlying92
  a35 := Try.isAgg92
  z35 := Try.sizeOf92
  v35 := Try.zeroValue92
  t38 := Try.underlying113
  a38 := Try.isAgg113
  z38 := Try.sizeOf113
  v38 := Try.zeroValue113 }
def Ytiopkooigeaneaa.lIsSorted_ren : Go.Shelf.Ren := ⟨fun | 7 => 79 | n => n, fun | 22 => 22 | 24 => 24 | 25 => 108 | 4 => 4 | 3 => 3 | 0 => 0 | n => n, fun | n => n⟩
theorem Ytiopkooigeaneaa.lIsSorted : Go.Proofs.SlLaysG2.n7 Try.prog Ytiopkooigeaneaa.lIsSorted_ren := {
  mixed := by kernel_rfl
  f7 := ⟨Try.f79.name, by decide, Try.func79.trans (congrArg some (by kernel_rfl))⟩
  t0 := Try.underlying0
  a0 := Try.isAgg0
  z0 := Try.sizeOf0
  v0 := Try.zeroValue0
  t3 := Try.underlying3
  a3 := Try.isAgg3
  z3 := Try.sizeOf3
  v3 := Try.zeroValue3
  t4 := Try.underlying4
  a4 := Try.isAgg4
  z4 := Try.sizeOf4
  v4 := Try.zeroValue4
  t22 := Try.underlying22
  a22 := Try.isAgg22
  z22 := Try.sizeOf22
  v22 := Try.zeroValue22
  a24 := Try.isAgg24
  z24 := Try.sizeOf24
  t25 := Try.underlying108
  a25 := Try.isAgg108
  z25 := Try.sizeOf108
  v25 := Try.zeroValue108 }
def Ytiopkooigeaneaa.lCloneRow_ren : Go.Shelf.Ren := ⟨fun | 41 => 62 | n => n, fun | 22 => 24 | 23 => 60 | 4 => 4 | n => n, fun | n => n⟩
theorem Ytiopkooigeaneaa.lCloneRow : Go.Proofs.SlLaysE0.n41 Try.prog Ytiopkooigeaneaa.lCloneRow_ren := {
  mixed := by kernel_rfl
  f41 := ⟨Try.f62.name, by decide, Try.func62.trans (congrArg some (by kernel_rfl))⟩
  t4 := Try.underlying4
  a4 := Try.isAgg4
  z4 := Try.sizeOf4
  v4 := Try.zeroValue4
  t22 := Try.underlying24
  a22 := Try.isAgg24
  z22 := Try.sizeOf24
  v22 := Try.zeroValue24 }
def Ytiopkooigeaneaa.lCloneRows_ren : Go.Shelf.Ren := ⟨fun | 41 => 60 | n => n, fun | 22 => 22 | 23 => 24 | 4 => 4 | n => n, fun | n => n⟩
theorem Ytiopkooigeaneaa.lCloneRows : Go.Proofs.SlLaysE0.n41 Try.prog Ytiopkooigeaneaa.lCloneRows_ren := {
  mixed := by kernel_rfl
  f41 := ⟨Try.f60.name, by decide, Try.func60.trans (congrArg some (by kernel_rfl))⟩
  t4 := Try.underlying4
  a4 := Try.isAgg4
  z4 := Try.sizeOf4
  v4 := Try.zeroValue4
  t22 := Try.underlying22
  a22 := Try.isAgg22
  z22 := Try.sizeOf22
  v22 := Try.zeroValue22 }
end Go.Proofs
