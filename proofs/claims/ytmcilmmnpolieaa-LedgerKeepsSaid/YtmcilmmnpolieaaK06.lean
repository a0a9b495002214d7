/- The insertion sort's laying at this dump, laid off the shelf by its own tool in plain words. Each theorem's premises are its conditions. -/
import Derived.Shelf.SlGeneric
import Derived.Shelf.SlSortCmp.InsertionK
import Derived.Ground.SlsfProg
import Derived.Ground.NamesProg
import Derived.Test.YtmcilmmnpolieaaProg
/- The insertion sort's laying at this dump, laid off the shelf by its own tool in plain words. Each theorem's premises are its conditions. -/
namespace Go.Proofs
open Go.Shelf
def Try.insC_ren : Go.Shelf.Ren := ⟨fun | 20 => 67 | n => n, fun | 24 => 56 | 22 => 44 | 3 => 3 | 25 => 85 | 4 => 4 | 0 => 0 | n => n, fun | n => n⟩
theorem Try.insC : Go.Proofs.SlLaysF0.n20 Try.prog Try.insC_ren := {
  mixed := by kernel_rfl
  f20 := ⟨Try.f67.name, by decide, Try.func67.trans (congrArg some (by kernel_rfl))⟩
  t0 := Try.underlying0
  a0 := Try.isAgg0
  z0 := Try.sizeOf0
  v0 := Try.zeroValue0
  t3 := Try.underlying3
  a3 := Try.isAgg3
  z3 := Try.sizeOf3
  v3 := Try.zeroValue3
  t4 := Try.underlying4
  a4 := Try.isAgg4
  z4 := Try.sizeOf4
  v4 := Try.zeroValue4
  t22 := Try.underlying44
  a22 := Try.isAgg44
  z22 := Try.sizeOf44
  v22 := Try.zeroValue44
  t25 := Try.underlying85
  a25 := Try.isAgg85
  z25 := Try.sizeOf85
  v25 := Try.zeroValue85 }
end Go.Proofs
