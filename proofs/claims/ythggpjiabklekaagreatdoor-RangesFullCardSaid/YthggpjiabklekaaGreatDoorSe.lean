/- The library's contracts of generic functions at this program's types: which number is which (written by layg.py out of the kit's command). -/
import Derived.Shelf.SlSorted.Search
import Derived.Test.YthggpjiabklekaaGreatDoorProg
namespace Go.Proofs
open Go.Shelf
def Tryz.searchL_ren : Go.Shelf.Ren := ⟨fun | 16 => 27 | n => n, fun | 3 => 3 | 35 => 55 | 4 => 4 | 38 => 87 | n => n, fun | n => n⟩
theorem Tryz.searchL : Go.Proofs.SlLaysO.n16 Tryz.prog Tryz.searchL_ren := {
  mixed := by kernel_rfl
  f16 := Tryz.func27.trans (congrArg some (by kernel_rfl))
  t3 := Tryz.underlying3
  a3 := Tryz.isAgg3
  z3 := Tryz.sizeOf3
  v3 := Tryz.zeroValue3
  t4 := Tryz.underlying4
  a4 := Tryz.isAgg4
  z4 := Tryz.sizeOf4
  v4 := Tryz.zeroValue4
  t35 := Tryz.underlying55
  a35 := Tryz.isAgg55
  z35 := Tryz.sizeOf55
  v35 := Tryz.zeroValue55
  t38 := Tryz.underlying87
  a38 := Tryz.isAgg87
  z38 := Tryz.sizeOf87
  v38 := Tryz.zeroValue87 }
end Go.Proofs
