/- The library's contracts of generic functions at this program's types: which number is which (written by layg.py out of the kit's command). -/
import Derived.Shelf.SlSorted.Search
import Derived.Test.YtanbnlobbgfidaaGreatDoorProg
namespace Go.Proofs
open Go.Shelf
def Tryz.searchL_ren : Go.Shelf.Ren := ⟨fun | 16 => 32 | n => n, fun | 3 => 3 | 35 => 63 | 4 => 4 | 38 => 66 | n => n, fun | n => n⟩
theorem Tryz.searchL : Go.Proofs.SlLaysO.n16 Tryz.prog Tryz.searchL_ren := {
  mixed := by kernel_rfl
  f16 := Tryz.func32.trans (congrArg some (by kernel_rfl))
  t3 := Tryz.underlying3
  a3 := Tryz.isAgg3
  z3 := Tryz.sizeOf3
  v3 := Tryz.zeroValue3
  t4 := Tryz.underlying4
  a4 := Tryz.isAgg4
  z4 := Tryz.sizeOf4
  v4 := Tryz.zeroValue4
  t35 := Tryz.underlying63
  a35 := Tryz.isAgg63
  z35 := Tryz.sizeOf63
  v35 := Tryz.zeroValue63
  t38 := Tryz.underlying66
  a38 := Tryz.isAgg66
  z38 := Tryz.sizeOf66
  v38 := Tryz.zeroValue66 }
end Go.Proofs
