/- The table of the powers of ten, from what is laid. -/
import Derived.Test.YtanbnlobbgfidaaGreatDoorOs
import Derived.Test.YtanbnlobbgfidaaGreatDoorFu
namespace Go.Proofs.YtanbnlobbgfidaaGreatDoor
open Go.ChangeShapes Go.WideShapes Go.RowKit Go.Lib
theorem pow10_of_laid {W : World} (h : laidMetH Tryz.prog Rows.asnUnionsRow.laid W) : Pow10 W := by
  obtain ⟨⟨ps, hv, hnd, hok⟩, -⟩ := parted_ h
  obtain ⟨g0, t0, cs0, f0, p0, q0, hg0, ht0, hv0, hd0, ⟨g1, t1, cs1, f1, p1, q1, hg1, ht1, hv1, hd1, ⟨g2, t2, cs2, f2, p2, q2, hg2, ht2, hv2, hd2, -, -⟩, -⟩, -⟩ := hv
  have hg : Tryz.prog.globalNamed "internal/strconv.uint64pow10" = some 20 := by kernel_rfl
  obtain rfl := Option.some.inj (hg.symm.trans hg2)
  have hty : (Tryz.prog.globals[20]?).map (·.type) = some 139 := by kernel_rfl
  obtain rfl := Option.some.inj (hty.symm.trans ht2)
  unfold Pow10 Lib.TabIs
  rw [hv2, ← Lib.cells_of_tab (k := .u64) (zs := Lib.pow10Tab) Tryz.underlying139 Tryz.underlying33 (by kernel_rfl) (by kernel_rfl) hd2]
end Go.Proofs.YtanbnlobbgfidaaGreatDoor
