/- What the walks want, out of what is laid. -/
import Derived.Test.YthggpjiabklekaaGreatDoorLb
import Derived.Test.YthggpjiabklekaaGreatDoorPl
namespace Go.Proofs.YthggpjiabklekaaGreatDoor
open Go.ChangeShapes Go.WideShapes Go.RowKit Go.Lib
theorem pow10_of_laid {W : World} (h : laidMetH Tryz.prog Rows.rangesFindsRow.laid W) : Pow10 W := by
  obtain ⟨⟨ps, hv, hnd, hok⟩, -⟩ := parted_ h
  obtain ⟨g0, t0, cs0, f0, p0, q0, hg0, ht0, hv0, hd0, ⟨g1, t1, cs1, f1, p1, q1, hg1, ht1, hv1, hd1, ⟨g2, t2, cs2, f2, p2, q2, hg2, ht2, hv2, hd2, -, -⟩, -⟩, -⟩ := hv
  have hg : Tryz.prog.globalNamed "internal/strconv.uint64pow10" = some 23 := by kernel_rfl
  obtain rfl := Option.some.inj (hg.symm.trans hg2)
  have hty : (Tryz.prog.globals[23]?).map (·.type) = some 187 := by kernel_rfl
  obtain rfl := Option.some.inj (hty.symm.trans ht2)
  unfold Pow10 Lib.TabIs
  rw [hv2, ← Lib.cells_of_tab (k := .u64) (zs := Lib.pow10Tab) Tryz.underlying187 Tryz.underlying143 (by kernel_rfl) (by kernel_rfl) hd2]
/-- The table that math/bits counts zeros by. -/
def tzTab : List Int := [0, 1, 56, 2, 57, 49, 28, 3, 61, 58, 42, 50, 38, 29, 17, 4, 62, 47, 59, 36, 45, 43, 51, 22, 53, 39, 33, 30, 24, 18, 12, 5, 63, 55, 48, 27, 60, 41, 37, 16, 46, 35, 44, 21, 52, 32, 23, 11, 54, 26, 40, 15, 34, 20, 31, 10, 25, 14, 19, 9, 13, 8, 7, 6]
theorem tz_of_laid {W : World} (h : laidMetH Tryz.prog Rows.rangesFindsRow.laid W) : Tz W := by
  obtain ⟨⟨ps, hv, hnd, hok⟩, -⟩ := parted_ h
  obtain ⟨g0, t0, cs0, f0, p0, q0, hg0, ht0, hv0, hd0, ⟨g1, t1, cs1, f1, p1, q1, hg1, ht1, hv1, hd1, -, -⟩, -⟩ := hv
  have hg : Tryz.prog.globalNamed "math/bits.deBruijn64tab" = some 27 := by kernel_rfl
  obtain rfl := Option.some.inj (hg.symm.trans hg1)
  have hty : (Tryz.prog.globals[27]?).map (·.type) = some 204 := by kernel_rfl
  obtain rfl := Option.some.inj (hty.symm.trans ht1)
  have hT : Lib.TabIs Tryz.prog W "math/bits.deBruijn64tab" .u8 tzTab := by
    unfold Lib.TabIs
    rw [hv1, ← Lib.cells_of_tab (k := .u8) (zs := tzTab) Tryz.underlying204 Tryz.underlying5 (by kernel_rfl) (by kernel_rfl) hd1]
  have hc := hT.cell hg 15 (by decide)
  exact hc
theorem rinv_of_laid {W : World} (h : laidMetH Tryz.prog Rows.rangesFindsRow.laid W) (hsh : W.ShapedOpen Tryz.prog) : RInv W :=
  ⟨is_of_laid h, tz_of_laid h, pow10_of_laid h, Tryz.laysM145.s1_3 W hsh⟩
end Go.Proofs.YthggpjiabklekaaGreatDoor
