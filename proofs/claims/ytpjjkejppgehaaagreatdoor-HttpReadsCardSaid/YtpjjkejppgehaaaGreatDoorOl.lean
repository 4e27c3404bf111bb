/- What the reading wants, out of what is laid. -/
import Derived.Test.YtpjjkejppgehaaaGreatDoorLb
import Derived.Test.YtpjjkejppgehaaaGreatDoorRd
namespace Go.Proofs.YtpjjkejppgehaaaGreatDoor
open Go.ChangeShapes Go.WideShapes Go.RowKit Go.Lib
theorem pow10_of_laid {W : World} (h : laidMetH Tryz.prog Rows.httpReadsRow.laid W) : Pow10 W := by
  obtain ⟨⟨ps, hv, hnd, hok⟩, -⟩ := parted_ h
  obtain ⟨g0, t0, cs0, f0, p0, q0, hg0, ht0, hv0, hd0, ⟨g1, t1, cs1, f1, p1, q1, hg1, ht1, hv1, hd1, ⟨g2, t2, cs2, f2, p2, q2, hg2, ht2, hv2, hd2, -, -⟩, -⟩, -⟩ := hv
  have hg : Tryz.prog.globalNamed "internal/strconv.uint64pow10" = some 22 := by kernel_rfl
  obtain rfl := Option.some.inj (hg.symm.trans hg2)
  have hty : (Tryz.prog.globals[22]?).map (·.type) = some 154 := by kernel_rfl
  obtain rfl := Option.some.inj (hty.symm.trans ht2)
  unfold Pow10 Lib.TabIs
  rw [hv2, ← Lib.cells_of_tab (k := .u64) (zs := Lib.pow10Tab) Tryz.underlying154 Tryz.underlying139 (by kernel_rfl) (by kernel_rfl) hd2]
theorem rinv_of_laid {W : World} (h : laidMetH Tryz.prog Rows.httpReadsRow.laid W) (hsh : W.ShapedOpen Tryz.prog) : RInv W :=
  ⟨is_of_laid h, pow10_of_laid h, Tryz.laysM145.s1_3 W hsh, let ⟨_, ha⟩ := exErrSyntax_of_laid h; ⟨_, _, ha⟩⟩
end Go.Proofs.YtpjjkejppgehaaaGreatDoor
