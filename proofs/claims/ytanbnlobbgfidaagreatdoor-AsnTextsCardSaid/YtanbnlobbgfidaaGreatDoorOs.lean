/- A span that came in: its two numbers. -/
import Derived.Test.YtanbnlobbgfidaaGreatDoorLb
import Derived.Test.YtanbnlobbgfidaaGreatDoorNu
import Derived.Lib.SmallJoins
import Derived.ChangeArms
namespace Go.Proofs.YtanbnlobbgfidaaGreatDoor
open Go.ChangeShapes Go.WideShapes Go.RowKit Go.Joins
set_option maxRecDepth 100000 in
theorem open_span {H : Type} {enc : TypeId × Value → H} {W : World} {r : Reach} {b0 : Nat} {v : Value} {d : DataW H} {p : List MemPlace} (hv : Value.okWide Tryz.prog W r b0 28 v) (h : DataW.Trod enc Tryz.prog W 0 (fun _ => true) true 28 v d p) :
    ∃ (x y : Int), v = .agg #[.int .u32 x, .int .u32 y] ∧ (0 ≤ x ∧ x < 4294967296 ∧ 0 ≤ y ∧ y < 4294967296) := by
  obtain ⟨c0, c1, y0, y1, n, rfl, _, _, h0, h1⟩ := open_agg2 Tryz.underlying28 (by kernel_rfl) (by kernel_rfl) hv h
  obtain ⟨x, e0, _, w0⟩ := DataW.trod_int Tryz.underlying26 h0
  obtain ⟨y, e1, _, w1⟩ := DataW.trod_int Tryz.underlying26 h1
  obtain rfl : c0 = .int .u32 x := by injection e0
  obtain rfl : c1 = .int .u32 y := by injection e1
  simp [Lit.wf, IntKind.min, IntKind.max, IntKind.signed, IntKind.bits] at w0 w1
  exact ⟨x, y, rfl, by omega, by omega, by omega, by omega⟩
theorem inv_of_laid {W : World} (h : laidMetH Tryz.prog Rows.asnUnionsRow.laid W) (hsh : W.ShapedOpen Tryz.prog) : AInv W :=
  ⟨is_of_laid h, let ⟨_, ha⟩ := exErrRange_of_laid h; ⟨_, _, ha⟩, Tryz.laysM145.s1_3 W hsh⟩
end Go.Proofs.YtanbnlobbgfidaaGreatDoor
