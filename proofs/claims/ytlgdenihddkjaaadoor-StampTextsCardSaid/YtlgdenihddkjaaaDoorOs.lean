/- A stamp that came in: its two numbers. -/
import Derived.Test.YtlgdenihddkjaaaDoorLb
import Derived.Lib.SmallJoins
import Derived.ChangeArms
namespace Go.Proofs.YtlgdenihddkjaaaDoor
open Go.ChangeShapes Go.WideShapes Go.RowKit Go.Joins
set_option maxRecDepth 100000 in
theorem open_stamp {H : Type} {enc : TypeId × Value → H} {W : World} {r : Reach} {b0 : Nat} {v : Value} {d : DataW H} {p : List MemPlace} (hv : Value.okWide Tryd.prog W r b0 31 v) (h : DataW.Trod enc Tryd.prog W 0 (fun _ => true) true 31 v d p) :
    ∃ (x y : Int), v = .agg #[.int .i64 x, .int .i64 y] ∧ True := by
  obtain ⟨c0, c1, y0, y1, n, rfl, _, _, h0, h1⟩ := open_agg2 Tryd.underlying31 (by kernel_rfl) (by kernel_rfl) hv h
  obtain ⟨x, e0, _⟩ := DataW.trod_int Tryd.underlying2 h0
  obtain ⟨y, e1, _⟩ := DataW.trod_int Tryd.underlying3 h1
  obtain rfl : c0 = .int .i64 x := by injection e0
  obtain rfl : c1 = .int .i64 y := by injection e1
  exact ⟨x, y, rfl, trivial⟩
end Go.Proofs.YtlgdenihddkjaaaDoor
