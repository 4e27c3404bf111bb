/- eponymlaw15.awake, in the form in which the printed functions are told. -/
import Derived.Test.YtanbnlobbgfidaaDoorPAsx0
import Derived.Test.YtanbnlobbgfidaaDoorAw
namespace Go.Proofs.YtanbnlobbgfidaaDoor.PAs
open Go.RowKit
/-- What the calls want of the world in which they begin. -/
def GInv (w : World) : Prop := AInv w
theorem GInv.below {w w' : World} (h : GInv w) (hb : Below w.heap.size w w') : GInv w' := AInv.below h hb
theorem GInv.drewN {w : World} (h : GInv w) (n : Nat) : GInv (w.drewN n) := AInv.drewN h n
def eponymlaw15_awake.f : Option Bool := some true
theorem eponymlaw15_awake.calls (r : Bool) (w : World) (hG : GInv w) (h : eponymlaw15_awake.f = some r) :
    Calls Tryd.prog 5 #[] w fun e w' => e = .returned (.bool r) ∧ Below w.heap.size w w' := by
  injection h with h
  subst h
  exact awake_any w hG
end Go.Proofs.YtanbnlobbgfidaaDoor.PAs
