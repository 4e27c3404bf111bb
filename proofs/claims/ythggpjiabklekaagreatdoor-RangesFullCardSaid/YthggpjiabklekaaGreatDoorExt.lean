/- awake and ranges.Find in the form in which the other functions are told. -/
import Derived.Test.YthggpjiabklekaaGreatDoorPRgx0
import Derived.Test.YthggpjiabklekaaGreatDoorPm
namespace Go.Proofs.YthggpjiabklekaaGreatDoor.PRg
set_option linter.unusedSimpArgs false
set_option linter.unusedVariables false
open Go.RowKit Go.Proofs.YthggpjiabklekaaGreatDoorW.PrintWords Go.Proofs.YthggpjiabklekaaGreatDoorW.PrintLast Go.Proofs.YthggpjiabklekaaGreatDoorW.PrintMore

/-- What the walk wants of the world. -/
def GInv (w : World) : Prop := RInv w
theorem GInv.below {w w' : World} (h : GInv w) (hb : Below w.heap.size w w') : GInv w' := RInv.below h hb
theorem GInv.drewN {w : World} (h : GInv w) (n : Nat) : GInv (w.drewN n) := RInv.below h (Go.Proofs.YthggpjiabklekaaGreatDoor.below_drewN (Below.refl _ _) n)
def eponymlaw03_awake.f : Option Bool := some true
theorem eponymlaw03_awake.calls (r : Bool) (w : World) (hG : GInv w) (h : eponymlaw03_awake.f = some r) :
    Calls Tryz.prog 10 #[] w fun e w' => e = .returned (.bool r) ∧ Below w.heap.size w w' := by
  obtain rfl : true = r := Option.some.inj h
  exact awake_any w hG
/-- A list of ranges, plain. -/
def rgs (l : List S28) : List Rg := l.map fun x => (x.f0, x.f1, x.f2)
theorem rgs_length (l : List S28) : (rgs l).length = l.length := List.length_map _
theorem lies_of {w : World} {A : Option Addr} {l : List S28} (h : Kd.C k28 w A l.length l) : Lies w A (rgs l) := by
  intro hp
  rw [rgs_length] at hp
  obtain ⟨ad, hA, -⟩ := at_T28 h 0 (by omega) (by omega)
  refine ⟨ad, hA, fun j hj => ?_⟩
  have hj' : j < l.length := by rw [rgs_length] at hj; exact hj
  obtain ⟨ad', hA', h1, h2, h3⟩ := at_T28 h j (by omega) (by omega)
  obtain rfl : ad = ad' := Option.some.inj (hA.symm.trans hA')
  have e : rd_T28 l j = l[j] := by unfold rd_T28; rw [Int.toNat_natCast, List.getD_eq_getElem?_getD, List.getElem?_eq_getElem hj']; rfl
  rw [e, Int.toNat_natCast] at h1 h2 h3
  have eg : (rgs l)[j] = (l[j].f0, l[j].f1, l[j].f2) := by simp [rgs]
  rw [eg]
  refine ⟨h1, ?_, ?_⟩
  · rw [add_field _ _ 1 (by omega)]; exact h2
  · rw [add_field _ _ 2 (by omega)]; exact h3
def ranges_Find.f (l : List S28) (r : Int) : Option (Int × Bool) := if tableB (rgs l) = true ∧ l.length ≤ 1000000 then some (findS (rgs l) r) else none
theorem ranges_Find.calls (A0 : Option Addr) (c0 : Nat) (l0 : List S28) (a1 : Int) (r1 : Int) (r2 : Bool) (w : World) (hr0 : Kd.C k28 w A0 l0.length l0) (hc0 : l0.length ≤ c0) (h : ranges_Find.f l0 a1 = some (r1, r2)) :
    Calls Tryz.prog 12 #[.slice A0 l0.length c0, .int .i32 a1] w fun e w' => e = .returned (.tuple #[.int .i64 r1, .bool r2]) ∧ Below w.heap.size w w' := by
  unfold ranges_Find.f at h
  split at h
  · rename_i hc
    have h' := Option.some.inj h
    have H := find_any A0 c0 (rgs l0) a1 w (by rw [rgs_length]; exact hc.2) (lies_of hr0) ((tab_iff _).1 hc.1)
    rw [h', rgs_length] at H
    exact H
  · cases h
end Go.Proofs.YthggpjiabklekaaGreatDoor.PRg
