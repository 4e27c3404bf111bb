-- Printed by a program of this claim's author (wip/tools), out of the translation. Not trusted: Lean checks it.
import Derived.Test.YtlgdenihddkjaaaDoorPStx0
import Derived.Test.YtlgdenihddkjaaaDoorExt
namespace Go.Proofs.YtlgdenihddkjaaaDoor.PSt
open Go.RowKit Go.Proofs.YtlgdenihddkjaaaDoorW.PrintWords Go.Proofs.YtlgdenihddkjaaaDoorW.PrintLast Go.Proofs.YtlgdenihddkjaaaDoorW.PrintMore
attribute [local go_sem] max2_int min2_int max_two min_two max_three min_three max_four min_four   -- for this text's walks alone
set_option linter.unusedVariables false
set_option linter.unusedSimpArgs false

/-! ### stamp_floor: function 23 -/
def stamp_floor.f (a0 : Int) (a1 : Int) : Option (Int) := if a1 = 0 then (none) else (if (Int.tmod a0 a1) < 0 then (some (wrap64 ((wrap64 (Int.tdiv a0 a1)) - 1))) else (some (wrap64 (Int.tdiv a0 a1))))
set_option maxHeartbeats 8000000 in
set_option maxRecDepth 100000 in
theorem stamp_floor.calls (a0 : Int) (a1 : Int) (r : Int) (w : World) (h : stamp_floor.f a0 a1 = some r) :
    Calls Tryd.prog 23 #[.int .i64 a0, .int .i64 a1] w fun e w' => e = .returned (.int .i64 r) ∧ Drawn0 w w' := by
  have H : (if a1 = 0 then (none) else (if (Int.tmod a0 a1) < 0 then (some (wrap64 ((wrap64 (Int.tdiv a0 a1)) - 1))) else (some (wrap64 (Int.tdiv a0 a1))))) = some r := h
  clear h
  by_cases c3 : a1 = 0
  · rw [if_pos c3] at H
    exact absurd H (by simp)
  · rw [if_neg c3] at H
    have c3b0 : (a1 == 0) = false := beq_eq_false_iff_ne.mpr c3
    have c3b1 : (a1 != 0) = true := bne_iff_ne.mpr c3
    by_cases c4 : (Int.tmod a0 a1) < 0
    · rw [if_pos c4] at H
      have c4b0 : decide ((Int.tmod a0 a1) < 0) = true := decide_eq_true c4
      clear c4
      obtain rfl := Option.some.inj H
      go_enter Tryd.func23, Tryd.ntmps23
      go_wp2
      go_ret
      exact ⟨by first | rfl | (simp; done) | (simp [*]; done), by repeat (first | exact Drawn0.refl _ | apply Drawn0.step)⟩
    · rw [if_neg c4] at H
      have c4b0 : decide ((Int.tmod a0 a1) < 0) = false := decide_eq_false c4
      clear c4
      obtain rfl := Option.some.inj H
      go_enter Tryd.func23, Tryd.ntmps23
      go_wp2
      go_ret
      exact ⟨by first | rfl | (simp; done) | (simp [*]; done), by repeat (first | exact Drawn0.refl _ | apply Drawn0.step)⟩

/-! ### stamp_Civil: function 8 -/
def stamp_Civil.f (a0 : Int) : Option (Int × Int × Int) := (stamp_floor.f ((mx (-719528) (mn a0 2932896)) + 719468) 146097).bind fun t101 => (if (wrap64 ((wrap64 (Int.tdiv (wrap64 ((wrap64 (5 * (wrap64 ((wrap64 (((mx (-719528) (mn a0 2932896)) + 719468) - (wrap64 (t101 * 146097)))) - (wrap64 ((wrap64 ((wrap64 (365 * (wrap64 (Int.tdiv (wrap64 ((wrap64 ((wrap64 ((wrap64 (((mx (-719528) (mn a0 2932896)) + 719468) - (wrap64 (t101 * 146097)))) - (wrap64 (Int.tdiv (wrap64 (((mx (-719528) (mn a0 2932896)) + 719468) - (wrap64 (t101 * 146097)))) 1460)))) + (wrap64 (Int.tdiv (wrap64 (((mx (-719528) (mn a0 2932896)) + 719468) - (wrap64 (t101 * 146097)))) 36524)))) - (wrap64 (Int.tdiv (wrap64 (((mx (-719528) (mn a0 2932896)) + 719468) - (wrap64 (t101 * 146097)))) 146096)))) 365)))) + (wrap64 (Int.tdiv (wrap64 (Int.tdiv (wrap64 ((wrap64 ((wrap64 ((wrap64 (((mx (-719528) (mn a0 2932896)) + 719468) - (wrap64 (t101 * 146097)))) - (wrap64 (Int.tdiv (wrap64 (((mx (-719528) (mn a0 2932896)) + 719468) - (wrap64 (t101 * 146097)))) 1460)))) + (wrap64 (Int.tdiv (wrap64 (((mx (-719528) (mn a0 2932896)) + 719468) - (wrap64 (t101 * 146097)))) 36524)))) - (wrap64 (Int.tdiv (wrap64 (((mx (-719528) (mn a0 2932896)) + 719468) - (wrap64 (t101 * 146097)))) 146096)))) 365)) 4)))) - (wrap64 (Int.tdiv (wrap64 (Int.tdiv (wrap64 ((wrap64 ((wrap64 ((wrap64 (((mx (-719528) (mn a0 2932896)) + 719468) - (wrap64 (t101 * 146097)))) - (wrap64 (Int.tdiv (wrap64 (((mx (-719528) (mn a0 2932896)) + 719468) - (wrap64 (t101 * 146097)))) 1460)))) + (wrap64 (Int.tdiv (wrap64 (((mx (-719528) (mn a0 2932896)) + 719468) - (wrap64 (t101 * 146097)))) 36524)))) - (wrap64 (Int.tdiv (wrap64 (((mx (-719528) (mn a0 2932896)) + 719468) - (wrap64 (t101 * 146097)))) 146096)))) 365)) 100)))))))) + 2)) 153)) + 3)) > 12 then (some (wrap64 ((wrap64 ((wrap64 (Int.tdiv (wrap64 ((wrap64 ((wrap64 ((wrap64 (((mx (-719528) (mn a0 2932896)) + 719468) - (wrap64 (t101 * 146097)))) - (wrap64 (Int.tdiv (wrap64 (((mx (-719528) (mn a0 2932896)) + 719468) - (wrap64 (t101 * 146097)))) 1460)))) + (wrap64 (Int.tdiv (wrap64 (((mx (-719528) (mn a0 2932896)) + 719468) - (wrap64 (t101 * 146097)))) 36524)))) - (wrap64 (Int.tdiv (wrap64 (((mx (-719528) (mn a0 2932896)) + 719468) - (wrap64 (t101 * 146097)))) 146096)))) 365)) + (wrap64 (t101 * 400)))) + 1), wrap64 ((wrap64 ((wrap64 (Int.tdiv (wrap64 ((wrap64 (5 * (wrap64 ((wrap64 (((mx (-719528) (mn a0 2932896)) + 719468) - (wrap64 (t101 * 146097)))) - (wrap64 ((wrap64 ((wrap64 (365 * (wrap64 (Int.tdiv (wrap64 ((wrap64 ((wrap64 ((wrap64 (((mx (-719528) (mn a0 2932896)) + 719468) - (wrap64 (t101 * 146097)))) - (wrap64 (Int.tdiv (wrap64 (((mx (-719528) (mn a0 2932896)) + 719468) - (wrap64 (t101 * 146097)))) 1460)))) + (wrap64 (Int.tdiv (wrap64 (((mx (-719528) (mn a0 2932896)) + 719468) - (wrap64 (t101 * 146097)))) 36524)))) - (wrap64 (Int.tdiv (wrap64 (((mx (-719528) (mn a0 2932896)) + 719468) - (wrap64 (t101 * 146097)))) 146096)))) 365)))) + (wrap64 (Int.tdiv (wrap64 (Int.tdiv (wrap64 ((wrap64 ((wrap64 ((wrap64 (((mx (-719528) (mn a0 2932896)) + 719468) - (wrap64 (t101 * 146097)))) - (wrap64 (Int.tdiv (wrap64 (((mx (-719528) (mn a0 2932896)) + 719468) - (wrap64 (t101 * 146097)))) 1460)))) + (wrap64 (Int.tdiv (wrap64 (((mx (-719528) (mn a0 2932896)) + 719468) - (wrap64 (t101 * 146097)))) 36524)))) - (wrap64 (Int.tdiv (wrap64 (((mx (-719528) (mn a0 2932896)) + 719468) - (wrap64 (t101 * 146097)))) 146096)))) 365)) 4)))) - (wrap64 (Int.tdiv (wrap64 (Int.tdiv (wrap64 ((wrap64 ((wrap64 ((wrap64 (((mx (-719528) (mn a0 2932896)) + 719468) - (wrap64 (t101 * 146097)))) - (wrap64 (Int.tdiv (wrap64 (((mx (-719528) (mn a0 2932896)) + 719468) - (wrap64 (t101 * 146097)))) 1460)))) + (wrap64 (Int.tdiv (wrap64 (((mx (-719528) (mn a0 2932896)) + 719468) - (wrap64 (t101 * 146097)))) 36524)))) - (wrap64 (Int.tdiv (wrap64 (((mx (-719528) (mn a0 2932896)) + 719468) - (wrap64 (t101 * 146097)))) 146096)))) 365)) 100)))))))) + 2)) 153)) + 3)) - 12), wrap64 ((wrap64 ((wrap64 ((wrap64 (((mx (-719528) (mn a0 2932896)) + 719468) - (wrap64 (t101 * 146097)))) - (wrap64 ((wrap64 ((wrap64 (365 * (wrap64 (Int.tdiv (wrap64 ((wrap64 ((wrap64 ((wrap64 (((mx (-719528) (mn a0 2932896)) + 719468) - (wrap64 (t101 * 146097)))) - (wrap64 (Int.tdiv (wrap64 (((mx (-719528) (mn a0 2932896)) + 719468) - (wrap64 (t101 * 146097)))) 1460)))) + (wrap64 (Int.tdiv (wrap64 (((mx (-719528) (mn a0 2932896)) + 719468) - (wrap64 (t101 * 146097)))) 36524)))) - (wrap64 (Int.tdiv (wrap64 (((mx (-719528) (mn a0 2932896)) + 719468) - (wrap64 (t101 * 146097)))) 146096)))) 365)))) + (wrap64 (Int.tdiv (wrap64 (Int.tdiv (wrap64 ((wrap64 ((wrap64 ((wrap64 (((mx (-719528) (mn a0 2932896)) + 719468) - (wrap64 (t101 * 146097)))) - (wrap64 (Int.tdiv (wrap64 (((mx (-719528) (mn a0 2932896)) + 719468) - (wrap64 (t101 * 146097)))) 1460)))) + (wrap64 (Int.tdiv (wrap64 (((mx (-719528) (mn a0 2932896)) + 719468) - (wrap64 (t101 * 146097)))) 36524)))) - (wrap64 (Int.tdiv (wrap64 (((mx (-719528) (mn a0 2932896)) + 719468) - (wrap64 (t101 * 146097)))) 146096)))) 365)) 4)))) - (wrap64 (Int.tdiv (wrap64 (Int.tdiv (wrap64 ((wrap64 ((wrap64 ((wrap64 (((mx (-719528) (mn a0 2932896)) + 719468) - (wrap64 (t101 * 146097)))) - (wrap64 (Int.tdiv (wrap64 (((mx (-719528) (mn a0 2932896)) + 719468) - (wrap64 (t101 * 146097)))) 1460)))) + (wrap64 (Int.tdiv (wrap64 (((mx (-719528) (mn a0 2932896)) + 719468) - (wrap64 (t101 * 146097)))) 36524)))) - (wrap64 (Int.tdiv (wrap64 (((mx (-719528) (mn a0 2932896)) + 719468) - (wrap64 (t101 * 146097)))) 146096)))) 365)) 100)))))) - (wrap64 (Int.tdiv (wrap64 ((wrap64 (153 * (wrap64 (Int.tdiv (wrap64 ((wrap64 (5 * (wrap64 ((wrap64 (((mx (-719528) (mn a0 2932896)) + 719468) - (wrap64 (t101 * 146097)))) - (wrap64 ((wrap64 ((wrap64 (365 * (wrap64 (Int.tdiv (wrap64 ((wrap64 ((wrap64 ((wrap64 (((mx (-719528) (mn a0 2932896)) + 719468) - (wrap64 (t101 * 146097)))) - (wrap64 (Int.tdiv (wrap64 (((mx (-719528) (mn a0 2932896)) + 719468) - (wrap64 (t101 * 146097)))) 1460)))) + (wrap64 (Int.tdiv (wrap64 (((mx (-719528) (mn a0 2932896)) + 719468) - (wrap64 (t101 * 146097)))) 36524)))) - (wrap64 (Int.tdiv (wrap64 (((mx (-719528) (mn a0 2932896)) + 719468) - (wrap64 (t101 * 146097)))) 146096)))) 365)))) + (wrap64 (Int.tdiv (wrap64 (Int.tdiv (wrap64 ((wrap64 ((wrap64 ((wrap64 (((mx (-719528) (mn a0 2932896)) + 719468) - (wrap64 (t101 * 146097)))) - (wrap64 (Int.tdiv (wrap64 (((mx (-719528) (mn a0 2932896)) + 719468) - (wrap64 (t101 * 146097)))) 1460)))) + (wrap64 (Int.tdiv (wrap64 (((mx (-719528) (mn a0 2932896)) + 719468) - (wrap64 (t101 * 146097)))) 36524)))) - (wrap64 (Int.tdiv (wrap64 (((mx (-719528) (mn a0 2932896)) + 719468) - (wrap64 (t101 * 146097)))) 146096)))) 365)) 4)))) - (wrap64 (Int.tdiv (wrap64 (Int.tdiv (wrap64 ((wrap64 ((wrap64 ((wrap64 (((mx (-719528) (mn a0 2932896)) + 719468) - (wrap64 (t101 * 146097)))) - (wrap64 (Int.tdiv (wrap64 (((mx (-719528) (mn a0 2932896)) + 719468) - (wrap64 (t101 * 146097)))) 1460)))) + (wrap64 (Int.tdiv (wrap64 (((mx (-719528) (mn a0 2932896)) + 719468) - (wrap64 (t101 * 146097)))) 36524)))) - (wrap64 (Int.tdiv (wrap64 (((mx (-719528) (mn a0 2932896)) + 719468) - (wrap64 (t101 * 146097)))) 146096)))) 365)) 100)))))))) + 2)) 153)))) + 2)) 5)))) + 1))) else (some (wrap64 ((wrap64 (Int.tdiv (wrap64 ((wrap64 ((wrap64 ((wrap64 (((mx (-719528) (mn a0 2932896)) + 719468) - (wrap64 (t101 * 146097)))) - (wrap64 (Int.tdiv (wrap64 (((mx (-719528) (mn a0 2932896)) + 719468) - (wrap64 (t101 * 146097)))) 1460)))) + (wrap64 (Int.tdiv (wrap64 (((mx (-719528) (mn a0 2932896)) + 719468) - (wrap64 (t101 * 146097)))) 36524)))) - (wrap64 (Int.tdiv (wrap64 (((mx (-719528) (mn a0 2932896)) + 719468) - (wrap64 (t101 * 146097)))) 146096)))) 365)) + (wrap64 (t101 * 400))), wrap64 ((wrap64 (Int.tdiv (wrap64 ((wrap64 (5 * (wrap64 ((wrap64 (((mx (-719528) (mn a0 2932896)) + 719468) - (wrap64 (t101 * 146097)))) - (wrap64 ((wrap64 ((wrap64 (365 * (wrap64 (Int.tdiv (wrap64 ((wrap64 ((wrap64 ((wrap64 (((mx (-719528) (mn a0 2932896)) + 719468) - (wrap64 (t101 * 146097)))) - (wrap64 (Int.tdiv (wrap64 (((mx (-719528) (mn a0 2932896)) + 719468) - (wrap64 (t101 * 146097)))) 1460)))) + (wrap64 (Int.tdiv (wrap64 (((mx (-719528) (mn a0 2932896)) + 719468) - (wrap64 (t101 * 146097)))) 36524)))) - (wrap64 (Int.tdiv (wrap64 (((mx (-719528) (mn a0 2932896)) + 719468) - (wrap64 (t101 * 146097)))) 146096)))) 365)))) + (wrap64 (Int.tdiv (wrap64 (Int.tdiv (wrap64 ((wrap64 ((wrap64 ((wrap64 (((mx (-719528) (mn a0 2932896)) + 719468) - (wrap64 (t101 * 146097)))) - (wrap64 (Int.tdiv (wrap64 (((mx (-719528) (mn a0 2932896)) + 719468) - (wrap64 (t101 * 146097)))) 1460)))) + (wrap64 (Int.tdiv (wrap64 (((mx (-719528) (mn a0 2932896)) + 719468) - (wrap64 (t101 * 146097)))) 36524)))) - (wrap64 (Int.tdiv (wrap64 (((mx (-719528) (mn a0 2932896)) + 719468) - (wrap64 (t101 * 146097)))) 146096)))) 365)) 4)))) - (wrap64 (Int.tdiv (wrap64 (Int.tdiv (wrap64 ((wrap64 ((wrap64 ((wrap64 (((mx (-719528) (mn a0 2932896)) + 719468) - (wrap64 (t101 * 146097)))) - (wrap64 (Int.tdiv (wrap64 (((mx (-719528) (mn a0 2932896)) + 719468) - (wrap64 (t101 * 146097)))) 1460)))) + (wrap64 (Int.tdiv (wrap64 (((mx (-719528) (mn a0 2932896)) + 719468) - (wrap64 (t101 * 146097)))) 36524)))) - (wrap64 (Int.tdiv (wrap64 (((mx (-719528) (mn a0 2932896)) + 719468) - (wrap64 (t101 * 146097)))) 146096)))) 365)) 100)))))))) + 2)) 153)) + 3), wrap64 ((wrap64 ((wrap64 ((wrap64 (((mx (-719528) (mn a0 2932896)) + 719468) - (wrap64 (t101 * 146097)))) - (wrap64 ((wrap64 ((wrap64 (365 * (wrap64 (Int.tdiv (wrap64 ((wrap64 ((wrap64 ((wrap64 (((mx (-719528) (mn a0 2932896)) + 719468) - (wrap64 (t101 * 146097)))) - (wrap64 (Int.tdiv (wrap64 (((mx (-719528) (mn a0 2932896)) + 719468) - (wrap64 (t101 * 146097)))) 1460)))) + (wrap64 (Int.tdiv (wrap64 (((mx (-719528) (mn a0 2932896)) + 719468) - (wrap64 (t101 * 146097)))) 36524)))) - (wrap64 (Int.tdiv (wrap64 (((mx (-719528) (mn a0 2932896)) + 719468) - (wrap64 (t101 * 146097)))) 146096)))) 365)))) + (wrap64 (Int.tdiv (wrap64 (Int.tdiv (wrap64 ((wrap64 ((wrap64 ((wrap64 (((mx (-719528) (mn a0 2932896)) + 719468) - (wrap64 (t101 * 146097)))) - (wrap64 (Int.tdiv (wrap64 (((mx (-719528) (mn a0 2932896)) + 719468) - (wrap64 (t101 * 146097)))) 1460)))) + (wrap64 (Int.tdiv (wrap64 (((mx (-719528) (mn a0 2932896)) + 719468) - (wrap64 (t101 * 146097)))) 36524)))) - (wrap64 (Int.tdiv (wrap64 (((mx (-719528) (mn a0 2932896)) + 719468) - (wrap64 (t101 * 146097)))) 146096)))) 365)) 4)))) - (wrap64 (Int.tdiv (wrap64 (Int.tdiv (wrap64 ((wrap64 ((wrap64 ((wrap64 (((mx (-719528) (mn a0 2932896)) + 719468) - (wrap64 (t101 * 146097)))) - (wrap64 (Int.tdiv (wrap64 (((mx (-719528) (mn a0 2932896)) + 719468) - (wrap64 (t101 * 146097)))) 1460)))) + (wrap64 (Int.tdiv (wrap64 (((mx (-719528) (mn a0 2932896)) + 719468) - (wrap64 (t101 * 146097)))) 36524)))) - (wrap64 (Int.tdiv (wrap64 (((mx (-719528) (mn a0 2932896)) + 719468) - (wrap64 (t101 * 146097)))) 146096)))) 365)) 100)))))) - (wrap64 (Int.tdiv (wrap64 ((wrap64 (153 * (wrap64 (Int.tdiv (wrap64 ((wrap64 (5 * (wrap64 ((wrap64 (((mx (-719528) (mn a0 2932896)) + 719468) - (wrap64 (t101 * 146097)))) - (wrap64 ((wrap64 ((wrap64 (365 * (wrap64 (Int.tdiv (wrap64 ((wrap64 ((wrap64 ((wrap64 (((mx (-719528) (mn a0 2932896)) + 719468) - (wrap64 (t101 * 146097)))) - (wrap64 (Int.tdiv (wrap64 (((mx (-719528) (mn a0 2932896)) + 719468) - (wrap64 (t101 * 146097)))) 1460)))) + (wrap64 (Int.tdiv (wrap64 (((mx (-719528) (mn a0 2932896)) + 719468) - (wrap64 (t101 * 146097)))) 36524)))) - (wrap64 (Int.tdiv (wrap64 (((mx (-719528) (mn a0 2932896)) + 719468) - (wrap64 (t101 * 146097)))) 146096)))) 365)))) + (wrap64 (Int.tdiv (wrap64 (Int.tdiv (wrap64 ((wrap64 ((wrap64 ((wrap64 (((mx (-719528) (mn a0 2932896)) + 719468) - (wrap64 (t101 * 146097)))) - (wrap64 (Int.tdiv (wrap64 (((mx (-719528) (mn a0 2932896)) + 719468) - (wrap64 (t101 * 146097)))) 1460)))) + (wrap64 (Int.tdiv (wrap64 (((mx (-719528) (mn a0 2932896)) + 719468) - (wrap64 (t101 * 146097)))) 36524)))) - (wrap64 (Int.tdiv (wrap64 (((mx (-719528) (mn a0 2932896)) + 719468) - (wrap64 (t101 * 146097)))) 146096)))) 365)) 4)))) - (wrap64 (Int.tdiv (wrap64 (Int.tdiv (wrap64 ((wrap64 ((wrap64 ((wrap64 (((mx (-719528) (mn a0 2932896)) + 719468) - (wrap64 (t101 * 146097)))) - (wrap64 (Int.tdiv (wrap64 (((mx (-719528) (mn a0 2932896)) + 719468) - (wrap64 (t101 * 146097)))) 1460)))) + (wrap64 (Int.tdiv (wrap64 (((mx (-719528) (mn a0 2932896)) + 719468) - (wrap64 (t101 * 146097)))) 36524)))) - (wrap64 (Int.tdiv (wrap64 (((mx (-719528) (mn a0 2932896)) + 719468) - (wrap64 (t101 * 146097)))) 146096)))) 365)) 100)))))))) + 2)) 153)))) + 2)) 5)))) + 1))))
set_option maxHeartbeats 8000000 in
set_option maxRecDepth 100000 in
theorem stamp_Civil.calls (a0 : Int) (r1 : Int) (r2 : Int) (r3 : Int) (w : World) (h : stamp_Civil.f a0 = some (r1, r2, r3)) :
    Calls Tryd.prog 8 #[.int .i64 a0] w fun e w' => e = .returned (.tuple #[.int .i64 r1, .int .i64 r2, .int .i64 r3]) ∧ Below w.heap.size w w' := by
  have HB := Aside0.mk (Below.refl w.heap.size w)
  have H : ((stamp_floor.f ((mx (-719528) (mn a0 2932896)) + 719468) 146097).bind fun t101 => (if (wrap64 ((wrap64 (Int.tdiv (wrap64 ((wrap64 (5 * (wrap64 ((wrap64 (((mx (-719528) (mn a0 2932896)) + 719468) - (wrap64 (t101 * 146097)))) - (wrap64 ((wrap64 ((wrap64 (365 * (wrap64 (Int.tdiv (wrap64 ((wrap64 ((wrap64 ((wrap64 (((mx (-719528) (mn a0 2932896)) + 719468) - (wrap64 (t101 * 146097)))) - (wrap64 (Int.tdiv (wrap64 (((mx (-719528) (mn a0 2932896)) + 719468) - (wrap64 (t101 * 146097)))) 1460)))) + (wrap64 (Int.tdiv (wrap64 (((mx (-719528) (mn a0 2932896)) + 719468) - (wrap64 (t101 * 146097)))) 36524)))) - (wrap64 (Int.tdiv (wrap64 (((mx (-719528) (mn a0 2932896)) + 719468) - (wrap64 (t101 * 146097)))) 146096)))) 365)))) + (wrap64 (Int.tdiv (wrap64 (Int.tdiv (wrap64 ((wrap64 ((wrap64 ((wrap64 (((mx (-719528) (mn a0 2932896)) + 719468) - (wrap64 (t101 * 146097)))) - (wrap64 (Int.tdiv (wrap64 (((mx (-719528) (mn a0 2932896)) + 719468) - (wrap64 (t101 * 146097)))) 1460)))) + (wrap64 (Int.tdiv (wrap64 (((mx (-719528) (mn a0 2932896)) + 719468) - (wrap64 (t101 * 146097)))) 36524)))) - (wrap64 (Int.tdiv (wrap64 (((mx (-719528) (mn a0 2932896)) + 719468) - (wrap64 (t101 * 146097)))) 146096)))) 365)) 4)))) - (wrap64 (Int.tdiv (wrap64 (Int.tdiv (wrap64 ((wrap64 ((wrap64 ((wrap64 (((mx (-719528) (mn a0 2932896)) + 719468) - (wrap64 (t101 * 146097)))) - (wrap64 (Int.tdiv (wrap64 (((mx (-719528) (mn a0 2932896)) + 719468) - (wrap64 (t101 * 146097)))) 1460)))) + (wrap64 (Int.tdiv (wrap64 (((mx (-719528) (mn a0 2932896)) + 719468) - (wrap64 (t101 * 146097)))) 36524)))) - (wrap64 (Int.tdiv (wrap64 (((mx (-719528) (mn a0 2932896)) + 719468) - (wrap64 (t101 * 146097)))) 146096)))) 365)) 100)))))))) + 2)) 153)) + 3)) > 12 then (some (wrap64 ((wrap64 ((wrap64 (Int.tdiv (wrap64 ((wrap64 ((wrap64 ((wrap64 (((mx (-719528) (mn a0 2932896)) + 719468) - (wrap64 (t101 * 146097)))) - (wrap64 (Int.tdiv (wrap64 (((mx (-719528) (mn a0 2932896)) + 719468) - (wrap64 (t101 * 146097)))) 1460)))) + (wrap64 (Int.tdiv (wrap64 (((mx (-719528) (mn a0 2932896)) + 719468) - (wrap64 (t101 * 146097)))) 36524)))) - (wrap64 (Int.tdiv (wrap64 (((mx (-719528) (mn a0 2932896)) + 719468) - (wrap64 (t101 * 146097)))) 146096)))) 365)) + (wrap64 (t101 * 400)))) + 1), wrap64 ((wrap64 ((wrap64 (Int.tdiv (wrap64 ((wrap64 (5 * (wrap64 ((wrap64 (((mx (-719528) (mn a0 2932896)) + 719468) - (wrap64 (t101 * 146097)))) - (wrap64 ((wrap64 ((wrap64 (365 * (wrap64 (Int.tdiv (wrap64 ((wrap64 ((wrap64 ((wrap64 (((mx (-719528) (mn a0 2932896)) + 719468) - (wrap64 (t101 * 146097)))) - (wrap64 (Int.tdiv (wrap64 (((mx (-719528) (mn a0 2932896)) + 719468) - (wrap64 (t101 * 146097)))) 1460)))) + (wrap64 (Int.tdiv (wrap64 (((mx (-719528) (mn a0 2932896)) + 719468) - (wrap64 (t101 * 146097)))) 36524)))) - (wrap64 (Int.tdiv (wrap64 (((mx (-719528) (mn a0 2932896)) + 719468) - (wrap64 (t101 * 146097)))) 146096)))) 365)))) + (wrap64 (Int.tdiv (wrap64 (Int.tdiv (wrap64 ((wrap64 ((wrap64 ((wrap64 (((mx (-719528) (mn a0 2932896)) + 719468) - (wrap64 (t101 * 146097)))) - (wrap64 (Int.tdiv (wrap64 (((mx (-719528) (mn a0 2932896)) + 719468) - (wrap64 (t101 * 146097)))) 1460)))) + (wrap64 (Int.tdiv (wrap64 (((mx (-719528) (mn a0 2932896)) + 719468) - (wrap64 (t101 * 146097)))) 36524)))) - (wrap64 (Int.tdiv (wrap64 (((mx (-719528) (mn a0 2932896)) + 719468) - (wrap64 (t101 * 146097)))) 146096)))) 365)) 4)))) - (wrap64 (Int.tdiv (wrap64 (Int.tdiv (wrap64 ((wrap64 ((wrap64 ((wrap64 (((mx (-719528) (mn a0 2932896)) + 719468) - (wrap64 (t101 * 146097)))) - (wrap64 (Int.tdiv (wrap64 (((mx (-719528) (mn a0 2932896)) + 719468) - (wrap64 (t101 * 146097)))) 1460)))) + (wrap64 (Int.tdiv (wrap64 (((mx (-719528) (mn a0 2932896)) + 719468) - (wrap64 (t101 * 146097)))) 36524)))) - (wrap64 (Int.tdiv (wrap64 (((mx (-719528) (mn a0 2932896)) + 719468) - (wrap64 (t101 * 146097)))) 146096)))) 365)) 100)))))))) + 2)) 153)) + 3)) - 12), wrap64 ((wrap64 ((wrap64 ((wrap64 (((mx (-719528) (mn a0 2932896)) + 719468) - (wrap64 (t101 * 146097)))) - (wrap64 ((wrap64 ((wrap64 (365 * (wrap64 (Int.tdiv (wrap64 ((wrap64 ((wrap64 ((wrap64 (((mx (-719528) (mn a0 2932896)) + 719468) - (wrap64 (t101 * 146097)))) - (wrap64 (Int.tdiv (wrap64 (((mx (-719528) (mn a0 2932896)) + 719468) - (wrap64 (t101 * 146097)))) 1460)))) + (wrap64 (Int.tdiv (wrap64 (((mx (-719528) (mn a0 2932896)) + 719468) - (wrap64 (t101 * 146097)))) 36524)))) - (wrap64 (Int.tdiv (wrap64 (((mx (-719528) (mn a0 2932896)) + 719468) - (wrap64 (t101 * 146097)))) 146096)))) 365)))) + (wrap64 (Int.tdiv (wrap64 (Int.tdiv (wrap64 ((wrap64 ((wrap64 ((wrap64 (((mx (-719528) (mn a0 2932896)) + 719468) - (wrap64 (t101 * 146097)))) - (wrap64 (Int.tdiv (wrap64 (((mx (-719528) (mn a0 2932896)) + 719468) - (wrap64 (t101 * 146097)))) 1460)))) + (wrap64 (Int.tdiv (wrap64 (((mx (-719528) (mn a0 2932896)) + 719468) - (wrap64 (t101 * 146097)))) 36524)))) - (wrap64 (Int.tdiv (wrap64 (((mx (-719528) (mn a0 2932896)) + 719468) - (wrap64 (t101 * 146097)))) 146096)))) 365)) 4)))) - (wrap64 (Int.tdiv (wrap64 (Int.tdiv (wrap64 ((wrap64 ((wrap64 ((wrap64 (((mx (-719528) (mn a0 2932896)) + 719468) - (wrap64 (t101 * 146097)))) - (wrap64 (Int.tdiv (wrap64 (((mx (-719528) (mn a0 2932896)) + 719468) - (wrap64 (t101 * 146097)))) 1460)))) + (wrap64 (Int.tdiv (wrap64 (((mx (-719528) (mn a0 2932896)) + 719468) - (wrap64 (t101 * 146097)))) 36524)))) - (wrap64 (Int.tdiv (wrap64 (((mx (-719528) (mn a0 2932896)) + 719468) - (wrap64 (t101 * 146097)))) 146096)))) 365)) 100)))))) - (wrap64 (Int.tdiv (wrap64 ((wrap64 (153 * (wrap64 (Int.tdiv (wrap64 ((wrap64 (5 * (wrap64 ((wrap64 (((mx (-719528) (mn a0 2932896)) + 719468) - (wrap64 (t101 * 146097)))) - (wrap64 ((wrap64 ((wrap64 (365 * (wrap64 (Int.tdiv (wrap64 ((wrap64 ((wrap64 ((wrap64 (((mx (-719528) (mn a0 2932896)) + 719468) - (wrap64 (t101 * 146097)))) - (wrap64 (Int.tdiv (wrap64 (((mx (-719528) (mn a0 2932896)) + 719468) - (wrap64 (t101 * 146097)))) 1460)))) + (wrap64 (Int.tdiv (wrap64 (((mx (-719528) (mn a0 2932896)) + 719468) - (wrap64 (t101 * 146097)))) 36524)))) - (wrap64 (Int.tdiv (wrap64 (((mx (-719528) (mn a0 2932896)) + 719468) - (wrap64 (t101 * 146097)))) 146096)))) 365)))) + (wrap64 (Int.tdiv (wrap64 (Int.tdiv (wrap64 ((wrap64 ((wrap64 ((wrap64 (((mx (-719528) (mn a0 2932896)) + 719468) - (wrap64 (t101 * 146097)))) - (wrap64 (Int.tdiv (wrap64 (((mx (-719528) (mn a0 2932896)) + 719468) - (wrap64 (t101 * 146097)))) 1460)))) + (wrap64 (Int.tdiv (wrap64 (((mx (-719528) (mn a0 2932896)) + 719468) - (wrap64 (t101 * 146097)))) 36524)))) - (wrap64 (Int.tdiv (wrap64 (((mx (-719528) (mn a0 2932896)) + 719468) - (wrap64 (t101 * 146097)))) 146096)))) 365)) 4)))) - (wrap64 (Int.tdiv (wrap64 (Int.tdiv (wrap64 ((wrap64 ((wrap64 ((wrap64 (((mx (-719528) (mn a0 2932896)) + 719468) - (wrap64 (t101 * 146097)))) - (wrap64 (Int.tdiv (wrap64 (((mx (-719528) (mn a0 2932896)) + 719468) - (wrap64 (t101 * 146097)))) 1460)))) + (wrap64 (Int.tdiv (wrap64 (((mx (-719528) (mn a0 2932896)) + 719468) - (wrap64 (t101 * 146097)))) 36524)))) - (wrap64 (Int.tdiv (wrap64 (((mx (-719528) (mn a0 2932896)) + 719468) - (wrap64 (t101 * 146097)))) 146096)))) 365)) 100)))))))) + 2)) 153)))) + 2)) 5)))) + 1))) else (some (wrap64 ((wrap64 (Int.tdiv (wrap64 ((wrap64 ((wrap64 ((wrap64 (((mx (-719528) (mn a0 2932896)) + 719468) - (wrap64 (t101 * 146097)))) - (wrap64 (Int.tdiv (wrap64 (((mx (-719528) (mn a0 2932896)) + 719468) - (wrap64 (t101 * 146097)))) 1460)))) + (wrap64 (Int.tdiv (wrap64 (((mx (-719528) (mn a0 2932896)) + 719468) - (wrap64 (t101 * 146097)))) 36524)))) - (wrap64 (Int.tdiv (wrap64 (((mx (-719528) (mn a0 2932896)) + 719468) - (wrap64 (t101 * 146097)))) 146096)))) 365)) + (wrap64 (t101 * 400))), wrap64 ((wrap64 (Int.tdiv (wrap64 ((wrap64 (5 * (wrap64 ((wrap64 (((mx (-719528) (mn a0 2932896)) + 719468) - (wrap64 (t101 * 146097)))) - (wrap64 ((wrap64 ((wrap64 (365 * (wrap64 (Int.tdiv (wrap64 ((wrap64 ((wrap64 ((wrap64 (((mx (-719528) (mn a0 2932896)) + 719468) - (wrap64 (t101 * 146097)))) - (wrap64 (Int.tdiv (wrap64 (((mx (-719528) (mn a0 2932896)) + 719468) - (wrap64 (t101 * 146097)))) 1460)))) + (wrap64 (Int.tdiv (wrap64 (((mx (-719528) (mn a0 2932896)) + 719468) - (wrap64 (t101 * 146097)))) 36524)))) - (wrap64 (Int.tdiv (wrap64 (((mx (-719528) (mn a0 2932896)) + 719468) - (wrap64 (t101 * 146097)))) 146096)))) 365)))) + (wrap64 (Int.tdiv (wrap64 (Int.tdiv (wrap64 ((wrap64 ((wrap64 ((wrap64 (((mx (-719528) (mn a0 2932896)) + 719468) - (wrap64 (t101 * 146097)))) - (wrap64 (Int.tdiv (wrap64 (((mx (-719528) (mn a0 2932896)) + 719468) - (wrap64 (t101 * 146097)))) 1460)))) + (wrap64 (Int.tdiv (wrap64 (((mx (-719528) (mn a0 2932896)) + 719468) - (wrap64 (t101 * 146097)))) 36524)))) - (wrap64 (Int.tdiv (wrap64 (((mx (-719528) (mn a0 2932896)) + 719468) - (wrap64 (t101 * 146097)))) 146096)))) 365)) 4)))) - (wrap64 (Int.tdiv (wrap64 (Int.tdiv (wrap64 ((wrap64 ((wrap64 ((wrap64 (((mx (-719528) (mn a0 2932896)) + 719468) - (wrap64 (t101 * 146097)))) - (wrap64 (Int.tdiv (wrap64 (((mx (-719528) (mn a0 2932896)) + 719468) - (wrap64 (t101 * 146097)))) 1460)))) + (wrap64 (Int.tdiv (wrap64 (((mx (-719528) (mn a0 2932896)) + 719468) - (wrap64 (t101 * 146097)))) 36524)))) - (wrap64 (Int.tdiv (wrap64 (((mx (-719528) (mn a0 2932896)) + 719468) - (wrap64 (t101 * 146097)))) 146096)))) 365)) 100)))))))) + 2)) 153)) + 3), wrap64 ((wrap64 ((wrap64 ((wrap64 (((mx (-719528) (mn a0 2932896)) + 719468) - (wrap64 (t101 * 146097)))) - (wrap64 ((wrap64 ((wrap64 (365 * (wrap64 (Int.tdiv (wrap64 ((wrap64 ((wrap64 ((wrap64 (((mx (-719528) (mn a0 2932896)) + 719468) - (wrap64 (t101 * 146097)))) - (wrap64 (Int.tdiv (wrap64 (((mx (-719528) (mn a0 2932896)) + 719468) - (wrap64 (t101 * 146097)))) 1460)))) + (wrap64 (Int.tdiv (wrap64 (((mx (-719528) (mn a0 2932896)) + 719468) - (wrap64 (t101 * 146097)))) 36524)))) - (wrap64 (Int.tdiv (wrap64 (((mx (-719528) (mn a0 2932896)) + 719468) - (wrap64 (t101 * 146097)))) 146096)))) 365)))) + (wrap64 (Int.tdiv (wrap64 (Int.tdiv (wrap64 ((wrap64 ((wrap64 ((wrap64 (((mx (-719528) (mn a0 2932896)) + 719468) - (wrap64 (t101 * 146097)))) - (wrap64 (Int.tdiv (wrap64 (((mx (-719528) (mn a0 2932896)) + 719468) - (wrap64 (t101 * 146097)))) 1460)))) + (wrap64 (Int.tdiv (wrap64 (((mx (-719528) (mn a0 2932896)) + 719468) - (wrap64 (t101 * 146097)))) 36524)))) - (wrap64 (Int.tdiv (wrap64 (((mx (-719528) (mn a0 2932896)) + 719468) - (wrap64 (t101 * 146097)))) 146096)))) 365)) 4)))) - (wrap64 (Int.tdiv (wrap64 (Int.tdiv (wrap64 ((wrap64 ((wrap64 ((wrap64 (((mx (-719528) (mn a0 2932896)) + 719468) - (wrap64 (t101 * 146097)))) - (wrap64 (Int.tdiv (wrap64 (((mx (-719528) (mn a0 2932896)) + 719468) - (wrap64 (t101 * 146097)))) 1460)))) + (wrap64 (Int.tdiv (wrap64 (((mx (-719528) (mn a0 2932896)) + 719468) - (wrap64 (t101 * 146097)))) 36524)))) - (wrap64 (Int.tdiv (wrap64 (((mx (-719528) (mn a0 2932896)) + 719468) - (wrap64 (t101 * 146097)))) 146096)))) 365)) 100)))))) - (wrap64 (Int.tdiv (wrap64 ((wrap64 (153 * (wrap64 (Int.tdiv (wrap64 ((wrap64 (5 * (wrap64 ((wrap64 (((mx (-719528) (mn a0 2932896)) + 719468) - (wrap64 (t101 * 146097)))) - (wrap64 ((wrap64 ((wrap64 (365 * (wrap64 (Int.tdiv (wrap64 ((wrap64 ((wrap64 ((wrap64 (((mx (-719528) (mn a0 2932896)) + 719468) - (wrap64 (t101 * 146097)))) - (wrap64 (Int.tdiv (wrap64 (((mx (-719528) (mn a0 2932896)) + 719468) - (wrap64 (t101 * 146097)))) 1460)))) + (wrap64 (Int.tdiv (wrap64 (((mx (-719528) (mn a0 2932896)) + 719468) - (wrap64 (t101 * 146097)))) 36524)))) - (wrap64 (Int.tdiv (wrap64 (((mx (-719528) (mn a0 2932896)) + 719468) - (wrap64 (t101 * 146097)))) 146096)))) 365)))) + (wrap64 (Int.tdiv (wrap64 (Int.tdiv (wrap64 ((wrap64 ((wrap64 ((wrap64 (((mx (-719528) (mn a0 2932896)) + 719468) - (wrap64 (t101 * 146097)))) - (wrap64 (Int.tdiv (wrap64 (((mx (-719528) (mn a0 2932896)) + 719468) - (wrap64 (t101 * 146097)))) 1460)))) + (wrap64 (Int.tdiv (wrap64 (((mx (-719528) (mn a0 2932896)) + 719468) - (wrap64 (t101 * 146097)))) 36524)))) - (wrap64 (Int.tdiv (wrap64 (((mx (-719528) (mn a0 2932896)) + 719468) - (wrap64 (t101 * 146097)))) 146096)))) 365)) 4)))) - (wrap64 (Int.tdiv (wrap64 (Int.tdiv (wrap64 ((wrap64 ((wrap64 ((wrap64 (((mx (-719528) (mn a0 2932896)) + 719468) - (wrap64 (t101 * 146097)))) - (wrap64 (Int.tdiv (wrap64 (((mx (-719528) (mn a0 2932896)) + 719468) - (wrap64 (t101 * 146097)))) 1460)))) + (wrap64 (Int.tdiv (wrap64 (((mx (-719528) (mn a0 2932896)) + 719468) - (wrap64 (t101 * 146097)))) 36524)))) - (wrap64 (Int.tdiv (wrap64 (((mx (-719528) (mn a0 2932896)) + 719468) - (wrap64 (t101 * 146097)))) 146096)))) 365)) 100)))))))) + 2)) 153)))) + 2)) 5)))) + 1))))) = some (r1, r2, r3) := h
  clear h
  obtain ⟨ji2, hji2⟩ : ∃ j_ : Int, (mn a0 2932896) = j_ := ⟨_, rfl⟩
  replace H : ((stamp_floor.f ((mx (-719528) (ji2)) + 719468) 146097).bind fun t101 => (if (wrap64 ((wrap64 (Int.tdiv (wrap64 ((wrap64 (5 * (wrap64 ((wrap64 (((mx (-719528) (ji2)) + 719468) - (wrap64 (t101 * 146097)))) - (wrap64 ((wrap64 ((wrap64 (365 * (wrap64 (Int.tdiv (wrap64 ((wrap64 ((wrap64 ((wrap64 (((mx (-719528) (ji2)) + 719468) - (wrap64 (t101 * 146097)))) - (wrap64 (Int.tdiv (wrap64 (((mx (-719528) (ji2)) + 719468) - (wrap64 (t101 * 146097)))) 1460)))) + (wrap64 (Int.tdiv (wrap64 (((mx (-719528) (ji2)) + 719468) - (wrap64 (t101 * 146097)))) 36524)))) - (wrap64 (Int.tdiv (wrap64 (((mx (-719528) (ji2)) + 719468) - (wrap64 (t101 * 146097)))) 146096)))) 365)))) + (wrap64 (Int.tdiv (wrap64 (Int.tdiv (wrap64 ((wrap64 ((wrap64 ((wrap64 (((mx (-719528) (ji2)) + 719468) - (wrap64 (t101 * 146097)))) - (wrap64 (Int.tdiv (wrap64 (((mx (-719528) (ji2)) + 719468) - (wrap64 (t101 * 146097)))) 1460)))) + (wrap64 (Int.tdiv (wrap64 (((mx (-719528) (ji2)) + 719468) - (wrap64 (t101 * 146097)))) 36524)))) - (wrap64 (Int.tdiv (wrap64 (((mx (-719528) (ji2)) + 719468) - (wrap64 (t101 * 146097)))) 146096)))) 365)) 4)))) - (wrap64 (Int.tdiv (wrap64 (Int.tdiv (wrap64 ((wrap64 ((wrap64 ((wrap64 (((mx (-719528) (ji2)) + 719468) - (wrap64 (t101 * 146097)))) - (wrap64 (Int.tdiv (wrap64 (((mx (-719528) (ji2)) + 719468) - (wrap64 (t101 * 146097)))) 1460)))) + (wrap64 (Int.tdiv (wrap64 (((mx (-719528) (ji2)) + 719468) - (wrap64 (t101 * 146097)))) 36524)))) - (wrap64 (Int.tdiv (wrap64 (((mx (-719528) (ji2)) + 719468) - (wrap64 (t101 * 146097)))) 146096)))) 365)) 100)))))))) + 2)) 153)) + 3)) > 12 then (some (wrap64 ((wrap64 ((wrap64 (Int.tdiv (wrap64 ((wrap64 ((wrap64 ((wrap64 (((mx (-719528) (ji2)) + 719468) - (wrap64 (t101 * 146097)))) - (wrap64 (Int.tdiv (wrap64 (((mx (-719528) (ji2)) + 719468) - (wrap64 (t101 * 146097)))) 1460)))) + (wrap64 (Int.tdiv (wrap64 (((mx (-719528) (ji2)) + 719468) - (wrap64 (t101 * 146097)))) 36524)))) - (wrap64 (Int.tdiv (wrap64 (((mx (-719528) (ji2)) + 719468) - (wrap64 (t101 * 146097)))) 146096)))) 365)) + (wrap64 (t101 * 400)))) + 1), wrap64 ((wrap64 ((wrap64 (Int.tdiv (wrap64 ((wrap64 (5 * (wrap64 ((wrap64 (((mx (-719528) (ji2)) + 719468) - (wrap64 (t101 * 146097)))) - (wrap64 ((wrap64 ((wrap64 (365 * (wrap64 (Int.tdiv (wrap64 ((wrap64 ((wrap64 ((wrap64 (((mx (-719528) (ji2)) + 719468) - (wrap64 (t101 * 146097)))) - (wrap64 (Int.tdiv (wrap64 (((mx (-719528) (ji2)) + 719468) - (wrap64 (t101 * 146097)))) 1460)))) + (wrap64 (Int.tdiv (wrap64 (((mx (-719528) (ji2)) + 719468) - (wrap64 (t101 * 146097)))) 36524)))) - (wrap64 (Int.tdiv (wrap64 (((mx (-719528) (ji2)) + 719468) - (wrap64 (t101 * 146097)))) 146096)))) 365)))) + (wrap64 (Int.tdiv (wrap64 (Int.tdiv (wrap64 ((wrap64 ((wrap64 ((wrap64 (((mx (-719528) (ji2)) + 719468) - (wrap64 (t101 * 146097)))) - (wrap64 (Int.tdiv (wrap64 (((mx (-719528) (ji2)) + 719468) - (wrap64 (t101 * 146097)))) 1460)))) + (wrap64 (Int.tdiv (wrap64 (((mx (-719528) (ji2)) + 719468) - (wrap64 (t101 * 146097)))) 36524)))) - (wrap64 (Int.tdiv (wrap64 (((mx (-719528) (ji2)) + 719468) - (wrap64 (t101 * 146097)))) 146096)))) 365)) 4)))) - (wrap64 (Int.tdiv (wrap64 (Int.tdiv (wrap64 ((wrap64 ((wrap64 ((wrap64 (((mx (-719528) (ji2)) + 719468) - (wrap64 (t101 * 146097)))) - (wrap64 (Int.tdiv (wrap64 (((mx (-719528) (ji2)) + 719468) - (wrap64 (t101 * 146097)))) 1460)))) + (wrap64 (Int.tdiv (wrap64 (((mx (-719528) (ji2)) + 719468) - (wrap64 (t101 * 146097)))) 36524)))) - (wrap64 (Int.tdiv (wrap64 (((mx (-719528) (ji2)) + 719468) - (wrap64 (t101 * 146097)))) 146096)))) 365)) 100)))))))) + 2)) 153)) + 3)) - 12), wrap64 ((wrap64 ((wrap64 ((wrap64 (((mx (-719528) (ji2)) + 719468) - (wrap64 (t101 * 146097)))) - (wrap64 ((wrap64 ((wrap64 (365 * (wrap64 (Int.tdiv (wrap64 ((wrap64 ((wrap64 ((wrap64 (((mx (-719528) (ji2)) + 719468) - (wrap64 (t101 * 146097)))) - (wrap64 (Int.tdiv (wrap64 (((mx (-719528) (ji2)) + 719468) - (wrap64 (t101 * 146097)))) 1460)))) + (wrap64 (Int.tdiv (wrap64 (((mx (-719528) (ji2)) + 719468) - (wrap64 (t101 * 146097)))) 36524)))) - (wrap64 (Int.tdiv (wrap64 (((mx (-719528) (ji2)) + 719468) - (wrap64 (t101 * 146097)))) 146096)))) 365)))) + (wrap64 (Int.tdiv (wrap64 (Int.tdiv (wrap64 ((wrap64 ((wrap64 ((wrap64 (((mx (-719528) (ji2)) + 719468) - (wrap64 (t101 * 146097)))) - (wrap64 (Int.tdiv (wrap64 (((mx (-719528) (ji2)) + 719468) - (wrap64 (t101 * 146097)))) 1460)))) + (wrap64 (Int.tdiv (wrap64 (((mx (-719528) (ji2)) + 719468) - (wrap64 (t101 * 146097)))) 36524)))) - (wrap64 (Int.tdiv (wrap64 (((mx (-719528) (ji2)) + 719468) - (wrap64 (t101 * 146097)))) 146096)))) 365)) 4)))) - (wrap64 (Int.tdiv (wrap64 (Int.tdiv (wrap64 ((wrap64 ((wrap64 ((wrap64 (((mx (-719528) (ji2)) + 719468) - (wrap64 (t101 * 146097)))) - (wrap64 (Int.tdiv (wrap64 (((mx (-719528) (ji2)) + 719468) - (wrap64 (t101 * 146097)))) 1460)))) + (wrap64 (Int.tdiv (wrap64 (((mx (-719528) (ji2)) + 719468) - (wrap64 (t101 * 146097)))) 36524)))) - (wrap64 (Int.tdiv (wrap64 (((mx (-719528) (ji2)) + 719468) - (wrap64 (t101 * 146097)))) 146096)))) 365)) 100)))))) - (wrap64 (Int.tdiv (wrap64 ((wrap64 (153 * (wrap64 (Int.tdiv (wrap64 ((wrap64 (5 * (wrap64 ((wrap64 (((mx (-719528) (ji2)) + 719468) - (wrap64 (t101 * 146097)))) - (wrap64 ((wrap64 ((wrap64 (365 * (wrap64 (Int.tdiv (wrap64 ((wrap64 ((wrap64 ((wrap64 (((mx (-719528) (ji2)) + 719468) - (wrap64 (t101 * 146097)))) - (wrap64 (Int.tdiv (wrap64 (((mx (-719528) (ji2)) + 719468) - (wrap64 (t101 * 146097)))) 1460)))) + (wrap64 (Int.tdiv (wrap64 (((mx (-719528) (ji2)) + 719468) - (wrap64 (t101 * 146097)))) 36524)))) - (wrap64 (Int.tdiv (wrap64 (((mx (-719528) (ji2)) + 719468) - (wrap64 (t101 * 146097)))) 146096)))) 365)))) + (wrap64 (Int.tdiv (wrap64 (Int.tdiv (wrap64 ((wrap64 ((wrap64 ((wrap64 (((mx (-719528) (ji2)) + 719468) - (wrap64 (t101 * 146097)))) - (wrap64 (Int.tdiv (wrap64 (((mx (-719528) (ji2)) + 719468) - (wrap64 (t101 * 146097)))) 1460)))) + (wrap64 (Int.tdiv (wrap64 (((mx (-719528) (ji2)) + 719468) - (wrap64 (t101 * 146097)))) 36524)))) - (wrap64 (Int.tdiv (wrap64 (((mx (-719528) (ji2)) + 719468) - (wrap64 (t101 * 146097)))) 146096)))) 365)) 4)))) - (wrap64 (Int.tdiv (wrap64 (Int.tdiv (wrap64 ((wrap64 ((wrap64 ((wrap64 (((mx (-719528) (ji2)) + 719468) - (wrap64 (t101 * 146097)))) - (wrap64 (Int.tdiv (wrap64 (((mx (-719528) (ji2)) + 719468) - (wrap64 (t101 * 146097)))) 1460)))) + (wrap64 (Int.tdiv (wrap64 (((mx (-719528) (ji2)) + 719468) - (wrap64 (t101 * 146097)))) 36524)))) - (wrap64 (Int.tdiv (wrap64 (((mx (-719528) (ji2)) + 719468) - (wrap64 (t101 * 146097)))) 146096)))) 365)) 100)))))))) + 2)) 153)))) + 2)) 5)))) + 1))) else (some (wrap64 ((wrap64 (Int.tdiv (wrap64 ((wrap64 ((wrap64 ((wrap64 (((mx (-719528) (ji2)) + 719468) - (wrap64 (t101 * 146097)))) - (wrap64 (Int.tdiv (wrap64 (((mx (-719528) (ji2)) + 719468) - (wrap64 (t101 * 146097)))) 1460)))) + (wrap64 (Int.tdiv (wrap64 (((mx (-719528) (ji2)) + 719468) - (wrap64 (t101 * 146097)))) 36524)))) - (wrap64 (Int.tdiv (wrap64 (((mx (-719528) (ji2)) + 719468) - (wrap64 (t101 * 146097)))) 146096)))) 365)) + (wrap64 (t101 * 400))), wrap64 ((wrap64 (Int.tdiv (wrap64 ((wrap64 (5 * (wrap64 ((wrap64 (((mx (-719528) (ji2)) + 719468) - (wrap64 (t101 * 146097)))) - (wrap64 ((wrap64 ((wrap64 (365 * (wrap64 (Int.tdiv (wrap64 ((wrap64 ((wrap64 ((wrap64 (((mx (-719528) (ji2)) + 719468) - (wrap64 (t101 * 146097)))) - (wrap64 (Int.tdiv (wrap64 (((mx (-719528) (ji2)) + 719468) - (wrap64 (t101 * 146097)))) 1460)))) + (wrap64 (Int.tdiv (wrap64 (((mx (-719528) (ji2)) + 719468) - (wrap64 (t101 * 146097)))) 36524)))) - (wrap64 (Int.tdiv (wrap64 (((mx (-719528) (ji2)) + 719468) - (wrap64 (t101 * 146097)))) 146096)))) 365)))) + (wrap64 (Int.tdiv (wrap64 (Int.tdiv (wrap64 ((wrap64 ((wrap64 ((wrap64 (((mx (-719528) (ji2)) + 719468) - (wrap64 (t101 * 146097)))) - (wrap64 (Int.tdiv (wrap64 (((mx (-719528) (ji2)) + 719468) - (wrap64 (t101 * 146097)))) 1460)))) + (wrap64 (Int.tdiv (wrap64 (((mx (-719528) (ji2)) + 719468) - (wrap64 (t101 * 146097)))) 36524)))) - (wrap64 (Int.tdiv (wrap64 (((mx (-719528) (ji2)) + 719468) - (wrap64 (t101 * 146097)))) 146096)))) 365)) 4)))) - (wrap64 (Int.tdiv (wrap64 (Int.tdiv (wrap64 ((wrap64 ((wrap64 ((wrap64 (((mx (-719528) (ji2)) + 719468) - (wrap64 (t101 * 146097)))) - (wrap64 (Int.tdiv (wrap64 (((mx (-719528) (ji2)) + 719468) - (wrap64 (t101 * 146097)))) 1460)))) + (wrap64 (Int.tdiv (wrap64 (((mx (-719528) (ji2)) + 719468) - (wrap64 (t101 * 146097)))) 36524)))) - (wrap64 (Int.tdiv (wrap64 (((mx (-719528) (ji2)) + 719468) - (wrap64 (t101 * 146097)))) 146096)))) 365)) 100)))))))) + 2)) 153)) + 3), wrap64 ((wrap64 ((wrap64 ((wrap64 (((mx (-719528) (ji2)) + 719468) - (wrap64 (t101 * 146097)))) - (wrap64 ((wrap64 ((wrap64 (365 * (wrap64 (Int.tdiv (wrap64 ((wrap64 ((wrap64 ((wrap64 (((mx (-719528) (ji2)) + 719468) - (wrap64 (t101 * 146097)))) - (wrap64 (Int.tdiv (wrap64 (((mx (-719528) (ji2)) + 719468) - (wrap64 (t101 * 146097)))) 1460)))) + (wrap64 (Int.tdiv (wrap64 (((mx (-719528) (ji2)) + 719468) - (wrap64 (t101 * 146097)))) 36524)))) - (wrap64 (Int.tdiv (wrap64 (((mx (-719528) (ji2)) + 719468) - (wrap64 (t101 * 146097)))) 146096)))) 365)))) + (wrap64 (Int.tdiv (wrap64 (Int.tdiv (wrap64 ((wrap64 ((wrap64 ((wrap64 (((mx (-719528) (ji2)) + 719468) - (wrap64 (t101 * 146097)))) - (wrap64 (Int.tdiv (wrap64 (((mx (-719528) (ji2)) + 719468) - (wrap64 (t101 * 146097)))) 1460)))) + (wrap64 (Int.tdiv (wrap64 (((mx (-719528) (ji2)) + 719468) - (wrap64 (t101 * 146097)))) 36524)))) - (wrap64 (Int.tdiv (wrap64 (((mx (-719528) (ji2)) + 719468) - (wrap64 (t101 * 146097)))) 146096)))) 365)) 4)))) - (wrap64 (Int.tdiv (wrap64 (Int.tdiv (wrap64 ((wrap64 ((wrap64 ((wrap64 (((mx (-719528) (ji2)) + 719468) - (wrap64 (t101 * 146097)))) - (wrap64 (Int.tdiv (wrap64 (((mx (-719528) (ji2)) + 719468) - (wrap64 (t101 * 146097)))) 1460)))) + (wrap64 (Int.tdiv (wrap64 (((mx (-719528) (ji2)) + 719468) - (wrap64 (t101 * 146097)))) 36524)))) - (wrap64 (Int.tdiv (wrap64 (((mx (-719528) (ji2)) + 719468) - (wrap64 (t101 * 146097)))) 146096)))) 365)) 100)))))) - (wrap64 (Int.tdiv (wrap64 ((wrap64 (153 * (wrap64 (Int.tdiv (wrap64 ((wrap64 (5 * (wrap64 ((wrap64 (((mx (-719528) (ji2)) + 719468) - (wrap64 (t101 * 146097)))) - (wrap64 ((wrap64 ((wrap64 (365 * (wrap64 (Int.tdiv (wrap64 ((wrap64 ((wrap64 ((wrap64 (((mx (-719528) (ji2)) + 719468) - (wrap64 (t101 * 146097)))) - (wrap64 (Int.tdiv (wrap64 (((mx (-719528) (ji2)) + 719468) - (wrap64 (t101 * 146097)))) 1460)))) + (wrap64 (Int.tdiv (wrap64 (((mx (-719528) (ji2)) + 719468) - (wrap64 (t101 * 146097)))) 36524)))) - (wrap64 (Int.tdiv (wrap64 (((mx (-719528) (ji2)) + 719468) - (wrap64 (t101 * 146097)))) 146096)))) 365)))) + (wrap64 (Int.tdiv (wrap64 (Int.tdiv (wrap64 ((wrap64 ((wrap64 ((wrap64 (((mx (-719528) (ji2)) + 719468) - (wrap64 (t101 * 146097)))) - (wrap64 (Int.tdiv (wrap64 (((mx (-719528) (ji2)) + 719468) - (wrap64 (t101 * 146097)))) 1460)))) + (wrap64 (Int.tdiv (wrap64 (((mx (-719528) (ji2)) + 719468) - (wrap64 (t101 * 146097)))) 36524)))) - (wrap64 (Int.tdiv (wrap64 (((mx (-719528) (ji2)) + 719468) - (wrap64 (t101 * 146097)))) 146096)))) 365)) 4)))) - (wrap64 (Int.tdiv (wrap64 (Int.tdiv (wrap64 ((wrap64 ((wrap64 ((wrap64 (((mx (-719528) (ji2)) + 719468) - (wrap64 (t101 * 146097)))) - (wrap64 (Int.tdiv (wrap64 (((mx (-719528) (ji2)) + 719468) - (wrap64 (t101 * 146097)))) 1460)))) + (wrap64 (Int.tdiv (wrap64 (((mx (-719528) (ji2)) + 719468) - (wrap64 (t101 * 146097)))) 36524)))) - (wrap64 (Int.tdiv (wrap64 (((mx (-719528) (ji2)) + 719468) - (wrap64 (t101 * 146097)))) 146096)))) 365)) 100)))))))) + 2)) 153)))) + 2)) 5)))) + 1))))) = some (r1, r2, r3) := by first | (rw [hji2] at H; exact H) | (simp only [hji2] at H ⊢; exact H)
  (try (have hji2h : ji2 ≤ 2932896 := by (rw [← hji2]; unfold mn; (repeat' split) <;> omega)))
  (try (have hji2g : ji2 ≤ 64 := by omega))
  have hji2_ : (if 2932896 < a0 then 2932896 else a0) = ji2 := hji2
  obtain ⟨ji3, hji3⟩ : ∃ j_ : Int, (mx (-719528) (ji2)) = j_ := ⟨_, rfl⟩
  replace H : ((stamp_floor.f ((ji3) + 719468) 146097).bind fun t101 => (if (wrap64 ((wrap64 (Int.tdiv (wrap64 ((wrap64 (5 * (wrap64 ((wrap64 (((ji3) + 719468) - (wrap64 (t101 * 146097)))) - (wrap64 ((wrap64 ((wrap64 (365 * (wrap64 (Int.tdiv (wrap64 ((wrap64 ((wrap64 ((wrap64 (((ji3) + 719468) - (wrap64 (t101 * 146097)))) - (wrap64 (Int.tdiv (wrap64 (((ji3) + 719468) - (wrap64 (t101 * 146097)))) 1460)))) + (wrap64 (Int.tdiv (wrap64 (((ji3) + 719468) - (wrap64 (t101 * 146097)))) 36524)))) - (wrap64 (Int.tdiv (wrap64 (((ji3) + 719468) - (wrap64 (t101 * 146097)))) 146096)))) 365)))) + (wrap64 (Int.tdiv (wrap64 (Int.tdiv (wrap64 ((wrap64 ((wrap64 ((wrap64 (((ji3) + 719468) - (wrap64 (t101 * 146097)))) - (wrap64 (Int.tdiv (wrap64 (((ji3) + 719468) - (wrap64 (t101 * 146097)))) 1460)))) + (wrap64 (Int.tdiv (wrap64 (((ji3) + 719468) - (wrap64 (t101 * 146097)))) 36524)))) - (wrap64 (Int.tdiv (wrap64 (((ji3) + 719468) - (wrap64 (t101 * 146097)))) 146096)))) 365)) 4)))) - (wrap64 (Int.tdiv (wrap64 (Int.tdiv (wrap64 ((wrap64 ((wrap64 ((wrap64 (((ji3) + 719468) - (wrap64 (t101 * 146097)))) - (wrap64 (Int.tdiv (wrap64 (((ji3) + 719468) - (wrap64 (t101 * 146097)))) 1460)))) + (wrap64 (Int.tdiv (wrap64 (((ji3) + 719468) - (wrap64 (t101 * 146097)))) 36524)))) - (wrap64 (Int.tdiv (wrap64 (((ji3) + 719468) - (wrap64 (t101 * 146097)))) 146096)))) 365)) 100)))))))) + 2)) 153)) + 3)) > 12 then (some (wrap64 ((wrap64 ((wrap64 (Int.tdiv (wrap64 ((wrap64 ((wrap64 ((wrap64 (((ji3) + 719468) - (wrap64 (t101 * 146097)))) - (wrap64 (Int.tdiv (wrap64 (((ji3) + 719468) - (wrap64 (t101 * 146097)))) 1460)))) + (wrap64 (Int.tdiv (wrap64 (((ji3) + 719468) - (wrap64 (t101 * 146097)))) 36524)))) - (wrap64 (Int.tdiv (wrap64 (((ji3) + 719468) - (wrap64 (t101 * 146097)))) 146096)))) 365)) + (wrap64 (t101 * 400)))) + 1), wrap64 ((wrap64 ((wrap64 (Int.tdiv (wrap64 ((wrap64 (5 * (wrap64 ((wrap64 (((ji3) + 719468) - (wrap64 (t101 * 146097)))) - (wrap64 ((wrap64 ((wrap64 (365 * (wrap64 (Int.tdiv (wrap64 ((wrap64 ((wrap64 ((wrap64 (((ji3) + 719468) - (wrap64 (t101 * 146097)))) - (wrap64 (Int.tdiv (wrap64 (((ji3) + 719468) - (wrap64 (t101 * 146097)))) 1460)))) + (wrap64 (Int.tdiv (wrap64 (((ji3) + 719468) - (wrap64 (t101 * 146097)))) 36524)))) - (wrap64 (Int.tdiv (wrap64 (((ji3) + 719468) - (wrap64 (t101 * 146097)))) 146096)))) 365)))) + (wrap64 (Int.tdiv (wrap64 (Int.tdiv (wrap64 ((wrap64 ((wrap64 ((wrap64 (((ji3) + 719468) - (wrap64 (t101 * 146097)))) - (wrap64 (Int.tdiv (wrap64 (((ji3) + 719468) - (wrap64 (t101 * 146097)))) 1460)))) + (wrap64 (Int.tdiv (wrap64 (((ji3) + 719468) - (wrap64 (t101 * 146097)))) 36524)))) - (wrap64 (Int.tdiv (wrap64 (((ji3) + 719468) - (wrap64 (t101 * 146097)))) 146096)))) 365)) 4)))) - (wrap64 (Int.tdiv (wrap64 (Int.tdiv (wrap64 ((wrap64 ((wrap64 ((wrap64 (((ji3) + 719468) - (wrap64 (t101 * 146097)))) - (wrap64 (Int.tdiv (wrap64 (((ji3) + 719468) - (wrap64 (t101 * 146097)))) 1460)))) + (wrap64 (Int.tdiv (wrap64 (((ji3) + 719468) - (wrap64 (t101 * 146097)))) 36524)))) - (wrap64 (Int.tdiv (wrap64 (((ji3) + 719468) - (wrap64 (t101 * 146097)))) 146096)))) 365)) 100)))))))) + 2)) 153)) + 3)) - 12), wrap64 ((wrap64 ((wrap64 ((wrap64 (((ji3) + 719468) - (wrap64 (t101 * 146097)))) - (wrap64 ((wrap64 ((wrap64 (365 * (wrap64 (Int.tdiv (wrap64 ((wrap64 ((wrap64 ((wrap64 (((ji3) + 719468) - (wrap64 (t101 * 146097)))) - (wrap64 (Int.tdiv (wrap64 (((ji3) + 719468) - (wrap64 (t101 * 146097)))) 1460)))) + (wrap64 (Int.tdiv (wrap64 (((ji3) + 719468) - (wrap64 (t101 * 146097)))) 36524)))) - (wrap64 (Int.tdiv (wrap64 (((ji3) + 719468) - (wrap64 (t101 * 146097)))) 146096)))) 365)))) + (wrap64 (Int.tdiv (wrap64 (Int.tdiv (wrap64 ((wrap64 ((wrap64 ((wrap64 (((ji3) + 719468) - (wrap64 (t101 * 146097)))) - (wrap64 (Int.tdiv (wrap64 (((ji3) + 719468) - (wrap64 (t101 * 146097)))) 1460)))) + (wrap64 (Int.tdiv (wrap64 (((ji3) + 719468) - (wrap64 (t101 * 146097)))) 36524)))) - (wrap64 (Int.tdiv (wrap64 (((ji3) + 719468) - (wrap64 (t101 * 146097)))) 146096)))) 365)) 4)))) - (wrap64 (Int.tdiv (wrap64 (Int.tdiv (wrap64 ((wrap64 ((wrap64 ((wrap64 (((ji3) + 719468) - (wrap64 (t101 * 146097)))) - (wrap64 (Int.tdiv (wrap64 (((ji3) + 719468) - (wrap64 (t101 * 146097)))) 1460)))) + (wrap64 (Int.tdiv (wrap64 (((ji3) + 719468) - (wrap64 (t101 * 146097)))) 36524)))) - (wrap64 (Int.tdiv (wrap64 (((ji3) + 719468) - (wrap64 (t101 * 146097)))) 146096)))) 365)) 100)))))) - (wrap64 (Int.tdiv (wrap64 ((wrap64 (153 * (wrap64 (Int.tdiv (wrap64 ((wrap64 (5 * (wrap64 ((wrap64 (((ji3) + 719468) - (wrap64 (t101 * 146097)))) - (wrap64 ((wrap64 ((wrap64 (365 * (wrap64 (Int.tdiv (wrap64 ((wrap64 ((wrap64 ((wrap64 (((ji3) + 719468) - (wrap64 (t101 * 146097)))) - (wrap64 (Int.tdiv (wrap64 (((ji3) + 719468) - (wrap64 (t101 * 146097)))) 1460)))) + (wrap64 (Int.tdiv (wrap64 (((ji3) + 719468) - (wrap64 (t101 * 146097)))) 36524)))) - (wrap64 (Int.tdiv (wrap64 (((ji3) + 719468) - (wrap64 (t101 * 146097)))) 146096)))) 365)))) + (wrap64 (Int.tdiv (wrap64 (Int.tdiv (wrap64 ((wrap64 ((wrap64 ((wrap64 (((ji3) + 719468) - (wrap64 (t101 * 146097)))) - (wrap64 (Int.tdiv (wrap64 (((ji3) + 719468) - (wrap64 (t101 * 146097)))) 1460)))) + (wrap64 (Int.tdiv (wrap64 (((ji3) + 719468) - (wrap64 (t101 * 146097)))) 36524)))) - (wrap64 (Int.tdiv (wrap64 (((ji3) + 719468) - (wrap64 (t101 * 146097)))) 146096)))) 365)) 4)))) - (wrap64 (Int.tdiv (wrap64 (Int.tdiv (wrap64 ((wrap64 ((wrap64 ((wrap64 (((ji3) + 719468) - (wrap64 (t101 * 146097)))) - (wrap64 (Int.tdiv (wrap64 (((ji3) + 719468) - (wrap64 (t101 * 146097)))) 1460)))) + (wrap64 (Int.tdiv (wrap64 (((ji3) + 719468) - (wrap64 (t101 * 146097)))) 36524)))) - (wrap64 (Int.tdiv (wrap64 (((ji3) + 719468) - (wrap64 (t101 * 146097)))) 146096)))) 365)) 100)))))))) + 2)) 153)))) + 2)) 5)))) + 1))) else (some (wrap64 ((wrap64 (Int.tdiv (wrap64 ((wrap64 ((wrap64 ((wrap64 (((ji3) + 719468) - (wrap64 (t101 * 146097)))) - (wrap64 (Int.tdiv (wrap64 (((ji3) + 719468) - (wrap64 (t101 * 146097)))) 1460)))) + (wrap64 (Int.tdiv (wrap64 (((ji3) + 719468) - (wrap64 (t101 * 146097)))) 36524)))) - (wrap64 (Int.tdiv (wrap64 (((ji3) + 719468) - (wrap64 (t101 * 146097)))) 146096)))) 365)) + (wrap64 (t101 * 400))), wrap64 ((wrap64 (Int.tdiv (wrap64 ((wrap64 (5 * (wrap64 ((wrap64 (((ji3) + 719468) - (wrap64 (t101 * 146097)))) - (wrap64 ((wrap64 ((wrap64 (365 * (wrap64 (Int.tdiv (wrap64 ((wrap64 ((wrap64 ((wrap64 (((ji3) + 719468) - (wrap64 (t101 * 146097)))) - (wrap64 (Int.tdiv (wrap64 (((ji3) + 719468) - (wrap64 (t101 * 146097)))) 1460)))) + (wrap64 (Int.tdiv (wrap64 (((ji3) + 719468) - (wrap64 (t101 * 146097)))) 36524)))) - (wrap64 (Int.tdiv (wrap64 (((ji3) + 719468) - (wrap64 (t101 * 146097)))) 146096)))) 365)))) + (wrap64 (Int.tdiv (wrap64 (Int.tdiv (wrap64 ((wrap64 ((wrap64 ((wrap64 (((ji3) + 719468) - (wrap64 (t101 * 146097)))) - (wrap64 (Int.tdiv (wrap64 (((ji3) + 719468) - (wrap64 (t101 * 146097)))) 1460)))) + (wrap64 (Int.tdiv (wrap64 (((ji3) + 719468) - (wrap64 (t101 * 146097)))) 36524)))) - (wrap64 (Int.tdiv (wrap64 (((ji3) + 719468) - (wrap64 (t101 * 146097)))) 146096)))) 365)) 4)))) - (wrap64 (Int.tdiv (wrap64 (Int.tdiv (wrap64 ((wrap64 ((wrap64 ((wrap64 (((ji3) + 719468) - (wrap64 (t101 * 146097)))) - (wrap64 (Int.tdiv (wrap64 (((ji3) + 719468) - (wrap64 (t101 * 146097)))) 1460)))) + (wrap64 (Int.tdiv (wrap64 (((ji3) + 719468) - (wrap64 (t101 * 146097)))) 36524)))) - (wrap64 (Int.tdiv (wrap64 (((ji3) + 719468) - (wrap64 (t101 * 146097)))) 146096)))) 365)) 100)))))))) + 2)) 153)) + 3), wrap64 ((wrap64 ((wrap64 ((wrap64 (((ji3) + 719468) - (wrap64 (t101 * 146097)))) - (wrap64 ((wrap64 ((wrap64 (365 * (wrap64 (Int.tdiv (wrap64 ((wrap64 ((wrap64 ((wrap64 (((ji3) + 719468) - (wrap64 (t101 * 146097)))) - (wrap64 (Int.tdiv (wrap64 (((ji3) + 719468) - (wrap64 (t101 * 146097)))) 1460)))) + (wrap64 (Int.tdiv (wrap64 (((ji3) + 719468) - (wrap64 (t101 * 146097)))) 36524)))) - (wrap64 (Int.tdiv (wrap64 (((ji3) + 719468) - (wrap64 (t101 * 146097)))) 146096)))) 365)))) + (wrap64 (Int.tdiv (wrap64 (Int.tdiv (wrap64 ((wrap64 ((wrap64 ((wrap64 (((ji3) + 719468) - (wrap64 (t101 * 146097)))) - (wrap64 (Int.tdiv (wrap64 (((ji3) + 719468) - (wrap64 (t101 * 146097)))) 1460)))) + (wrap64 (Int.tdiv (wrap64 (((ji3) + 719468) - (wrap64 (t101 * 146097)))) 36524)))) - (wrap64 (Int.tdiv (wrap64 (((ji3) + 719468) - (wrap64 (t101 * 146097)))) 146096)))) 365)) 4)))) - (wrap64 (Int.tdiv (wrap64 (Int.tdiv (wrap64 ((wrap64 ((wrap64 ((wrap64 (((ji3) + 719468) - (wrap64 (t101 * 146097)))) - (wrap64 (Int.tdiv (wrap64 (((ji3) + 719468) - (wrap64 (t101 * 146097)))) 1460)))) + (wrap64 (Int.tdiv (wrap64 (((ji3) + 719468) - (wrap64 (t101 * 146097)))) 36524)))) - (wrap64 (Int.tdiv (wrap64 (((ji3) + 719468) - (wrap64 (t101 * 146097)))) 146096)))) 365)) 100)))))) - (wrap64 (Int.tdiv (wrap64 ((wrap64 (153 * (wrap64 (Int.tdiv (wrap64 ((wrap64 (5 * (wrap64 ((wrap64 (((ji3) + 719468) - (wrap64 (t101 * 146097)))) - (wrap64 ((wrap64 ((wrap64 (365 * (wrap64 (Int.tdiv (wrap64 ((wrap64 ((wrap64 ((wrap64 (((ji3) + 719468) - (wrap64 (t101 * 146097)))) - (wrap64 (Int.tdiv (wrap64 (((ji3) + 719468) - (wrap64 (t101 * 146097)))) 1460)))) + (wrap64 (Int.tdiv (wrap64 (((ji3) + 719468) - (wrap64 (t101 * 146097)))) 36524)))) - (wrap64 (Int.tdiv (wrap64 (((ji3) + 719468) - (wrap64 (t101 * 146097)))) 146096)))) 365)))) + (wrap64 (Int.tdiv (wrap64 (Int.tdiv (wrap64 ((wrap64 ((wrap64 ((wrap64 (((ji3) + 719468) - (wrap64 (t101 * 146097)))) - (wrap64 (Int.tdiv (wrap64 (((ji3) + 719468) - (wrap64 (t101 * 146097)))) 1460)))) + (wrap64 (Int.tdiv (wrap64 (((ji3) + 719468) - (wrap64 (t101 * 146097)))) 36524)))) - (wrap64 (Int.tdiv (wrap64 (((ji3) + 719468) - (wrap64 (t101 * 146097)))) 146096)))) 365)) 4)))) - (wrap64 (Int.tdiv (wrap64 (Int.tdiv (wrap64 ((wrap64 ((wrap64 ((wrap64 (((ji3) + 719468) - (wrap64 (t101 * 146097)))) - (wrap64 (Int.tdiv (wrap64 (((ji3) + 719468) - (wrap64 (t101 * 146097)))) 1460)))) + (wrap64 (Int.tdiv (wrap64 (((ji3) + 719468) - (wrap64 (t101 * 146097)))) 36524)))) - (wrap64 (Int.tdiv (wrap64 (((ji3) + 719468) - (wrap64 (t101 * 146097)))) 146096)))) 365)) 100)))))))) + 2)) 153)))) + 2)) 5)))) + 1))))) = some (r1, r2, r3) := by first | (rw [hji3] at H; exact H) | (simp only [hji3] at H ⊢; exact H)
  have hji3_ : (if (-719528) < (ji2) then (ji2) else (-719528)) = ji3 := hji3
  replace H := Option.bind_eq_some_iff.mp H
  obtain ⟨t101, A40, H⟩ := H
  replace H : (if (wrap64 ((wrap64 (Int.tdiv (wrap64 ((wrap64 (5 * (wrap64 ((wrap64 (((ji3) + 719468) - (wrap64 (t101 * 146097)))) - (wrap64 ((wrap64 ((wrap64 (365 * (wrap64 (Int.tdiv (wrap64 ((wrap64 ((wrap64 ((wrap64 (((ji3) + 719468) - (wrap64 (t101 * 146097)))) - (wrap64 (Int.tdiv (wrap64 (((ji3) + 719468) - (wrap64 (t101 * 146097)))) 1460)))) + (wrap64 (Int.tdiv (wrap64 (((ji3) + 719468) - (wrap64 (t101 * 146097)))) 36524)))) - (wrap64 (Int.tdiv (wrap64 (((ji3) + 719468) - (wrap64 (t101 * 146097)))) 146096)))) 365)))) + (wrap64 (Int.tdiv (wrap64 (Int.tdiv (wrap64 ((wrap64 ((wrap64 ((wrap64 (((ji3) + 719468) - (wrap64 (t101 * 146097)))) - (wrap64 (Int.tdiv (wrap64 (((ji3) + 719468) - (wrap64 (t101 * 146097)))) 1460)))) + (wrap64 (Int.tdiv (wrap64 (((ji3) + 719468) - (wrap64 (t101 * 146097)))) 36524)))) - (wrap64 (Int.tdiv (wrap64 (((ji3) + 719468) - (wrap64 (t101 * 146097)))) 146096)))) 365)) 4)))) - (wrap64 (Int.tdiv (wrap64 (Int.tdiv (wrap64 ((wrap64 ((wrap64 ((wrap64 (((ji3) + 719468) - (wrap64 (t101 * 146097)))) - (wrap64 (Int.tdiv (wrap64 (((ji3) + 719468) - (wrap64 (t101 * 146097)))) 1460)))) + (wrap64 (Int.tdiv (wrap64 (((ji3) + 719468) - (wrap64 (t101 * 146097)))) 36524)))) - (wrap64 (Int.tdiv (wrap64 (((ji3) + 719468) - (wrap64 (t101 * 146097)))) 146096)))) 365)) 100)))))))) + 2)) 153)) + 3)) > 12 then (some (wrap64 ((wrap64 ((wrap64 (Int.tdiv (wrap64 ((wrap64 ((wrap64 ((wrap64 (((ji3) + 719468) - (wrap64 (t101 * 146097)))) - (wrap64 (Int.tdiv (wrap64 (((ji3) + 719468) - (wrap64 (t101 * 146097)))) 1460)))) + (wrap64 (Int.tdiv (wrap64 (((ji3) + 719468) - (wrap64 (t101 * 146097)))) 36524)))) - (wrap64 (Int.tdiv (wrap64 (((ji3) + 719468) - (wrap64 (t101 * 146097)))) 146096)))) 365)) + (wrap64 (t101 * 400)))) + 1), wrap64 ((wrap64 ((wrap64 (Int.tdiv (wrap64 ((wrap64 (5 * (wrap64 ((wrap64 (((ji3) + 719468) - (wrap64 (t101 * 146097)))) - (wrap64 ((wrap64 ((wrap64 (365 * (wrap64 (Int.tdiv (wrap64 ((wrap64 ((wrap64 ((wrap64 (((ji3) + 719468) - (wrap64 (t101 * 146097)))) - (wrap64 (Int.tdiv (wrap64 (((ji3) + 719468) - (wrap64 (t101 * 146097)))) 1460)))) + (wrap64 (Int.tdiv (wrap64 (((ji3) + 719468) - (wrap64 (t101 * 146097)))) 36524)))) - (wrap64 (Int.tdiv (wrap64 (((ji3) + 719468) - (wrap64 (t101 * 146097)))) 146096)))) 365)))) + (wrap64 (Int.tdiv (wrap64 (Int.tdiv (wrap64 ((wrap64 ((wrap64 ((wrap64 (((ji3) + 719468) - (wrap64 (t101 * 146097)))) - (wrap64 (Int.tdiv (wrap64 (((ji3) + 719468) - (wrap64 (t101 * 146097)))) 1460)))) + (wrap64 (Int.tdiv (wrap64 (((ji3) + 719468) - (wrap64 (t101 * 146097)))) 36524)))) - (wrap64 (Int.tdiv (wrap64 (((ji3) + 719468) - (wrap64 (t101 * 146097)))) 146096)))) 365)) 4)))) - (wrap64 (Int.tdiv (wrap64 (Int.tdiv (wrap64 ((wrap64 ((wrap64 ((wrap64 (((ji3) + 719468) - (wrap64 (t101 * 146097)))) - (wrap64 (Int.tdiv (wrap64 (((ji3) + 719468) - (wrap64 (t101 * 146097)))) 1460)))) + (wrap64 (Int.tdiv (wrap64 (((ji3) + 719468) - (wrap64 (t101 * 146097)))) 36524)))) - (wrap64 (Int.tdiv (wrap64 (((ji3) + 719468) - (wrap64 (t101 * 146097)))) 146096)))) 365)) 100)))))))) + 2)) 153)) + 3)) - 12), wrap64 ((wrap64 ((wrap64 ((wrap64 (((ji3) + 719468) - (wrap64 (t101 * 146097)))) - (wrap64 ((wrap64 ((wrap64 (365 * (wrap64 (Int.tdiv (wrap64 ((wrap64 ((wrap64 ((wrap64 (((ji3) + 719468) - (wrap64 (t101 * 146097)))) - (wrap64 (Int.tdiv (wrap64 (((ji3) + 719468) - (wrap64 (t101 * 146097)))) 1460)))) + (wrap64 (Int.tdiv (wrap64 (((ji3) + 719468) - (wrap64 (t101 * 146097)))) 36524)))) - (wrap64 (Int.tdiv (wrap64 (((ji3) + 719468) - (wrap64 (t101 * 146097)))) 146096)))) 365)))) + (wrap64 (Int.tdiv (wrap64 (Int.tdiv (wrap64 ((wrap64 ((wrap64 ((wrap64 (((ji3) + 719468) - (wrap64 (t101 * 146097)))) - (wrap64 (Int.tdiv (wrap64 (((ji3) + 719468) - (wrap64 (t101 * 146097)))) 1460)))) + (wrap64 (Int.tdiv (wrap64 (((ji3) + 719468) - (wrap64 (t101 * 146097)))) 36524)))) - (wrap64 (Int.tdiv (wrap64 (((ji3) + 719468) - (wrap64 (t101 * 146097)))) 146096)))) 365)) 4)))) - (wrap64 (Int.tdiv (wrap64 (Int.tdiv (wrap64 ((wrap64 ((wrap64 ((wrap64 (((ji3) + 719468) - (wrap64 (t101 * 146097)))) - (wrap64 (Int.tdiv (wrap64 (((ji3) + 719468) - (wrap64 (t101 * 146097)))) 1460)))) + (wrap64 (Int.tdiv (wrap64 (((ji3) + 719468) - (wrap64 (t101 * 146097)))) 36524)))) - (wrap64 (Int.tdiv (wrap64 (((ji3) + 719468) - (wrap64 (t101 * 146097)))) 146096)))) 365)) 100)))))) - (wrap64 (Int.tdiv (wrap64 ((wrap64 (153 * (wrap64 (Int.tdiv (wrap64 ((wrap64 (5 * (wrap64 ((wrap64 (((ji3) + 719468) - (wrap64 (t101 * 146097)))) - (wrap64 ((wrap64 ((wrap64 (365 * (wrap64 (Int.tdiv (wrap64 ((wrap64 ((wrap64 ((wrap64 (((ji3) + 719468) - (wrap64 (t101 * 146097)))) - (wrap64 (Int.tdiv (wrap64 (((ji3) + 719468) - (wrap64 (t101 * 146097)))) 1460)))) + (wrap64 (Int.tdiv (wrap64 (((ji3) + 719468) - (wrap64 (t101 * 146097)))) 36524)))) - (wrap64 (Int.tdiv (wrap64 (((ji3) + 719468) - (wrap64 (t101 * 146097)))) 146096)))) 365)))) + (wrap64 (Int.tdiv (wrap64 (Int.tdiv (wrap64 ((wrap64 ((wrap64 ((wrap64 (((ji3) + 719468) - (wrap64 (t101 * 146097)))) - (wrap64 (Int.tdiv (wrap64 (((ji3) + 719468) - (wrap64 (t101 * 146097)))) 1460)))) + (wrap64 (Int.tdiv (wrap64 (((ji3) + 719468) - (wrap64 (t101 * 146097)))) 36524)))) - (wrap64 (Int.tdiv (wrap64 (((ji3) + 719468) - (wrap64 (t101 * 146097)))) 146096)))) 365)) 4)))) - (wrap64 (Int.tdiv (wrap64 (Int.tdiv (wrap64 ((wrap64 ((wrap64 ((wrap64 (((ji3) + 719468) - (wrap64 (t101 * 146097)))) - (wrap64 (Int.tdiv (wrap64 (((ji3) + 719468) - (wrap64 (t101 * 146097)))) 1460)))) + (wrap64 (Int.tdiv (wrap64 (((ji3) + 719468) - (wrap64 (t101 * 146097)))) 36524)))) - (wrap64 (Int.tdiv (wrap64 (((ji3) + 719468) - (wrap64 (t101 * 146097)))) 146096)))) 365)) 100)))))))) + 2)) 153)))) + 2)) 5)))) + 1))) else (some (wrap64 ((wrap64 (Int.tdiv (wrap64 ((wrap64 ((wrap64 ((wrap64 (((ji3) + 719468) - (wrap64 (t101 * 146097)))) - (wrap64 (Int.tdiv (wrap64 (((ji3) + 719468) - (wrap64 (t101 * 146097)))) 1460)))) + (wrap64 (Int.tdiv (wrap64 (((ji3) + 719468) - (wrap64 (t101 * 146097)))) 36524)))) - (wrap64 (Int.tdiv (wrap64 (((ji3) + 719468) - (wrap64 (t101 * 146097)))) 146096)))) 365)) + (wrap64 (t101 * 400))), wrap64 ((wrap64 (Int.tdiv (wrap64 ((wrap64 (5 * (wrap64 ((wrap64 (((ji3) + 719468) - (wrap64 (t101 * 146097)))) - (wrap64 ((wrap64 ((wrap64 (365 * (wrap64 (Int.tdiv (wrap64 ((wrap64 ((wrap64 ((wrap64 (((ji3) + 719468) - (wrap64 (t101 * 146097)))) - (wrap64 (Int.tdiv (wrap64 (((ji3) + 719468) - (wrap64 (t101 * 146097)))) 1460)))) + (wrap64 (Int.tdiv (wrap64 (((ji3) + 719468) - (wrap64 (t101 * 146097)))) 36524)))) - (wrap64 (Int.tdiv (wrap64 (((ji3) + 719468) - (wrap64 (t101 * 146097)))) 146096)))) 365)))) + (wrap64 (Int.tdiv (wrap64 (Int.tdiv (wrap64 ((wrap64 ((wrap64 ((wrap64 (((ji3) + 719468) - (wrap64 (t101 * 146097)))) - (wrap64 (Int.tdiv (wrap64 (((ji3) + 719468) - (wrap64 (t101 * 146097)))) 1460)))) + (wrap64 (Int.tdiv (wrap64 (((ji3) + 719468) - (wrap64 (t101 * 146097)))) 36524)))) - (wrap64 (Int.tdiv (wrap64 (((ji3) + 719468) - (wrap64 (t101 * 146097)))) 146096)))) 365)) 4)))) - (wrap64 (Int.tdiv (wrap64 (Int.tdiv (wrap64 ((wrap64 ((wrap64 ((wrap64 (((ji3) + 719468) - (wrap64 (t101 * 146097)))) - (wrap64 (Int.tdiv (wrap64 (((ji3) + 719468) - (wrap64 (t101 * 146097)))) 1460)))) + (wrap64 (Int.tdiv (wrap64 (((ji3) + 719468) - (wrap64 (t101 * 146097)))) 36524)))) - (wrap64 (Int.tdiv (wrap64 (((ji3) + 719468) - (wrap64 (t101 * 146097)))) 146096)))) 365)) 100)))))))) + 2)) 153)) + 3), wrap64 ((wrap64 ((wrap64 ((wrap64 (((ji3) + 719468) - (wrap64 (t101 * 146097)))) - (wrap64 ((wrap64 ((wrap64 (365 * (wrap64 (Int.tdiv (wrap64 ((wrap64 ((wrap64 ((wrap64 (((ji3) + 719468) - (wrap64 (t101 * 146097)))) - (wrap64 (Int.tdiv (wrap64 (((ji3) + 719468) - (wrap64 (t101 * 146097)))) 1460)))) + (wrap64 (Int.tdiv (wrap64 (((ji3) + 719468) - (wrap64 (t101 * 146097)))) 36524)))) - (wrap64 (Int.tdiv (wrap64 (((ji3) + 719468) - (wrap64 (t101 * 146097)))) 146096)))) 365)))) + (wrap64 (Int.tdiv (wrap64 (Int.tdiv (wrap64 ((wrap64 ((wrap64 ((wrap64 (((ji3) + 719468) - (wrap64 (t101 * 146097)))) - (wrap64 (Int.tdiv (wrap64 (((ji3) + 719468) - (wrap64 (t101 * 146097)))) 1460)))) + (wrap64 (Int.tdiv (wrap64 (((ji3) + 719468) - (wrap64 (t101 * 146097)))) 36524)))) - (wrap64 (Int.tdiv (wrap64 (((ji3) + 719468) - (wrap64 (t101 * 146097)))) 146096)))) 365)) 4)))) - (wrap64 (Int.tdiv (wrap64 (Int.tdiv (wrap64 ((wrap64 ((wrap64 ((wrap64 (((ji3) + 719468) - (wrap64 (t101 * 146097)))) - (wrap64 (Int.tdiv (wrap64 (((ji3) + 719468) - (wrap64 (t101 * 146097)))) 1460)))) + (wrap64 (Int.tdiv (wrap64 (((ji3) + 719468) - (wrap64 (t101 * 146097)))) 36524)))) - (wrap64 (Int.tdiv (wrap64 (((ji3) + 719468) - (wrap64 (t101 * 146097)))) 146096)))) 365)) 100)))))) - (wrap64 (Int.tdiv (wrap64 ((wrap64 (153 * (wrap64 (Int.tdiv (wrap64 ((wrap64 (5 * (wrap64 ((wrap64 (((ji3) + 719468) - (wrap64 (t101 * 146097)))) - (wrap64 ((wrap64 ((wrap64 (365 * (wrap64 (Int.tdiv (wrap64 ((wrap64 ((wrap64 ((wrap64 (((ji3) + 719468) - (wrap64 (t101 * 146097)))) - (wrap64 (Int.tdiv (wrap64 (((ji3) + 719468) - (wrap64 (t101 * 146097)))) 1460)))) + (wrap64 (Int.tdiv (wrap64 (((ji3) + 719468) - (wrap64 (t101 * 146097)))) 36524)))) - (wrap64 (Int.tdiv (wrap64 (((ji3) + 719468) - (wrap64 (t101 * 146097)))) 146096)))) 365)))) + (wrap64 (Int.tdiv (wrap64 (Int.tdiv (wrap64 ((wrap64 ((wrap64 ((wrap64 (((ji3) + 719468) - (wrap64 (t101 * 146097)))) - (wrap64 (Int.tdiv (wrap64 (((ji3) + 719468) - (wrap64 (t101 * 146097)))) 1460)))) + (wrap64 (Int.tdiv (wrap64 (((ji3) + 719468) - (wrap64 (t101 * 146097)))) 36524)))) - (wrap64 (Int.tdiv (wrap64 (((ji3) + 719468) - (wrap64 (t101 * 146097)))) 146096)))) 365)) 4)))) - (wrap64 (Int.tdiv (wrap64 (Int.tdiv (wrap64 ((wrap64 ((wrap64 ((wrap64 (((ji3) + 719468) - (wrap64 (t101 * 146097)))) - (wrap64 (Int.tdiv (wrap64 (((ji3) + 719468) - (wrap64 (t101 * 146097)))) 1460)))) + (wrap64 (Int.tdiv (wrap64 (((ji3) + 719468) - (wrap64 (t101 * 146097)))) 36524)))) - (wrap64 (Int.tdiv (wrap64 (((ji3) + 719468) - (wrap64 (t101 * 146097)))) 146096)))) 365)) 100)))))))) + 2)) 153)))) + 2)) 5)))) + 1)))) = some (r1, r2, r3) := H
  have A4 := Aside0.mk A40
  clear A40
  by_cases c5 : (wrap64 ((wrap64 (Int.tdiv (wrap64 ((wrap64 (5 * (wrap64 ((wrap64 (((ji3) + 719468) - (wrap64 (t101 * 146097)))) - (wrap64 ((wrap64 ((wrap64 (365 * (wrap64 (Int.tdiv (wrap64 ((wrap64 ((wrap64 ((wrap64 (((ji3) + 719468) - (wrap64 (t101 * 146097)))) - (wrap64 (Int.tdiv (wrap64 (((ji3) + 719468) - (wrap64 (t101 * 146097)))) 1460)))) + (wrap64 (Int.tdiv (wrap64 (((ji3) + 719468) - (wrap64 (t101 * 146097)))) 36524)))) - (wrap64 (Int.tdiv (wrap64 (((ji3) + 719468) - (wrap64 (t101 * 146097)))) 146096)))) 365)))) + (wrap64 (Int.tdiv (wrap64 (Int.tdiv (wrap64 ((wrap64 ((wrap64 ((wrap64 (((ji3) + 719468) - (wrap64 (t101 * 146097)))) - (wrap64 (Int.tdiv (wrap64 (((ji3) + 719468) - (wrap64 (t101 * 146097)))) 1460)))) + (wrap64 (Int.tdiv (wrap64 (((ji3) + 719468) - (wrap64 (t101 * 146097)))) 36524)))) - (wrap64 (Int.tdiv (wrap64 (((ji3) + 719468) - (wrap64 (t101 * 146097)))) 146096)))) 365)) 4)))) - (wrap64 (Int.tdiv (wrap64 (Int.tdiv (wrap64 ((wrap64 ((wrap64 ((wrap64 (((ji3) + 719468) - (wrap64 (t101 * 146097)))) - (wrap64 (Int.tdiv (wrap64 (((ji3) + 719468) - (wrap64 (t101 * 146097)))) 1460)))) + (wrap64 (Int.tdiv (wrap64 (((ji3) + 719468) - (wrap64 (t101 * 146097)))) 36524)))) - (wrap64 (Int.tdiv (wrap64 (((ji3) + 719468) - (wrap64 (t101 * 146097)))) 146096)))) 365)) 100)))))))) + 2)) 153)) + 3)) > 12
  · rw [if_pos c5] at H
    have c5b0 : decide (12 < (wrap64 ((wrap64 (Int.tdiv (wrap64 ((wrap64 (5 * (wrap64 ((wrap64 (((ji3) + 719468) - (wrap64 (t101 * 146097)))) - (wrap64 ((wrap64 ((wrap64 (365 * (wrap64 (Int.tdiv (wrap64 ((wrap64 ((wrap64 ((wrap64 (((ji3) + 719468) - (wrap64 (t101 * 146097)))) - (wrap64 (Int.tdiv (wrap64 (((ji3) + 719468) - (wrap64 (t101 * 146097)))) 1460)))) + (wrap64 (Int.tdiv (wrap64 (((ji3) + 719468) - (wrap64 (t101 * 146097)))) 36524)))) - (wrap64 (Int.tdiv (wrap64 (((ji3) + 719468) - (wrap64 (t101 * 146097)))) 146096)))) 365)))) + (wrap64 (Int.tdiv (wrap64 (Int.tdiv (wrap64 ((wrap64 ((wrap64 ((wrap64 (((ji3) + 719468) - (wrap64 (t101 * 146097)))) - (wrap64 (Int.tdiv (wrap64 (((ji3) + 719468) - (wrap64 (t101 * 146097)))) 1460)))) + (wrap64 (Int.tdiv (wrap64 (((ji3) + 719468) - (wrap64 (t101 * 146097)))) 36524)))) - (wrap64 (Int.tdiv (wrap64 (((ji3) + 719468) - (wrap64 (t101 * 146097)))) 146096)))) 365)) 4)))) - (wrap64 (Int.tdiv (wrap64 (Int.tdiv (wrap64 ((wrap64 ((wrap64 ((wrap64 (((ji3) + 719468) - (wrap64 (t101 * 146097)))) - (wrap64 (Int.tdiv (wrap64 (((ji3) + 719468) - (wrap64 (t101 * 146097)))) 1460)))) + (wrap64 (Int.tdiv (wrap64 (((ji3) + 719468) - (wrap64 (t101 * 146097)))) 36524)))) - (wrap64 (Int.tdiv (wrap64 (((ji3) + 719468) - (wrap64 (t101 * 146097)))) 146096)))) 365)) 100)))))))) + 2)) 153)) + 3))) = true := decide_eq_true c5
    clear c5
    simp only [Option.some.injEq, Prod.mk.injEq] at H
    obtain ⟨rfl, rfl, rfl⟩ := H
    go_enter Tryd.func8, Tryd.ntmps8
    go_wp2_with (first | ((with_reducible refine gate_callee (f := 23) rfl ?_); refine goesL_ (some 15) rfl rfl Tryd.func23 (by kernel_rfl) rfl #[.int .i64 ((ji3) + 719468), .int .i64 146097] rfl (by (try simp only [List.map_toArray, List.map_cons, List.map_nil]); first | done | (simp only [hji3]; rfl) | rfl | (simp only [List.length_drop, List.length_take]; rfl)) ?_; (with_reducible refine (stamp_floor.calls ((ji3) + 719468) 146097 t101 _ A4.out).mono ?_); rintro e w' ⟨rfl, ⟨nd, rfl⟩⟩; refine ⟨_, rfl, ?_⟩))
    go_ret3
    exact ⟨by first | rfl | (simp [errW_none, errW_some] <;> rfl) | (simp only [← hji2, ← hji3]; first | rfl | (simp [errW_none, errW_some] <;> rfl)) | (simp [*, errW_none, errW_some] <;> rfl), by repeat (first | (with_reducible first | exact HB.out | apply below_alloc | apply pw_below_drewN | apply below_drew1) | exact HB.out)⟩
  · rw [if_neg c5] at H
    have c5b0 : decide (12 < (wrap64 ((wrap64 (Int.tdiv (wrap64 ((wrap64 (5 * (wrap64 ((wrap64 (((ji3) + 719468) - (wrap64 (t101 * 146097)))) - (wrap64 ((wrap64 ((wrap64 (365 * (wrap64 (Int.tdiv (wrap64 ((wrap64 ((wrap64 ((wrap64 (((ji3) + 719468) - (wrap64 (t101 * 146097)))) - (wrap64 (Int.tdiv (wrap64 (((ji3) + 719468) - (wrap64 (t101 * 146097)))) 1460)))) + (wrap64 (Int.tdiv (wrap64 (((ji3) + 719468) - (wrap64 (t101 * 146097)))) 36524)))) - (wrap64 (Int.tdiv (wrap64 (((ji3) + 719468) - (wrap64 (t101 * 146097)))) 146096)))) 365)))) + (wrap64 (Int.tdiv (wrap64 (Int.tdiv (wrap64 ((wrap64 ((wrap64 ((wrap64 (((ji3) + 719468) - (wrap64 (t101 * 146097)))) - (wrap64 (Int.tdiv (wrap64 (((ji3) + 719468) - (wrap64 (t101 * 146097)))) 1460)))) + (wrap64 (Int.tdiv (wrap64 (((ji3) + 719468) - (wrap64 (t101 * 146097)))) 36524)))) - (wrap64 (Int.tdiv (wrap64 (((ji3) + 719468) - (wrap64 (t101 * 146097)))) 146096)))) 365)) 4)))) - (wrap64 (Int.tdiv (wrap64 (Int.tdiv (wrap64 ((wrap64 ((wrap64 ((wrap64 (((ji3) + 719468) - (wrap64 (t101 * 146097)))) - (wrap64 (Int.tdiv (wrap64 (((ji3) + 719468) - (wrap64 (t101 * 146097)))) 1460)))) + (wrap64 (Int.tdiv (wrap64 (((ji3) + 719468) - (wrap64 (t101 * 146097)))) 36524)))) - (wrap64 (Int.tdiv (wrap64 (((ji3) + 719468) - (wrap64 (t101 * 146097)))) 146096)))) 365)) 100)))))))) + 2)) 153)) + 3))) = false := decide_eq_false c5
    clear c5
    simp only [Option.some.injEq, Prod.mk.injEq] at H
    obtain ⟨rfl, rfl, rfl⟩ := H
    go_enter Tryd.func8, Tryd.ntmps8
    go_wp2_with (first | ((with_reducible refine gate_callee (f := 23) rfl ?_); refine goesL_ (some 15) rfl rfl Tryd.func23 (by kernel_rfl) rfl #[.int .i64 ((ji3) + 719468), .int .i64 146097] rfl (by (try simp only [List.map_toArray, List.map_cons, List.map_nil]); first | done | (simp only [hji3]; rfl) | rfl | (simp only [List.length_drop, List.length_take]; rfl)) ?_; (with_reducible refine (stamp_floor.calls ((ji3) + 719468) 146097 t101 _ A4.out).mono ?_); rintro e w' ⟨rfl, ⟨nd, rfl⟩⟩; refine ⟨_, rfl, ?_⟩))
    go_ret3
    exact ⟨by first | rfl | (simp [errW_none, errW_some] <;> rfl) | (simp only [← hji2, ← hji3]; first | rfl | (simp [errW_none, errW_some] <;> rfl)) | (simp [*, errW_none, errW_some] <;> rfl), by repeat (first | (with_reducible first | exact HB.out | apply below_alloc | apply pw_below_drewN | apply below_drew1) | exact HB.out)⟩

/-! ### stamp_days: function 26 -/
def stamp_days.f (a0 : Int) (a1 : Int) (a2 : Int) : Option (Int) := if a1 < 3 then ((stamp_floor.f (wrap64 (a0 - 1)) 400).bind fun t102 => (some (wrap64 ((wrap64 ((wrap64 ((wrap64 ((wrap64 ((wrap64 ((wrap64 (t102 * 146097)) + (wrap64 ((wrap64 ((wrap64 (a0 - 1)) - (wrap64 (t102 * 400)))) * 365)))) + (wrap64 (Int.tdiv (wrap64 ((wrap64 (a0 - 1)) - (wrap64 (t102 * 400)))) 4)))) - (wrap64 (Int.tdiv (wrap64 ((wrap64 (a0 - 1)) - (wrap64 (t102 * 400)))) 100)))) + (wrap64 (Int.tdiv (wrap64 ((wrap64 (153 * (wrap64 ((wrap64 (a1 + 12)) - 3)))) + 2)) 5)))) + a2)) - 719469)))) else ((stamp_floor.f a0 400).bind fun t103 => (some (wrap64 ((wrap64 ((wrap64 ((wrap64 ((wrap64 ((wrap64 ((wrap64 (t103 * 146097)) + (wrap64 ((wrap64 (a0 - (wrap64 (t103 * 400)))) * 365)))) + (wrap64 (Int.tdiv (wrap64 (a0 - (wrap64 (t103 * 400)))) 4)))) - (wrap64 (Int.tdiv (wrap64 (a0 - (wrap64 (t103 * 400)))) 100)))) + (wrap64 (Int.tdiv (wrap64 ((wrap64 (153 * (wrap64 (a1 - 3)))) + 2)) 5)))) + a2)) - 719469))))
set_option maxHeartbeats 8000000 in
set_option maxRecDepth 100000 in
theorem stamp_days.calls (a0 : Int) (a1 : Int) (a2 : Int) (r : Int) (w : World) (h : stamp_days.f a0 a1 a2 = some r) :
    Calls Tryd.prog 26 #[.int .i64 a0, .int .i64 a1, .int .i64 a2] w fun e w' => e = .returned (.int .i64 r) ∧ Drawn0 w w' := by
  have H : (if a1 < 3 then ((stamp_floor.f (wrap64 (a0 - 1)) 400).bind fun t102 => (some (wrap64 ((wrap64 ((wrap64 ((wrap64 ((wrap64 ((wrap64 ((wrap64 (t102 * 146097)) + (wrap64 ((wrap64 ((wrap64 (a0 - 1)) - (wrap64 (t102 * 400)))) * 365)))) + (wrap64 (Int.tdiv (wrap64 ((wrap64 (a0 - 1)) - (wrap64 (t102 * 400)))) 4)))) - (wrap64 (Int.tdiv (wrap64 ((wrap64 (a0 - 1)) - (wrap64 (t102 * 400)))) 100)))) + (wrap64 (Int.tdiv (wrap64 ((wrap64 (153 * (wrap64 ((wrap64 (a1 + 12)) - 3)))) + 2)) 5)))) + a2)) - 719469)))) else ((stamp_floor.f a0 400).bind fun t103 => (some (wrap64 ((wrap64 ((wrap64 ((wrap64 ((wrap64 ((wrap64 ((wrap64 (t103 * 146097)) + (wrap64 ((wrap64 (a0 - (wrap64 (t103 * 400)))) * 365)))) + (wrap64 (Int.tdiv (wrap64 (a0 - (wrap64 (t103 * 400)))) 4)))) - (wrap64 (Int.tdiv (wrap64 (a0 - (wrap64 (t103 * 400)))) 100)))) + (wrap64 (Int.tdiv (wrap64 ((wrap64 (153 * (wrap64 (a1 - 3)))) + 2)) 5)))) + a2)) - 719469))))) = some r := h
  clear h
  by_cases c4 : a1 < 3
  · rw [if_pos c4] at H
    have c4b0 : decide (a1 < 3) = true := decide_eq_true c4
    clear c4
    replace H := Option.bind_eq_some_iff.mp H
    obtain ⟨t102, A50, H⟩ := H
    replace H : (some (wrap64 ((wrap64 ((wrap64 ((wrap64 ((wrap64 ((wrap64 ((wrap64 (t102 * 146097)) + (wrap64 ((wrap64 ((wrap64 (a0 - 1)) - (wrap64 (t102 * 400)))) * 365)))) + (wrap64 (Int.tdiv (wrap64 ((wrap64 (a0 - 1)) - (wrap64 (t102 * 400)))) 4)))) - (wrap64 (Int.tdiv (wrap64 ((wrap64 (a0 - 1)) - (wrap64 (t102 * 400)))) 100)))) + (wrap64 (Int.tdiv (wrap64 ((wrap64 (153 * (wrap64 ((wrap64 (a1 + 12)) - 3)))) + 2)) 5)))) + a2)) - 719469))) = some r := H
    have A5 := Aside0.mk A50
    clear A50
    obtain rfl := Option.some.inj H
    go_enter Tryd.func26, Tryd.ntmps26
    go_wp2_with (first | ((with_reducible refine gate_callee (f := 23) rfl ?_); refine goesL_ (some 16) rfl rfl Tryd.func23 (by kernel_rfl) rfl #[.int .i64 (wrap64 (a0 - 1)), .int .i64 400] rfl (by (try simp only [List.map_toArray, List.map_cons, List.map_nil]); first | done | rfl | (simp only [List.length_drop, List.length_take]; rfl)) ?_; (with_reducible refine (stamp_floor.calls (wrap64 (a0 - 1)) 400 t102 _ A5.out).mono ?_); rintro e w' ⟨rfl, ⟨nd, rfl⟩⟩; refine ⟨_, rfl, ?_⟩))
    go_ret
    exact ⟨by first | rfl | (simp; done) | (simp [*]; done), by repeat (first | exact Drawn0.refl _ | apply Drawn0.step)⟩
  · rw [if_neg c4] at H
    have c4b0 : decide (a1 < 3) = false := decide_eq_false c4
    clear c4
    replace H := Option.bind_eq_some_iff.mp H
    obtain ⟨t103, A60, H⟩ := H
    replace H : (some (wrap64 ((wrap64 ((wrap64 ((wrap64 ((wrap64 ((wrap64 ((wrap64 (t103 * 146097)) + (wrap64 ((wrap64 (a0 - (wrap64 (t103 * 400)))) * 365)))) + (wrap64 (Int.tdiv (wrap64 (a0 - (wrap64 (t103 * 400)))) 4)))) - (wrap64 (Int.tdiv (wrap64 (a0 - (wrap64 (t103 * 400)))) 100)))) + (wrap64 (Int.tdiv (wrap64 ((wrap64 (153 * (wrap64 (a1 - 3)))) + 2)) 5)))) + a2)) - 719469))) = some r := H
    have A6 := Aside0.mk A60
    clear A60
    obtain rfl := Option.some.inj H
    go_enter Tryd.func26, Tryd.ntmps26
    go_wp2_with (first | ((with_reducible refine gate_callee (f := 23) rfl ?_); refine goesL_ (some 16) rfl rfl Tryd.func23 (by kernel_rfl) rfl #[.int .i64 a0, .int .i64 400] rfl (by (try simp only [List.map_toArray, List.map_cons, List.map_nil]); first | done | rfl | (simp only [List.length_drop, List.length_take]; rfl)) ?_; (with_reducible refine (stamp_floor.calls a0 400 t103 _ A6.out).mono ?_); rintro e w' ⟨rfl, ⟨nd, rfl⟩⟩; refine ⟨_, rfl, ?_⟩))
    go_ret
    exact ⟨by first | rfl | (simp; done) | (simp [*]; done), by repeat (first | exact Drawn0.refl _ | apply Drawn0.step)⟩

/-! ### stamp_leap: function 46 -/
def stamp_leap.f (a0 : Int) : Option (Bool) := if (Int.tmod a0 4) = 0 then (if (Int.tmod a0 100) = 0 then (some ((Int.tmod a0 400) == 0)) else (some true)) else (some ((Int.tmod a0 400) == 0))
set_option maxHeartbeats 8000000 in
set_option maxRecDepth 100000 in
theorem stamp_leap.calls (a0 : Int) (r : Bool) (w : World) (h : stamp_leap.f a0 = some r) :
    Calls Tryd.prog 46 #[.int .i64 a0] w fun e w' => e = .returned (.bool r) ∧ Drawn0 w w' := by
  have H : (if (Int.tmod a0 4) = 0 then (if (Int.tmod a0 100) = 0 then (some ((Int.tmod a0 400) == 0)) else (some true)) else (some ((Int.tmod a0 400) == 0))) = some r := h
  clear h
  by_cases c2 : (Int.tmod a0 4) = 0
  · rw [if_pos c2] at H
    have c2b0 : ((Int.tmod a0 4) == 0) = true := beq_iff_eq.mpr c2
    have c2b1 : ((Int.tmod a0 4) != 0) = false := bne_eq_false_iff_eq.mpr c2
    clear c2
    by_cases c3 : (Int.tmod a0 100) = 0
    · rw [if_pos c3] at H
      have c3b0 : ((Int.tmod a0 100) == 0) = true := beq_iff_eq.mpr c3
      have c3b1 : ((Int.tmod a0 100) != 0) = false := bne_eq_false_iff_eq.mpr c3
      clear c3
      obtain rfl := Option.some.inj H
      go_enter Tryd.func46, Tryd.ntmps46
      go_wp2
      go_ret
      exact ⟨by first | rfl | (simp; done) | (simp [*]; done), by repeat (first | exact Drawn0.refl _ | apply Drawn0.step)⟩
    · rw [if_neg c3] at H
      have c3b0 : ((Int.tmod a0 100) == 0) = false := beq_eq_false_iff_ne.mpr c3
      have c3b1 : ((Int.tmod a0 100) != 0) = true := bne_iff_ne.mpr c3
      obtain rfl := Option.some.inj H
      go_enter Tryd.func46, Tryd.ntmps46
      go_wp2
      go_ret
      exact ⟨by first | rfl | (simp; done) | (simp [*]; done), by repeat (first | exact Drawn0.refl _ | apply Drawn0.step)⟩
  · rw [if_neg c2] at H
    have c2b0 : ((Int.tmod a0 4) == 0) = false := beq_eq_false_iff_ne.mpr c2
    have c2b1 : ((Int.tmod a0 4) != 0) = true := bne_iff_ne.mpr c2
    obtain rfl := Option.some.inj H
    go_enter Tryd.func46, Tryd.ntmps46
    go_wp2
    go_ret
    exact ⟨by first | rfl | (simp; done) | (simp [*]; done), by repeat (first | exact Drawn0.refl _ | apply Drawn0.step)⟩

/-! ### stamp_length: function 25 -/
def stamp_length.j0 : Nat → Int → Int → Bool → Option (Int)
  | 0, _, _, _ => none
  | k + 1, x0, x5, x6 => if x6 = true then (some 30) else (if x5 = 2 then ((stamp_leap.f x0).bind fun t104 => (if t104 = true then (some 29) else (some 28))) else (some 31))
def stamp_length.f (k : Nat) (a0 : Int) (a1 : Int) : Option (Int) := if a1 = 4 then (stamp_length.j0 k a0 a1 (a1 == 4)) else (if a1 = 6 then (stamp_length.j0 k a0 a1 (a1 == 6)) else (if a1 = 9 then (stamp_length.j0 k a0 a1 (a1 == 9)) else (stamp_length.j0 k a0 a1 (a1 == 11))))
theorem stamp_length.mono_l : ∀ k, (∀ y0 y1 y2, LeO (stamp_length.j0 k y0 y1 y2) (stamp_length.j0 (k + 1) y0 y1 y2))
  | 0 => fun _ _ _ r h => by simp [stamp_length.j0] at h
  | k + 1 => by
    have ih0 := stamp_length.mono_l k
    · intro y0 y1 y2
      unfold stamp_length.j0
      repeat' first
      | (with_reducible exact ih0 _ _ _)
      | (with_reducible exact LeO.refl _)
      | (with_reducible exact LeO.none _)
      | (with_reducible refine LeO.ite ?_ ?_)
      | (with_reducible refine LeO.bind ?_ (fun _ => ?_))
      | exact ih0 _ _ _
      | exact LeO.none _
      | refine LeO.ite ?_ ?_
      | refine LeO.bind ?_ (fun _ => ?_)
theorem stamp_length.mono : ∀ a0 a1 k, LeO (stamp_length.f k a0 a1) (stamp_length.f (k + 1) a0 a1) := by
  intro a0 a1 k
  have ih0 := stamp_length.mono_l k
  unfold stamp_length.f
  repeat' first
      | (with_reducible exact ih0 _ _ _)
      | (with_reducible exact LeO.refl _)
      | (with_reducible exact LeO.none _)
      | (with_reducible refine LeO.ite ?_ ?_)
      | (with_reducible refine LeO.bind ?_ (fun _ => ?_))
      | exact ih0 _ _ _
      | exact LeO.none _
      | refine LeO.ite ?_ ?_
      | refine LeO.bind ?_ (fun _ => ?_)
set_option maxHeartbeats 8000000 in
set_option maxRecDepth 100000 in
theorem stamp_length.calls (k : Nat) (a0 : Int) (a1 : Int) (r : Int) (w : World) (h : stamp_length.f k a0 a1 = some r) :
    Calls Tryd.prog 25 #[.int .i64 a0, .int .i64 a1] w fun e w' => e = .returned (.int .i64 r) ∧ Drawn0 w w' := by
  have H : (if a1 = 4 then (stamp_length.j0 k a0 a1 (a1 == 4)) else (if a1 = 6 then (stamp_length.j0 k a0 a1 (a1 == 6)) else (if a1 = 9 then (stamp_length.j0 k a0 a1 (a1 == 9)) else (stamp_length.j0 k a0 a1 (a1 == 11))))) = some r := h
  clear h
  have HC3 := Aside0.mk H
  clear H
  go_enter Tryd.func25, Tryd.ntmps25
  go_upto_if 6 with (fail)
  go_cut [6] (fun v6 wc => ∃ (kq : Nat) (x6_2 : Bool), v6 = .bool x6_2 ∧ Aside0 (stamp_length.j0 kq a0 a1 x6_2 = some r) ∧ Aside0 (kq ≤ k) ∧ Drawn0 w wc)
  case first =>
    have H := HC3.out
    clear HC3
    by_cases c4 : a1 = 4
    · rw [if_pos c4] at H
      have c4b0 : (a1 == 4) = true := beq_iff_eq.mpr c4
      have c4b1 : (a1 != 4) = false := bne_eq_false_iff_eq.mpr c4
      clear c4
      (first | rw [c4b0] | (simp only [i64_w, i32_w]; rw [c4b0]) | skip)
      have H' := Aside0.mk H
      clear H
      go_wp2
      go_meet
      case rel => exact ⟨_, ((a1 == 4)), (by first | rfl | (simp; done) | (simp [*]; done)), H', ⟨by first | omega | exact Nat.le_refl _⟩, by repeat (first | exact Drawn0.refl _ | apply Drawn0.step)⟩
    · rw [if_neg c4] at H
      have c4b0 : (a1 == 4) = false := beq_eq_false_iff_ne.mpr c4
      have c4b1 : (a1 != 4) = true := bne_iff_ne.mpr c4
      (first | rw [c4b0] | (simp only [i64_w, i32_w]; rw [c4b0]) | skip)
      by_cases c5 : a1 = 6
      · rw [if_pos c5] at H
        have c5b0 : (a1 == 6) = true := beq_iff_eq.mpr c5
        have c5b1 : (a1 != 6) = false := bne_eq_false_iff_eq.mpr c5
        clear c5
        have H' := Aside0.mk H
        clear H
        go_wp2
        go_meet
        case rel => exact ⟨_, ((a1 == 6)), (by first | rfl | (simp; done) | (simp [*]; done)), H', ⟨by first | omega | exact Nat.le_refl _⟩, by repeat (first | exact Drawn0.refl _ | apply Drawn0.step)⟩
      · rw [if_neg c5] at H
        have c5b0 : (a1 == 6) = false := beq_eq_false_iff_ne.mpr c5
        have c5b1 : (a1 != 6) = true := bne_iff_ne.mpr c5
        by_cases c6 : a1 = 9
        · rw [if_pos c6] at H
          have c6b0 : (a1 == 9) = true := beq_iff_eq.mpr c6
          have c6b1 : (a1 != 9) = false := bne_eq_false_iff_eq.mpr c6
          clear c6
          have H' := Aside0.mk H
          clear H
          go_wp2
          go_meet
          case rel => exact ⟨_, ((a1 == 9)), (by first | rfl | (simp; done) | (simp [*]; done)), H', ⟨by first | omega | exact Nat.le_refl _⟩, by repeat (first | exact Drawn0.refl _ | apply Drawn0.step)⟩
        · rw [if_neg c6] at H
          have c6b0 : (a1 == 9) = false := beq_eq_false_iff_ne.mpr c6
          have c6b1 : (a1 != 9) = true := bne_iff_ne.mpr c6
          have H' := Aside0.mk H
          clear H
          go_wp2
          go_meet
          case rel => exact ⟨_, ((a1 == 11)), (by first | rfl | (simp; done) | (simp [*]; done)), H', ⟨by first | omega | exact Nat.le_refl _⟩, by repeat (first | exact Drawn0.refl _ | apply Drawn0.step)⟩
  case rest =>
    clear HC3
    try clear c2
    try clear p2
    try clear c4
    try clear c4b0
    try clear c4b1
    try clear c5
    try clear c5b0
    try clear c5b1
    try clear c6
    try clear c6b0
    try clear c6b1
    obtain ⟨kq, x6_2, rfl, HA, HJ2, ⟨mc2, rfl⟩⟩ := hcut
    cases kq with
    | zero => exact absurd HA.out (by simp [stamp_length.j0])
    | succ kj2 =>
      have H := HA.out
      clear HA
      simp only [stamp_length.j0] at H
      by_cases c7 : x6_2 = true
      · subst c7
        have H1 : (some 30) = some r := by rw [if_pos rfl] at H; exact H
        clear H
        have H := H1
        clear H1
        obtain rfl := Option.some.inj H
        go_wp2
        go_ret
        exact ⟨by first | rfl | (simp; done) | (simp [*]; done), by repeat (first | exact Drawn0.refl _ | apply Drawn0.step)⟩
      · replace c7 := Bool.eq_false_iff.mpr c7
        subst c7
        have H1 : (if a1 = 2 then ((stamp_leap.f a0).bind fun t104 => (if t104 = true then (some 29) else (some 28))) else (some 31)) = some r := by rw [if_neg (show ¬ (false = true) by decide)] at H; exact H
        clear H
        have H := H1
        clear H1
        by_cases c8 : a1 = 2
        · rw [if_pos c8] at H
          have c8b0 : (a1 == 2) = true := beq_iff_eq.mpr c8
          have c8b1 : (a1 != 2) = false := bne_eq_false_iff_eq.mpr c8
          clear c8
          replace H := Option.bind_eq_some_iff.mp H
          obtain ⟨t104, A90, H⟩ := H
          replace H : (if t104 = true then (some 29) else (some 28)) = some r := H
          have A9 := Aside0.mk A90
          clear A90
          by_cases c10 : t104 = true
          · subst c10
            have H1 : (some 29) = some r := by rw [if_pos rfl] at H; exact H
            clear H
            have H := H1
            clear H1
            obtain rfl := Option.some.inj H
            go_wp2_with (first | ((with_reducible refine gate_callee (f := 46) rfl ?_); refine goesL_ (some 14) rfl rfl Tryd.func46 (by kernel_rfl) rfl #[.int .i64 a0] rfl (by (try simp only [List.map_toArray, List.map_cons, List.map_nil]); first | done | rfl | (simp only [List.length_drop, List.length_take]; rfl)) ?_; (with_reducible refine (stamp_leap.calls a0 true _ A9.out).mono ?_); rintro e w' ⟨rfl, ⟨nd, rfl⟩⟩; refine ⟨_, rfl, ?_⟩))
            go_ret
            exact ⟨by first | rfl | (simp; done) | (simp [*]; done), by repeat (first | exact Drawn0.refl _ | apply Drawn0.step)⟩
          · replace c10 := Bool.eq_false_iff.mpr c10
            subst c10
            have H1 : (some 28) = some r := by rw [if_neg (show ¬ (false = true) by decide)] at H; exact H
            clear H
            have H := H1
            clear H1
            obtain rfl := Option.some.inj H
            go_wp2_with (first | ((with_reducible refine gate_callee (f := 46) rfl ?_); refine goesL_ (some 14) rfl rfl Tryd.func46 (by kernel_rfl) rfl #[.int .i64 a0] rfl (by (try simp only [List.map_toArray, List.map_cons, List.map_nil]); first | done | rfl | (simp only [List.length_drop, List.length_take]; rfl)) ?_; (with_reducible refine (stamp_leap.calls a0 false _ A9.out).mono ?_); rintro e w' ⟨rfl, ⟨nd, rfl⟩⟩; refine ⟨_, rfl, ?_⟩))
            go_ret
            exact ⟨by first | rfl | (simp; done) | (simp [*]; done), by repeat (first | exact Drawn0.refl _ | apply Drawn0.step)⟩
        · rw [if_neg c8] at H
          have c8b0 : (a1 == 2) = false := beq_eq_false_iff_ne.mpr c8
          have c8b1 : (a1 != 2) = true := bne_iff_ne.mpr c8
          obtain rfl := Option.some.inj H
          go_wp2
          go_ret
          exact ⟨by first | rfl | (simp; done) | (simp [*]; done), by repeat (first | exact Drawn0.refl _ | apply Drawn0.step)⟩

/-! ### stamp_Week: function 21 -/
def stamp_Week.f (a0 : Int) : Option (Int) := some (Int.tmod (wrap64 ((wrap64 ((Int.tmod a0 7) + 7)) + 3)) 7)
set_option maxHeartbeats 8000000 in
set_option maxRecDepth 100000 in
theorem stamp_Week.calls (a0 : Int) (r : Int) (w : World) (h : stamp_Week.f a0 = some r) :
    Calls Tryd.prog 21 #[.int .i64 a0] w fun e w' => e = .returned (.int .i64 r) ∧ Drawn0 w w' := by
  have H : (some (Int.tmod (wrap64 ((wrap64 ((Int.tmod a0 7) + 7)) + 3)) 7)) = some r := h
  clear h
  obtain rfl := Option.some.inj H
  go_enter Tryd.func21, Tryd.ntmps21
  go_wp2
  go_ret
  exact ⟨by first | rfl | (simp; done) | (simp [*]; done), by repeat (first | exact Drawn0.refl _ | apply Drawn0.step)⟩

-- OF OUR OWN: function 56 (strconv_Itoa)

/-! ### stamp_digits: function 40 -/
def stamp_digits.l0 : Nat → Int → ByteArray → Option (ByteArray)
  | 0, _, _ => none
  | k + 1, x1, x5 => if (x5.size : Int) < x1 then (if 1 + x5.size ≤ 9223372036854775807 then (stamp_digits.l0 k x1 ((⟨#[48]⟩ : ByteArray) ++ x5)) else (none)) else (some x5)
def stamp_digits.f (k : Nat) (a0 : Int) (a1 : Int) : Option (ByteArray) := (strconv_Itoa.f a0).bind fun t105 => (stamp_digits.l0 k a1 t105)
theorem stamp_digits.mono_l : ∀ k, (∀ y0 y1, LeO (stamp_digits.l0 k y0 y1) (stamp_digits.l0 (k + 1) y0 y1))
  | 0 => fun _ _ r h => by simp [stamp_digits.l0] at h
  | k + 1 => by
    have ih0 := stamp_digits.mono_l k
    · intro y0 y1
      unfold stamp_digits.l0
      repeat' first
      | (with_reducible exact ih0 _ _)
      | (with_reducible exact LeO.refl _)
      | (with_reducible exact LeO.none _)
      | (with_reducible refine LeO.ite ?_ ?_)
      | (with_reducible refine LeO.bind ?_ (fun _ => ?_))
      | exact ih0 _ _
      | exact LeO.none _
      | refine LeO.ite ?_ ?_
      | refine LeO.bind ?_ (fun _ => ?_)
theorem stamp_digits.mono : ∀ a0 a1 k, LeO (stamp_digits.f k a0 a1) (stamp_digits.f (k + 1) a0 a1) := by
  intro a0 a1 k
  have ih0 := stamp_digits.mono_l k
  unfold stamp_digits.f
  repeat' first
      | (with_reducible exact ih0 _ _)
      | (with_reducible exact LeO.refl _)
      | (with_reducible exact LeO.none _)
      | (with_reducible refine LeO.ite ?_ ?_)
      | (with_reducible refine LeO.bind ?_ (fun _ => ?_))
      | exact ih0 _ _
      | exact LeO.none _
      | refine LeO.ite ?_ ?_
      | refine LeO.bind ?_ (fun _ => ?_)
set_option maxHeartbeats 8000000 in
set_option maxRecDepth 100000 in
theorem stamp_digits.calls (k : Nat) (a0 : Int) (a1 : Int) (r : ByteArray) (w : World) (hG : GInv w) (h : stamp_digits.f k a0 a1 = some r) :
    Calls Tryd.prog 40 #[.int .i64 a0, .int .i64 a1] w fun e w' => e = .returned (.string r) ∧ Below w.heap.size w w' := by
  have HB := Aside0.mk (Below.refl w.heap.size w)
  have H : ((strconv_Itoa.f a0).bind fun t105 => (stamp_digits.l0 k a1 t105)) = some r := h
  clear h
  replace H := Option.bind_eq_some_iff.mp H
  obtain ⟨t105, A30, H⟩ := H
  replace H : (stamp_digits.l0 k a1 t105) = some r := H
  have A3 := Aside0.mk A30
  clear A30
  have H' := Aside0.mk H
  clear H
  go_enter Tryd.func40, Tryd.ntmps40
  go_wp2_with (first | ((with_reducible refine gate_callee (f := 56) rfl ?_); refine goesL_ (some 7) rfl rfl Tryd.func56 (by kernel_rfl) rfl #[.int .i64 a0] rfl (by (try simp only [List.map_toArray, List.map_cons, List.map_nil]); first | done | rfl | (simp only [List.length_drop, List.length_take]; rfl)) ?_; (with_reducible refine (strconv_Itoa.calls a0 t105 _ ?side1 A3.out).mono ?_); (case side1 => first | exact hG | exact GInv.drewN hG _ | exact GInv.below hG (by repeat (first | (with_reducible first | exact HB.out | apply below_alloc | apply pw_below_drewN | apply below_drew1) | exact HB.out))); rintro e w4 ⟨rfl, hb⟩; refine ⟨_, rfl, ?_⟩; have n0_ := Aside0.mk (below_step (by repeat (first | (with_reducible first | exact HB.out | apply below_alloc | apply pw_below_drewN | apply below_drew1) | exact HB.out)) hb); clear HB; have HB := n0_; clear n0_; (try clear hb); (try clear hb2); (try clear hk); (try clear hi)))
  go_loopg [5] k (fun kq v5 w' => ∃ (x5_1 : ByteArray), v5 = .string x5_1 ∧ Aside0 (stamp_digits.l0 kq a1 x5_1 = some r) ∧ Aside0 (kq ≤ k) ∧ Aside0 (Below w.heap.size w w'))
  case atStart => exact ⟨(t105), (by first | rfl | (simp; done) | (simp [*]; done)), H', ⟨Nat.le_refl _⟩, ⟨by repeat (first | (with_reducible first | exact HB.out | apply below_alloc | apply pw_below_drewN | apply below_drew1) | exact HB.out)⟩⟩
  case round =>
    clear H'
    try clear p2
    try clear c4
    obtain ⟨x5_1, rfl, HA, HK1, HB⟩ := hrel
    cases gk with
    | zero => exact absurd HA.out (by simp [stamp_digits.l0])
    | succ k1 =>
      have H := HA.out
      clear HA
      simp only [stamp_digits.l0] at H
      by_cases c5 : (x5_1.size : Int) < a1
      · rw [if_pos c5] at H
        have c5b0 : decide ((x5_1.size : Int) < a1) = true := decide_eq_true c5
        clear c5
        by_cases c6 : 1 + x5_1.size ≤ 9223372036854775807
        · rw [if_pos c6] at H
          have c6b0 := eq_true c6
          have c6b1 : decide (1 + x5_1.size ≤ 9223372036854775807) = true := decide_eq_true c6
          try have c6b2 : (9223372036854775807 < 1 + x5_1.size) = False := eq_false (Nat.not_lt.2 c6)
          have H' := Aside0.mk H
          clear H
          go_wp2
          go_roundg k1
          case measure => have := HK1.out; omega
          case rel => exact ⟨((⟨#[48]⟩ : ByteArray) ++ x5_1), (by first | rfl | (simp; done) | (simp [*]; done)), H', ⟨by have := HK1.out; omega⟩, ⟨by repeat (first | (with_reducible first | exact HB.out | apply below_alloc | apply pw_below_drewN | apply below_drew1) | exact HB.out)⟩⟩
        · rw [if_neg c6] at H
          exact absurd H (by simp)
      · rw [if_neg c5] at H
        have c5b0 : decide ((x5_1.size : Int) < a1) = false := decide_eq_false c5
        clear c5
        obtain rfl := Option.some.inj H
        go_wp2
        go_ret
        exact ⟨by first | rfl | (simp [errW_none, errW_some] <;> rfl) | (simp [*, errW_none, errW_some] <;> rfl), by repeat (first | (with_reducible first | exact HB.out | apply below_alloc | apply pw_below_drewN | apply below_drew1) | exact HB.out)⟩

/-! ### stamp_parted: function 39 -/
def stamp_parted.f (k : Nat) (a0_0 : Int) (a0_1 : Int) : Option (Int × ByteArray) := (stamp_floor.f a0_0 86400).bind fun t107 => ((stamp_digits.f k (wrap64 (Int.tdiv (wrap64 (a0_0 - (wrap64 (t107 * 86400)))) 3600)) 2).bind fun t108 => (if t108.size + 1 ≤ 9223372036854775807 then ((stamp_digits.f k (Int.tmod (wrap64 (Int.tdiv (wrap64 (a0_0 - (wrap64 (t107 * 86400)))) 60)) 60) 2).bind fun t109 => (if (t108 ++ (⟨#[58]⟩ : ByteArray)).size + t109.size ≤ 9223372036854775807 then (if ((t108 ++ (⟨#[58]⟩ : ByteArray)) ++ t109).size + 1 ≤ 9223372036854775807 then ((stamp_digits.f k (Int.tmod (wrap64 (a0_0 - (wrap64 (t107 * 86400)))) 60) 2).bind fun t110 => (if (((t108 ++ (⟨#[58]⟩ : ByteArray)) ++ t109) ++ (⟨#[58]⟩ : ByteArray)).size + t110.size ≤ 9223372036854775807 then (some (t107, (((t108 ++ (⟨#[58]⟩ : ByteArray)) ++ t109) ++ (⟨#[58]⟩ : ByteArray)) ++ t110)) else (none))) else (none)) else (none))) else (none)))
theorem stamp_parted.mono : ∀ a0 a1 k, LeO (stamp_parted.f k a0 a1) (stamp_parted.f (k + 1) a0 a1) := by
  intro a0 a1 k
  unfold stamp_parted.f
  repeat' first
      | (with_reducible exact stamp_digits.mono _ _ _)
      | (with_reducible exact LeO.refl _)
      | (with_reducible exact LeO.none _)
      | (with_reducible refine LeO.ite ?_ ?_)
      | (with_reducible refine LeO.bind ?_ (fun _ => ?_))
      | exact stamp_digits.mono _ _ _
      | exact LeO.none _
      | refine LeO.ite ?_ ?_
      | refine LeO.bind ?_ (fun _ => ?_)
set_option maxHeartbeats 8000000 in
set_option maxRecDepth 100000 in
theorem stamp_parted.calls (k : Nat) (a0_0 : Int) (a0_1 : Int) (r1 : Int) (r2 : ByteArray) (w : World) (hG : GInv w) (h : stamp_parted.f k a0_0 a0_1 = some (r1, r2)) :
    Calls Tryd.prog 39 #[.agg #[.int .i64 a0_0, .int .i64 a0_1]] w fun e w' => e = .returned (.tuple #[.int .i64 r1, .string r2]) ∧ Below w.heap.size w w' := by
  have hu31 := Tryd.underlying31
  have HB := Aside0.mk (Below.refl w.heap.size w)
  have H : ((stamp_floor.f a0_0 86400).bind fun t107 => ((stamp_digits.f k (wrap64 (Int.tdiv (wrap64 (a0_0 - (wrap64 (t107 * 86400)))) 3600)) 2).bind fun t108 => (if t108.size + 1 ≤ 9223372036854775807 then ((stamp_digits.f k (Int.tmod (wrap64 (Int.tdiv (wrap64 (a0_0 - (wrap64 (t107 * 86400)))) 60)) 60) 2).bind fun t109 => (if (t108 ++ (⟨#[58]⟩ : ByteArray)).size + t109.size ≤ 9223372036854775807 then (if ((t108 ++ (⟨#[58]⟩ : ByteArray)) ++ t109).size + 1 ≤ 9223372036854775807 then ((stamp_digits.f k (Int.tmod (wrap64 (a0_0 - (wrap64 (t107 * 86400)))) 60) 2).bind fun t110 => (if (((t108 ++ (⟨#[58]⟩ : ByteArray)) ++ t109) ++ (⟨#[58]⟩ : ByteArray)).size + t110.size ≤ 9223372036854775807 then (some (t107, (((t108 ++ (⟨#[58]⟩ : ByteArray)) ++ t109) ++ (⟨#[58]⟩ : ByteArray)) ++ t110)) else (none))) else (none)) else (none))) else (none)))) = some (r1, r2) := h
  clear h
  replace H := Option.bind_eq_some_iff.mp H
  obtain ⟨t107, A20, H⟩ := H
  replace H : ((stamp_digits.f k (wrap64 (Int.tdiv (wrap64 (a0_0 - (wrap64 (t107 * 86400)))) 3600)) 2).bind fun t108 => (if t108.size + 1 ≤ 9223372036854775807 then ((stamp_digits.f k (Int.tmod (wrap64 (Int.tdiv (wrap64 (a0_0 - (wrap64 (t107 * 86400)))) 60)) 60) 2).bind fun t109 => (if (t108 ++ (⟨#[58]⟩ : ByteArray)).size + t109.size ≤ 9223372036854775807 then (if ((t108 ++ (⟨#[58]⟩ : ByteArray)) ++ t109).size + 1 ≤ 9223372036854775807 then ((stamp_digits.f k (Int.tmod (wrap64 (a0_0 - (wrap64 (t107 * 86400)))) 60) 2).bind fun t110 => (if (((t108 ++ (⟨#[58]⟩ : ByteArray)) ++ t109) ++ (⟨#[58]⟩ : ByteArray)).size + t110.size ≤ 9223372036854775807 then (some (t107, (((t108 ++ (⟨#[58]⟩ : ByteArray)) ++ t109) ++ (⟨#[58]⟩ : ByteArray)) ++ t110)) else (none))) else (none)) else (none))) else (none))) = some (r1, r2) := H
  have A2 := Aside0.mk A20
  clear A20
  replace H := Option.bind_eq_some_iff.mp H
  obtain ⟨t108, A30, H⟩ := H
  replace H : (if t108.size + 1 ≤ 9223372036854775807 then ((stamp_digits.f k (Int.tmod (wrap64 (Int.tdiv (wrap64 (a0_0 - (wrap64 (t107 * 86400)))) 60)) 60) 2).bind fun t109 => (if (t108 ++ (⟨#[58]⟩ : ByteArray)).size + t109.size ≤ 9223372036854775807 then (if ((t108 ++ (⟨#[58]⟩ : ByteArray)) ++ t109).size + 1 ≤ 9223372036854775807 then ((stamp_digits.f k (Int.tmod (wrap64 (a0_0 - (wrap64 (t107 * 86400)))) 60) 2).bind fun t110 => (if (((t108 ++ (⟨#[58]⟩ : ByteArray)) ++ t109) ++ (⟨#[58]⟩ : ByteArray)).size + t110.size ≤ 9223372036854775807 then (some (t107, (((t108 ++ (⟨#[58]⟩ : ByteArray)) ++ t109) ++ (⟨#[58]⟩ : ByteArray)) ++ t110)) else (none))) else (none)) else (none))) else (none)) = some (r1, r2) := H
  have A3 := Aside0.mk A30
  clear A30
  by_cases c4 : t108.size + 1 ≤ 9223372036854775807
  · rw [if_pos c4] at H
    have c4b0 := eq_true c4
    have c4b1 : decide (t108.size + 1 ≤ 9223372036854775807) = true := decide_eq_true c4
    try have c4b2 : (9223372036854775807 < t108.size + 1) = False := eq_false (Nat.not_lt.2 c4)
    replace H := Option.bind_eq_some_iff.mp H
    obtain ⟨t109, A50, H⟩ := H
    replace H : (if (t108 ++ (⟨#[58]⟩ : ByteArray)).size + t109.size ≤ 9223372036854775807 then (if ((t108 ++ (⟨#[58]⟩ : ByteArray)) ++ t109).size + 1 ≤ 9223372036854775807 then ((stamp_digits.f k (Int.tmod (wrap64 (a0_0 - (wrap64 (t107 * 86400)))) 60) 2).bind fun t110 => (if (((t108 ++ (⟨#[58]⟩ : ByteArray)) ++ t109) ++ (⟨#[58]⟩ : ByteArray)).size + t110.size ≤ 9223372036854775807 then (some (t107, (((t108 ++ (⟨#[58]⟩ : ByteArray)) ++ t109) ++ (⟨#[58]⟩ : ByteArray)) ++ t110)) else (none))) else (none)) else (none)) = some (r1, r2) := H
    have A5 := Aside0.mk A50
    clear A50
    by_cases c6 : (t108 ++ (⟨#[58]⟩ : ByteArray)).size + t109.size ≤ 9223372036854775807
    · rw [if_pos c6] at H
      have c6b0 := eq_true c6
      have c6b1 : decide ((t108 ++ (⟨#[58]⟩ : ByteArray)).size + t109.size ≤ 9223372036854775807) = true := decide_eq_true c6
      try have c6b2 : (9223372036854775807 < (t108 ++ (⟨#[58]⟩ : ByteArray)).size + t109.size) = False := eq_false (Nat.not_lt.2 c6)
      (try (have c6b3 := c6; simp only [ByteArray.size_append, show (⟨#[58]⟩ : ByteArray).size = 1 from rfl] at c6b3))
      by_cases c7 : ((t108 ++ (⟨#[58]⟩ : ByteArray)) ++ t109).size + 1 ≤ 9223372036854775807
      · rw [if_pos c7] at H
        have c7b0 := eq_true c7
        have c7b1 : decide (((t108 ++ (⟨#[58]⟩ : ByteArray)) ++ t109).size + 1 ≤ 9223372036854775807) = true := decide_eq_true c7
        try have c7b2 : (9223372036854775807 < ((t108 ++ (⟨#[58]⟩ : ByteArray)) ++ t109).size + 1) = False := eq_false (Nat.not_lt.2 c7)
        (try (have c7b3 := c7; simp only [ByteArray.size_append, show (⟨#[58]⟩ : ByteArray).size = 1 from rfl] at c7b3))
        replace H := Option.bind_eq_some_iff.mp H
        obtain ⟨t110, A80, H⟩ := H
        replace H : (if (((t108 ++ (⟨#[58]⟩ : ByteArray)) ++ t109) ++ (⟨#[58]⟩ : ByteArray)).size + t110.size ≤ 9223372036854775807 then (some (t107, (((t108 ++ (⟨#[58]⟩ : ByteArray)) ++ t109) ++ (⟨#[58]⟩ : ByteArray)) ++ t110)) else (none)) = some (r1, r2) := H
        have A8 := Aside0.mk A80
        clear A80
        by_cases c9 : (((t108 ++ (⟨#[58]⟩ : ByteArray)) ++ t109) ++ (⟨#[58]⟩ : ByteArray)).size + t110.size ≤ 9223372036854775807
        · rw [if_pos c9] at H
          have c9b0 := eq_true c9
          have c9b1 : decide ((((t108 ++ (⟨#[58]⟩ : ByteArray)) ++ t109) ++ (⟨#[58]⟩ : ByteArray)).size + t110.size ≤ 9223372036854775807) = true := decide_eq_true c9
          try have c9b2 : (9223372036854775807 < (((t108 ++ (⟨#[58]⟩ : ByteArray)) ++ t109) ++ (⟨#[58]⟩ : ByteArray)).size + t110.size) = False := eq_false (Nat.not_lt.2 c9)
          (try (have c9b3 := c9; simp only [ByteArray.size_append, show (⟨#[58]⟩ : ByteArray).size = 1 from rfl] at c9b3))
          simp only [Option.some.injEq, Prod.mk.injEq] at H
          obtain ⟨rfl, rfl⟩ := H
          go_enter Tryd.func39, Tryd.ntmps39
          go_wp2_with (first | ((with_reducible refine gate_dst (N := 1) rfl ?_); refine box_event ?hg (N := 1) ?hd (cs := #[.int .i64 a0_0, .int .i64 a0_1]) (t := 31) ?hr ?_; (case hd => rfl); (case hg => rfl); (case hr => first | (go_simp; done) | (go_simp; rfl)); intro gb106 hg w10 hbox hb; have n0_ := Aside0.mk (below_step (by repeat (first | (with_reducible first | exact HB.out | apply below_alloc | apply pw_below_drewN | apply below_drew1) | exact HB.out)) hb); have n1_ := Aside0.mk (hbox); have n2_ := Aside0.mk ((by rw [hg]; exact (below_size (by repeat (first | (with_reducible first | exact HB.out | apply below_alloc | apply pw_below_drewN | apply below_drew1) | exact HB.out))) : w.heap.size ≤ gb106)); have n3_ := Aside0.mk ((by rw [hg]; exact (below_size (by repeat (first | (with_reducible first | exact HB.out | apply below_alloc | apply pw_below_drewN | apply below_drew1) | exact HB.out))) : w.heap.size ≤ gb106)); clear HB; have HB := n0_; have BK106 := n1_; have GW106 := n2_; have GE106 := n3_; clear n0_ n1_ n2_ n3_; clear hb hbox hg; have hcz11_0 : w10.cell? ⟨gb106, 0, none⟩ = some (.int .i64 a0_0) := (blk_cell BK106.out 0).trans rfl; have hcz11_1 : w10.cell? ⟨gb106, 1, none⟩ = some (.int .i64 a0_1) := (blk_cell BK106.out 1).trans rfl; have hfz11_0 := blk_frozen BK106.out 0; have hfz11_1 := blk_frozen BK106.out 1) | ((with_reducible refine gate_callee (f := 23) rfl ?_); refine goesL_ (some 7) rfl rfl Tryd.func23 (by kernel_rfl) rfl #[.int .i64 a0_0, .int .i64 86400] rfl (by (try simp only [List.map_toArray, List.map_cons, List.map_nil]); first | done | rfl | (simp only [List.length_drop, List.length_take]; rfl)) ?_; (with_reducible refine (stamp_floor.calls a0_0 86400 t107 _ A2.out).mono ?_); rintro e w' ⟨rfl, ⟨nd, rfl⟩⟩; refine ⟨_, rfl, ?_⟩) | ((with_reducible refine gate_callee (f := 40) rfl ?_); refine goesL_ (some 16) rfl rfl Tryd.func40 (by kernel_rfl) rfl #[.int .i64 (wrap64 (Int.tdiv (wrap64 (a0_0 - (wrap64 (t107 * 86400)))) 3600)), .int .i64 2] rfl (by (try simp only [List.map_toArray, List.map_cons, List.map_nil]); first | done | rfl | (simp only [List.length_drop, List.length_take]; rfl)) ?_; (with_reducible refine (stamp_digits.calls k (wrap64 (Int.tdiv (wrap64 (a0_0 - (wrap64 (t107 * 86400)))) 3600)) 2 t108 _ ?side1 A3.out).mono ?_); (case side1 => first | exact hG | exact GInv.drewN hG _ | exact GInv.below hG (by repeat (first | (with_reducible first | exact HB.out | apply below_alloc | apply pw_below_drewN | apply below_drew1 | refine below_set ?_ GE106.out) | exact HB.out))); rintro e w12 ⟨rfl, hb⟩; refine ⟨_, rfl, ?_⟩; have n0_ := Aside0.mk (blk_below (g := gb106) (o := .cells #[.int .i64 a0_0, .int .i64 a0_1] 31 (0, 0)) (by (with_reducible repeat (first | refine blk_drewN ?_ _ | refine blk_drew ?_ | refine blk_alloc ?_ _)); exact BK106.out) hb); have n1_ := Aside0.mk (below_step (by repeat (first | (with_reducible first | exact HB.out | apply below_alloc | apply pw_below_drewN | apply below_drew1 | refine below_set ?_ GE106.out) | exact HB.out)) hb); clear BK106; clear HB; have BK106 := n0_; have HB := n1_; clear n0_ n1_; (try clear hb); (try clear hb2); (try clear hk); (try clear hi)) | ((with_reducible refine gate_callee (f := 40) rfl ?_); refine goesL_ (some 21) rfl rfl Tryd.func40 (by kernel_rfl) rfl #[.int .i64 (Int.tmod (wrap64 (Int.tdiv (wrap64 (a0_0 - (wrap64 (t107 * 86400)))) 60)) 60), .int .i64 2] rfl (by (try simp only [List.map_toArray, List.map_cons, List.map_nil]); first | done | rfl | (simp only [List.length_drop, List.length_take]; rfl)) ?_; (with_reducible refine (stamp_digits.calls k (Int.tmod (wrap64 (Int.tdiv (wrap64 (a0_0 - (wrap64 (t107 * 86400)))) 60)) 60) 2 t109 _ ?side1 A5.out).mono ?_); (case side1 => first | exact hG | exact GInv.drewN hG _ | exact GInv.below hG (by repeat (first | (with_reducible first | exact HB.out | apply below_alloc | apply pw_below_drewN | apply below_drew1 | refine below_set ?_ GE106.out) | exact HB.out))); rintro e w13 ⟨rfl, hb⟩; refine ⟨_, rfl, ?_⟩; have n0_ := Aside0.mk (blk_below (g := gb106) (o := .cells #[.int .i64 a0_0, .int .i64 a0_1] 31 (0, 0)) (by (with_reducible repeat (first | refine blk_drewN ?_ _ | refine blk_drew ?_ | refine blk_alloc ?_ _)); exact BK106.out) hb); have n1_ := Aside0.mk (below_step (by repeat (first | (with_reducible first | exact HB.out | apply below_alloc | apply pw_below_drewN | apply below_drew1 | refine below_set ?_ GE106.out) | exact HB.out)) hb); clear BK106; clear HB; have BK106 := n0_; have HB := n1_; clear n0_ n1_; (try clear hb); (try clear hb2); (try clear hk); (try clear hi)) | ((with_reducible refine gate_callee (f := 40) rfl ?_); refine goesL_ (some 26) rfl rfl Tryd.func40 (by kernel_rfl) rfl #[.int .i64 (Int.tmod (wrap64 (a0_0 - (wrap64 (t107 * 86400)))) 60), .int .i64 2] rfl (by (try simp only [List.map_toArray, List.map_cons, List.map_nil]); first | done | rfl | (simp only [List.length_drop, List.length_take]; rfl)) ?_; (with_reducible refine (stamp_digits.calls k (Int.tmod (wrap64 (a0_0 - (wrap64 (t107 * 86400)))) 60) 2 t110 _ ?side1 A8.out).mono ?_); (case side1 => first | exact hG | exact GInv.drewN hG _ | exact GInv.below hG (by repeat (first | (with_reducible first | exact HB.out | apply below_alloc | apply pw_below_drewN | apply below_drew1 | refine below_set ?_ GE106.out) | exact HB.out))); rintro e w14 ⟨rfl, hb⟩; refine ⟨_, rfl, ?_⟩; have n0_ := Aside0.mk (blk_below (g := gb106) (o := .cells #[.int .i64 a0_0, .int .i64 a0_1] 31 (0, 0)) (by (with_reducible repeat (first | refine blk_drewN ?_ _ | refine blk_drew ?_ | refine blk_alloc ?_ _)); exact BK106.out) hb); have n1_ := Aside0.mk (below_step (by repeat (first | (with_reducible first | exact HB.out | apply below_alloc | apply pw_below_drewN | apply below_drew1 | refine below_set ?_ GE106.out) | exact HB.out)) hb); clear BK106; clear HB; have BK106 := n0_; have HB := n1_; clear n0_ n1_; (try clear hb); (try clear hb2); (try clear hk); (try clear hi)))
          go_ret2
          exact ⟨by first | rfl | (simp [errW_none, errW_some] <;> rfl) | (simp [*, errW_none, errW_some] <;> rfl), by repeat (first | (with_reducible first | exact HB.out | apply below_alloc | apply pw_below_drewN | apply below_drew1 | refine below_set ?_ GE106.out) | exact HB.out)⟩
        · rw [if_neg c9] at H
          exact absurd H (by simp)
      · rw [if_neg c7] at H
        exact absurd H (by simp)
    · rw [if_neg c6] at H
      exact absurd H (by simp)
  · rw [if_neg c4] at H
    exact absurd H (by simp)

/-! ### eponymref16_Good: function 14 -/
def eponymref16_Good.f (a0_0 : Int) (a0_1 : Int) : Option (Bool) := if a0_1 ≥ 0 then (if a0_1 ≤ 999999999 then (if a0_0 ≥ (-62167219200) then (some (decide (a0_0 ≤ 253402300799))) else (some false)) else (some false)) else (some false)
set_option maxHeartbeats 8000000 in
set_option maxRecDepth 100000 in
theorem eponymref16_Good.calls (a0_0 : Int) (a0_1 : Int) (r : Bool) (w : World) (h : eponymref16_Good.f a0_0 a0_1 = some r) :
    Calls Tryd.prog 14 #[.agg #[.int .i64 a0_0, .int .i64 a0_1]] w fun e w' => e = .returned (.bool r) ∧ Below w.heap.size w w' := by
  have hu31 := Tryd.underlying31
  have HB := Aside0.mk (Below.refl w.heap.size w)
  have H : (if a0_1 ≥ 0 then (if a0_1 ≤ 999999999 then (if a0_0 ≥ (-62167219200) then (some (decide (a0_0 ≤ 253402300799))) else (some false)) else (some false)) else (some false)) = some r := h
  clear h
  by_cases c2 : a0_1 ≥ 0
  · rw [if_pos c2] at H
    have c2b0 : decide (0 ≤ a0_1) = true := decide_eq_true c2
    clear c2
    by_cases c3 : a0_1 ≤ 999999999
    · rw [if_pos c3] at H
      have c3b0 : decide (a0_1 ≤ 999999999) = true := decide_eq_true c3
      clear c3
      by_cases c4 : a0_0 ≥ (-62167219200)
      · rw [if_pos c4] at H
        have c4b0 : decide ((-62167219200) ≤ a0_0) = true := decide_eq_true c4
        clear c4
        obtain rfl := Option.some.inj H
        go_enter Tryd.func14, Tryd.ntmps14
        go_wp2_with (first | ((with_reducible refine gate_dst (N := 1) rfl ?_); refine box_event ?hg (N := 1) ?hd (cs := #[.int .i64 a0_0, .int .i64 a0_1]) (t := 31) ?hr ?_; (case hd => rfl); (case hg => rfl); (case hr => first | (go_simp; done) | (go_simp; rfl)); intro gb111 hg w5 hbox hb; have n0_ := Aside0.mk (below_step (by repeat (first | (with_reducible first | exact HB.out | apply below_alloc | apply pw_below_drewN | apply below_drew1) | exact HB.out)) hb); have n1_ := Aside0.mk (hbox); have n2_ := Aside0.mk ((by rw [hg]; exact (below_size (by repeat (first | (with_reducible first | exact HB.out | apply below_alloc | apply pw_below_drewN | apply below_drew1) | exact HB.out))) : w.heap.size ≤ gb111)); have n3_ := Aside0.mk ((by rw [hg]; exact (below_size (by repeat (first | (with_reducible first | exact HB.out | apply below_alloc | apply pw_below_drewN | apply below_drew1) | exact HB.out))) : w.heap.size ≤ gb111)); clear HB; have HB := n0_; have BK111 := n1_; have GW111 := n2_; have GE111 := n3_; clear n0_ n1_ n2_ n3_; clear hb hbox hg; have hcz6_0 : w5.cell? ⟨gb111, 0, none⟩ = some (.int .i64 a0_0) := (blk_cell BK111.out 0).trans rfl; have hcz6_1 : w5.cell? ⟨gb111, 1, none⟩ = some (.int .i64 a0_1) := (blk_cell BK111.out 1).trans rfl; have hfz6_0 := blk_frozen BK111.out 0; have hfz6_1 := blk_frozen BK111.out 1))
        go_ret
        exact ⟨by first | rfl | (simp [errW_none, errW_some] <;> rfl) | (simp [*, errW_none, errW_some] <;> rfl), by repeat (first | (with_reducible first | exact HB.out | apply below_alloc | apply pw_below_drewN | apply below_drew1 | refine below_set ?_ GE111.out) | exact HB.out)⟩
      · rw [if_neg c4] at H
        have c4b0 : decide ((-62167219200) ≤ a0_0) = false := decide_eq_false c4
        clear c4
        obtain rfl := Option.some.inj H
        go_enter Tryd.func14, Tryd.ntmps14
        go_wp2_with (first | ((with_reducible refine gate_dst (N := 1) rfl ?_); refine box_event ?hg (N := 1) ?hd (cs := #[.int .i64 a0_0, .int .i64 a0_1]) (t := 31) ?hr ?_; (case hd => rfl); (case hg => rfl); (case hr => first | (go_simp; done) | (go_simp; rfl)); intro gb111 hg w7 hbox hb; have n0_ := Aside0.mk (below_step (by repeat (first | (with_reducible first | exact HB.out | apply below_alloc | apply pw_below_drewN | apply below_drew1) | exact HB.out)) hb); have n1_ := Aside0.mk (hbox); have n2_ := Aside0.mk ((by rw [hg]; exact (below_size (by repeat (first | (with_reducible first | exact HB.out | apply below_alloc | apply pw_below_drewN | apply below_drew1) | exact HB.out))) : w.heap.size ≤ gb111)); have n3_ := Aside0.mk ((by rw [hg]; exact (below_size (by repeat (first | (with_reducible first | exact HB.out | apply below_alloc | apply pw_below_drewN | apply below_drew1) | exact HB.out))) : w.heap.size ≤ gb111)); clear HB; have HB := n0_; have BK111 := n1_; have GW111 := n2_; have GE111 := n3_; clear n0_ n1_ n2_ n3_; clear hb hbox hg; have hcz8_0 : w7.cell? ⟨gb111, 0, none⟩ = some (.int .i64 a0_0) := (blk_cell BK111.out 0).trans rfl; have hcz8_1 : w7.cell? ⟨gb111, 1, none⟩ = some (.int .i64 a0_1) := (blk_cell BK111.out 1).trans rfl; have hfz8_0 := blk_frozen BK111.out 0; have hfz8_1 := blk_frozen BK111.out 1))
        go_ret
        exact ⟨by first | rfl | (simp [errW_none, errW_some] <;> rfl) | (simp [*, errW_none, errW_some] <;> rfl), by repeat (first | (with_reducible first | exact HB.out | apply below_alloc | apply pw_below_drewN | apply below_drew1 | refine below_set ?_ GE111.out) | exact HB.out)⟩
    · rw [if_neg c3] at H
      have c3b0 : decide (a0_1 ≤ 999999999) = false := decide_eq_false c3
      clear c3
      obtain rfl := Option.some.inj H
      go_enter Tryd.func14, Tryd.ntmps14
      go_wp2_with (first | ((with_reducible refine gate_dst (N := 1) rfl ?_); refine box_event ?hg (N := 1) ?hd (cs := #[.int .i64 a0_0, .int .i64 a0_1]) (t := 31) ?hr ?_; (case hd => rfl); (case hg => rfl); (case hr => first | (go_simp; done) | (go_simp; rfl)); intro gb111 hg w9 hbox hb; have n0_ := Aside0.mk (below_step (by repeat (first | (with_reducible first | exact HB.out | apply below_alloc | apply pw_below_drewN | apply below_drew1) | exact HB.out)) hb); have n1_ := Aside0.mk (hbox); have n2_ := Aside0.mk ((by rw [hg]; exact (below_size (by repeat (first | (with_reducible first | exact HB.out | apply below_alloc | apply pw_below_drewN | apply below_drew1) | exact HB.out))) : w.heap.size ≤ gb111)); have n3_ := Aside0.mk ((by rw [hg]; exact (below_size (by repeat (first | (with_reducible first | exact HB.out | apply below_alloc | apply pw_below_drewN | apply below_drew1) | exact HB.out))) : w.heap.size ≤ gb111)); clear HB; have HB := n0_; have BK111 := n1_; have GW111 := n2_; have GE111 := n3_; clear n0_ n1_ n2_ n3_; clear hb hbox hg; have hcz10_0 : w9.cell? ⟨gb111, 0, none⟩ = some (.int .i64 a0_0) := (blk_cell BK111.out 0).trans rfl; have hcz10_1 : w9.cell? ⟨gb111, 1, none⟩ = some (.int .i64 a0_1) := (blk_cell BK111.out 1).trans rfl; have hfz10_0 := blk_frozen BK111.out 0; have hfz10_1 := blk_frozen BK111.out 1))
      go_ret
      exact ⟨by first | rfl | (simp [errW_none, errW_some] <;> rfl) | (simp [*, errW_none, errW_some] <;> rfl), by repeat (first | (with_reducible first | exact HB.out | apply below_alloc | apply pw_below_drewN | apply below_drew1 | refine below_set ?_ GE111.out) | exact HB.out)⟩
  · rw [if_neg c2] at H
    have c2b0 : decide (0 ≤ a0_1) = false := decide_eq_false c2
    clear c2
    obtain rfl := Option.some.inj H
    go_enter Tryd.func14, Tryd.ntmps14
    go_wp2_with (first | ((with_reducible refine gate_dst (N := 1) rfl ?_); refine box_event ?hg (N := 1) ?hd (cs := #[.int .i64 a0_0, .int .i64 a0_1]) (t := 31) ?hr ?_; (case hd => rfl); (case hg => rfl); (case hr => first | (go_simp; done) | (go_simp; rfl)); intro gb111 hg w11 hbox hb; have n0_ := Aside0.mk (below_step (by repeat (first | (with_reducible first | exact HB.out | apply below_alloc | apply pw_below_drewN | apply below_drew1) | exact HB.out)) hb); have n1_ := Aside0.mk (hbox); have n2_ := Aside0.mk ((by rw [hg]; exact (below_size (by repeat (first | (with_reducible first | exact HB.out | apply below_alloc | apply pw_below_drewN | apply below_drew1) | exact HB.out))) : w.heap.size ≤ gb111)); have n3_ := Aside0.mk ((by rw [hg]; exact (below_size (by repeat (first | (with_reducible first | exact HB.out | apply below_alloc | apply pw_below_drewN | apply below_drew1) | exact HB.out))) : w.heap.size ≤ gb111)); clear HB; have HB := n0_; have BK111 := n1_; have GW111 := n2_; have GE111 := n3_; clear n0_ n1_ n2_ n3_; clear hb hbox hg; have hcz12_0 : w11.cell? ⟨gb111, 0, none⟩ = some (.int .i64 a0_0) := (blk_cell BK111.out 0).trans rfl; have hcz12_1 : w11.cell? ⟨gb111, 1, none⟩ = some (.int .i64 a0_1) := (blk_cell BK111.out 1).trans rfl; have hfz12_0 := blk_frozen BK111.out 0; have hfz12_1 := blk_frozen BK111.out 1))
    go_ret
    exact ⟨by first | rfl | (simp [errW_none, errW_some] <;> rfl) | (simp [*, errW_none, errW_some] <;> rfl), by repeat (first | (with_reducible first | exact HB.out | apply below_alloc | apply pw_below_drewN | apply below_drew1 | refine below_set ?_ GE111.out) | exact HB.out)⟩

-- OF OUR OWN: function 35 (eponymref16_Length)

/-! ### eponymref16_year: function 45 -/
def eponymref16_year.f (a0 : Int) : Option (Int) := if a0 > 0 then (some (wrap64 ((wrap64 ((wrap64 ((wrap64 ((wrap64 ((wrap64 ((wrap64 (365 * a0)) + (wrap64 (Int.tdiv (wrap64 (a0 - 1)) 4)))) + 1)) - (wrap64 (Int.tdiv (wrap64 (a0 - 1)) 100)))) - 1)) + (wrap64 (Int.tdiv (wrap64 (a0 - 1)) 400)))) + 1))) else (some (wrap64 (365 * a0)))
set_option maxHeartbeats 8000000 in
set_option maxRecDepth 100000 in
theorem eponymref16_year.calls (a0 : Int) (r : Int) (w : World) (h : eponymref16_year.f a0 = some r) :
    Calls Tryd.prog 45 #[.int .i64 a0] w fun e w' => e = .returned (.int .i64 r) ∧ Drawn0 w w' := by
  have H : (if a0 > 0 then (some (wrap64 ((wrap64 ((wrap64 ((wrap64 ((wrap64 ((wrap64 ((wrap64 (365 * a0)) + (wrap64 (Int.tdiv (wrap64 (a0 - 1)) 4)))) + 1)) - (wrap64 (Int.tdiv (wrap64 (a0 - 1)) 100)))) - 1)) + (wrap64 (Int.tdiv (wrap64 (a0 - 1)) 400)))) + 1))) else (some (wrap64 (365 * a0)))) = some r := h
  clear h
  by_cases c2 : a0 > 0
  · rw [if_pos c2] at H
    have c2b0 : decide (0 < a0) = true := decide_eq_true c2
    clear c2
    obtain rfl := Option.some.inj H
    go_enter Tryd.func45, Tryd.ntmps45
    go_wp2
    go_ret
    exact ⟨by first | rfl | (simp; done) | (simp [*]; done), by repeat (first | exact Drawn0.refl _ | apply Drawn0.step)⟩
  · rw [if_neg c2] at H
    have c2b0 : decide (0 < a0) = false := decide_eq_false c2
    clear c2
    obtain rfl := Option.some.inj H
    go_enter Tryd.func45, Tryd.ntmps45
    go_wp2
    go_ret
    exact ⟨by first | rfl | (simp; done) | (simp [*]; done), by repeat (first | exact Drawn0.refl _ | apply Drawn0.step)⟩

end Go.Proofs.YtlgdenihddkjaaaDoor.PSt
