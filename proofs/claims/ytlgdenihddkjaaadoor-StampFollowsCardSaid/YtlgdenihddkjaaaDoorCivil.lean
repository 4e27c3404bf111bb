/- stamp.Civil, in the calendar's words. -/
import Derived.Test.YtlgdenihddkjaaaDoorMade3
namespace Go.Proofs.YtlgdenihddkjaaaDoor
set_option linter.unusedSimpArgs false
set_option linter.unusedVariables false
open Go.RowKit Go.Proofs.YtlgdenihddkjaaaDoorW.PrintWords Go.Proofs.YtlgdenihddkjaaaDoorW.PrintMore

theorem floor_146097 (a : Int) (h1 : -100000000 ≤ a) (h2 : a ≤ 100000000) : PSt.stamp_floor.f a 146097 = some (a / 146097) := by
  unfold PSt.stamp_floor.f
  rw [if_neg (by omega)]
  by_cases h : 0 ≤ a
  · rw [tm_nn h, td_nn h, if_neg (by omega), w64 (by omega) (by omega)]
  · rw [tm_neg (by omega), td_neg (by omega)]
    split
    · simp (disch := omega) only [w64]; congr 1; omega
    · simp (disch := omega) only [w64]; congr 1; omega
theorem clamp_is (n : Int) : mx (-719528) (mn n 2932896) = Cal.clamp n := by
  unfold mx mn Cal.clamp
  omega
theorem clamp_bd (n : Int) : -719528 ≤ Cal.clamp n ∧ Cal.clamp n ≤ 2932896 := by unfold Cal.clamp; omega

set_option maxRecDepth 100000 in
set_option maxHeartbeats 8000000 in
theorem civil_f (n : Int) : PSt.stamp_Civil.f n = some (Cal.civil n) := by
  unfold PSt.stamp_Civil.f Cal.civil
  obtain ⟨b1, b2⟩ := clamp_bd n
  rw [clamp_is]
  generalize Cal.clamp n = c at b1 b2 ⊢
  rw [floor_146097 _ (by omega) (by omega)]
  simp only [Option.bind_some]
  have hE1 : -1 ≤ (c + 719468) / 146097 := by omega
  have hE2 : (c + 719468) / 146097 ≤ 25 := by omega
  have hI1 : 0 ≤ c + 719468 - (c + 719468) / 146097 * 146097 := by omega
  have hI2 : c + 719468 - (c + 719468) / 146097 * 146097 ≤ 146096 := by omega
  rw [w64 (n := (c + 719468) / 146097 * 146097) (by omega) (by omega), w64 (n := c + 719468 - (c + 719468) / 146097 * 146097) (by omega) (by omega)]
  generalize hI : c + 719468 - (c + 719468) / 146097 * 146097 = I at hI1 hI2 ⊢
  generalize (c + 719468) / 146097 = E at hE1 hE2 ⊢
  clear hI b1 b2
  obtain ⟨y1, y2, d1, d2, -⟩ := Cal.yoe_is I hI1 hI2
  rw [td_nn (a := I) (b := 1460) hI1, td_nn (a := I) (b := 36524) hI1, td_nn (a := I) (b := 146096) hI1]
  rw [w64 (n := I / 1460) (by omega) (by omega), w64 (n := I / 36524) (by omega) (by omega), w64 (n := I / 146096) (by omega) (by omega)]
  rw [w64 (n := I - I / 1460) (by omega) (by omega), w64 (n := I - I / 1460 + I / 36524) (by omega) (by omega), w64 (n := I - I / 1460 + I / 36524 - I / 146096) (by omega) (by omega)]
  rw [td_nn (a := I - I / 1460 + I / 36524 - I / 146096) (b := 365) (by omega)]
  unfold Cal.doy at d1 d2 ⊢
  unfold Cal.yoe at y1 y2 d1 d2 ⊢
  rw [w64 (n := (I - I / 1460 + I / 36524 - I / 146096) / 365) (by omega) (by omega)]
  generalize (I - I / 1460 + I / 36524 - I / 146096) / 365 = Y at y1 y2 d1 d2 ⊢
  rw [td_nn (a := Y) (b := 4) y1, td_nn (a := Y) (b := 100) y1]
  rw [w64 (n := 365 * Y) (by omega) (by omega), w64 (n := Y / 4) (by omega) (by omega), w64 (n := Y / 100) (by omega) (by omega)]
  rw [w64 (n := 365 * Y + Y / 4) (by omega) (by omega), w64 (n := 365 * Y + Y / 4 - Y / 100) (by omega) (by omega), w64 (n := I - (365 * Y + Y / 4 - Y / 100)) (by omega) (by omega)]
  generalize I - (365 * Y + Y / 4 - Y / 100) = D at d1 d2 ⊢
  simp (disch := omega) only [w64, td_nn]
  split <;> rfl
end Go.Proofs.YtlgdenihddkjaaaDoor
