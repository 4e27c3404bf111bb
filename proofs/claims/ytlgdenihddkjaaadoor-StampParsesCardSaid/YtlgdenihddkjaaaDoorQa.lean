/- The document's own number of a day, in the calendar's words (the first part of Qb). -/
import Derived.Test.YtlgdenihddkjaaaDoorFb
import Derived.Test.YtlgdenihddkjaaaDoorPStx2
namespace Go.Proofs.YtlgdenihddkjaaaDoor
set_option linter.unusedSimpArgs false
set_option linter.unusedVariables false
open Go.RowKit Go.Proofs.YtlgdenihddkjaaaDoorW.PrintWords Go.Proofs.YtlgdenihddkjaaaDoorW.PrintMore

theorem leapB_is (y : Int) (h : 0 ≤ y) : PSt.leapB y = Cal.leap y := by
  unfold PSt.leapB Cal.leap
  rw [tm_nn h, tm_nn h, tm_nn h]
  by_cases h400 : y % 400 = 0
  · simp [h400]
  · by_cases h4 : y % 4 = 0
    · by_cases h100 : y % 100 = 0 <;> simp [h400, h4, h100]
    · simp [h400, h4]
theorem refLen_f (y m : Int) (h : 0 ≤ y) (h1 : 1 ≤ m) (h2 : m ≤ 12) : PSt.eponymref16_Length.f y m = some (Cal.len y m) := by
  unfold PSt.eponymref16_Length.f
  rw [leapB_is y h]
  unfold PSt.lenT Cal.len
  by_cases hm : m = 2
  · subst hm
    cases hl : Cal.leap y <;> simp
  · by_cases hs : m = 4 ∨ m = 6 ∨ m = 9 ∨ m = 11
    · simp [hm, hs]; omega
    · rw [if_neg (by omega), if_pos (by omega), if_neg hm, if_neg hs, if_neg (by omega), if_neg hs, if_neg hm]
theorem year_f (y : Int) (h : 0 ≤ y) (h2 : y ≤ 20000) : PSt.eponymref16_year.f y = some (Cal.yr y) := by
  unfold PSt.eponymref16_year.f Cal.yr
  by_cases hy : y > 0
  · rw [if_pos hy]
    simp (disch := omega) only [w64, td_nn]
    congr 1
    omega
  · rw [if_neg hy, w64 (by omega) (by omega)]
    congr 1
    omega
theorem yr_1970 : Cal.yr 1970 = 719528 := by decide

theorem days_l0 (y m : Int) (hy : 0 ≤ y) (hy2 : y ≤ 9999) (hm : m ≤ 12) : ∀ (i fuel : Nat) (x9 j : Int), j = m - i → 1 ≤ j → i < fuel → -1000 ≤ x9 → x9 ≤ 4000000 + 40 * j →
    PSt.eponymref16_Days.l0 fuel y m x9 j = some (x9 + (Cal.cumT y m - Cal.cumT y j) - 719528, 0, 0)
  | 0, fuel + 1, x9, j, hj, h1, hf, a, b => by
    obtain rfl : j = m := by omega
    rw [PSt.eponymref16_Days.l0, if_neg (by omega), year_f 1970 (by omega) (by omega), yr_1970]
    simp only [Option.bind_some]
    rw [w64 (by omega) (by omega)]
    simp
  | i + 1, fuel + 1, x9, j, hj, h1, hf, a, b => by
    have hl := Cal.len_le y j
    rw [PSt.eponymref16_Days.l0, if_pos (by omega), refLen_f y j hy h1 (by omega)]
    simp only [Option.bind_some]
    rw [w64 (n := x9 + Cal.len y j) (by omega) (by omega), w64 (n := j + 1) (by omega) (by omega)]
    rw [days_l0 y m hy hy2 hm i fuel _ (j + 1) (by omega) (by omega) (by omega) (by omega) (by omega)]
    have := Cal.cumT_succ y j h1 (by omega)
    congr 2
    omega
/-- eponymref16.Days. -/
theorem refDays_f (y m d : Int) : PSt.eponymref16_Days.f 40 y m d = some (daysN y m d, (match daysE y m d with | none => (0, 0) | some x => (x.1, (x.2 : Int)))) := by
  unfold daysN daysE PSt.eponymref16_Days.f
  by_cases h1 : y < 0 ∨ y > 9999
  · simp only [if_pos h1]
    by_cases h1a : y < 0
    · rw [if_pos h1a]; simp [PSt.eponymref16_Days.j0]
    · have h1b : y > 9999 := by omega
      rw [if_neg h1a]; simp [PSt.eponymref16_Days.j0, h1b]
  · simp only [if_neg h1]
    rw [if_neg (by omega : ¬ y < 0)]
    have e1 : decide (y > 9999) = false := by simp; omega
    rw [e1, PSt.eponymref16_Days.j0, if_neg (by simp)]
    by_cases h2 : m < 1 ∨ m > 12
    · simp only [if_pos h2]
      by_cases h2a : m < 1
      · rw [if_pos h2a]; simp [PSt.eponymref16_Days.j1]
      · have h2b : m > 12 := by omega
        rw [if_neg h2a]; simp [PSt.eponymref16_Days.j1, h2b]
    · simp only [if_neg h2]
      rw [if_neg (by omega : ¬ m < 1)]
      have e2 : decide (m > 12) = false := by simp; omega
      rw [e2, PSt.eponymref16_Days.j1, if_neg (by simp)]
      rw [refLen_f y m (by omega) (by omega) (by omega)]
      simp only [Option.bind_some]
      by_cases h3 : d < 1 ∨ d > Cal.len y m
      · simp only [if_pos h3]
        by_cases h3a : d < 1
        · rw [if_pos h3a]; simp [PSt.eponymref16_Days.j2]
        · have h3b : d > Cal.len y m := by omega
          rw [if_neg h3a]; simp [PSt.eponymref16_Days.j2, h3b]
      · simp only [if_neg h3]
        rw [if_neg (by omega : ¬ d < 1)]
        have e3 : decide (d > Cal.len y m) = false := by simp; omega
        have hl := Cal.len_le y m
        rw [e3, PSt.eponymref16_Days.j2, if_neg (by simp), year_f y (by omega) (by omega)]
        simp only [Option.bind_some]
        have hyr : 0 ≤ Cal.yr y ∧ Cal.yr y ≤ 3700000 := by unfold Cal.yr; omega
        rw [w64 (n := Cal.yr y + d) (by omega) (by omega), w64 (n := Cal.yr y + d - 1) (by omega) (by omega)]
        rw [days_l0 y m (by omega) (by omega) (by omega) (m - 1).toNat 37 _ 1 (by omega) (by omega) (by omega) (by omega) (by omega)]
        have e4 := Cal.days_eq y m d (by omega) (by omega)
        have e5 : Cal.cumT y 1 = 0 := by simp [Cal.cumT]
        simp
        omega
end Go.Proofs.YtlgdenihddkjaaaDoor
