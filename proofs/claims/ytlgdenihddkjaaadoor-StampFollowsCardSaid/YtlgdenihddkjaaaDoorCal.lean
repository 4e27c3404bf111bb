/- The calendar, in plain words: the number of a day, the day of a number. -/
import Derived.WalkKit
namespace Go.Proofs.YtlgdenihddkjaaaDoor.Cal
set_option linter.unusedSimpArgs false
set_option linter.unusedVariables false
/-- Is a year (0 and up) a leap year? -/
def leap (y : Int) : Bool := decide ((y % 4 = 0 ∧ y % 100 ≠ 0) ∨ y % 400 = 0)
/-- A month's days. -/
def len (y m : Int) : Int := if m = 4 ∨ m = 6 ∨ m = 9 ∨ m = 11 then 30 else if m = 2 then (if leap y then 29 else 28) else 31
/-- The program's number of a day. -/
def days (y m d : Int) : Int :=
  let y1 := if m < 3 then y - 1 else y
  let m1 := if m < 3 then m + 12 else m
  let era := y1 / 400
  let i := y1 - era * 400
  era * 146097 + i * 365 + i / 4 - i / 100 + (153 * (m1 - 3) + 2) / 5 + d - 719469
/-- Is there such a day? -/
def good (y m d : Int) : Prop := 0 ≤ y ∧ y ≤ 9999 ∧ 1 ≤ m ∧ m ≤ 12 ∧ 1 ≤ d ∧ d ≤ len y m

/-- How many days lie ahead of a year. -/
def yr (y : Int) : Int := 365 * y + (y + 3) / 4 - (y + 99) / 100 + (y + 399) / 400
/-- How many days of a year lie ahead of a month's end. -/
def cum (y : Int) : Nat → Int
  | 0 => 0
  | k + 1 => cum y k + len y (k + 1)
theorem leap_iff (y : Int) : leap y = true ↔ (y % 4 = 0 ∧ y % 100 ≠ 0) ∨ y % 400 = 0 := by simp [leap]
theorem len_le (y m : Int) : 28 ≤ len y m ∧ len y m ≤ 31 := by
  unfold len; split
  · omega
  · split
    · split <;> omega
    · omega
/-- 1 or 0. -/
def lp (y : Int) : Int := if leap y then 1 else 0
theorem lp_is (y : Int) : (lp y = 1 ∧ ((y % 4 = 0 ∧ y % 100 ≠ 0) ∨ y % 400 = 0)) ∨ (lp y = 0 ∧ ¬ ((y % 4 = 0 ∧ y % 100 ≠ 0) ∨ y % 400 = 0)) := by
  unfold lp; rw [← leap_iff]; cases h : leap y <;> simp
theorem yr_succ (y : Int) : yr (y + 1) = yr y + 365 + lp y := by
  rcases lp_is y with ⟨e, h⟩ | ⟨e, h⟩ <;> rw [e] <;> unfold yr <;> omega
theorem months (P : Int → Prop) (h1 : P 1) (h2 : P 2) (h3 : P 3) (h4 : P 4) (h5 : P 5) (h6 : P 6) (h7 : P 7) (h8 : P 8) (h9 : P 9) (h10 : P 10) (h11 : P 11) (h12 : P 12) (m : Int) (a : 1 ≤ m) (b : m ≤ 12) : P m := by
  obtain h | h | h | h | h | h | h | h | h | h | h | h : m = 1 ∨ m = 2 ∨ m = 3 ∨ m = 4 ∨ m = 5 ∨ m = 6 ∨ m = 7 ∨ m = 8 ∨ m = 9 ∨ m = 10 ∨ m = 11 ∨ m = 12 := by omega
  all_goals (subst h; assumption)
theorem len_lp (y m : Int) : len y m = if m = 4 ∨ m = 6 ∨ m = 9 ∨ m = 11 then 30 else if m = 2 then 28 + lp y else 31 := by
  unfold len lp; cases leap y <;> simp
/-- The days ahead of a month. -/
def cumT (y m : Int) : Int := if m = 1 then 0 else if m = 2 then 31 else 28 + lp y + (if m = 3 then 31 else if m = 4 then 62 else if m = 5 then 92 else if m = 6 then 123 else if m = 7 then 153 else if m = 8 then 184 else if m = 9 then 215 else if m = 10 then 245 else if m = 11 then 276 else if m = 12 then 306 else 337)
theorem cum_T (y m : Int) (a : 1 ≤ m) (b : m ≤ 13) : cum y (m - 1).toNat = cumT y m := by
  obtain h | h | h | h | h | h | h | h | h | h | h | h | h : m = 1 ∨ m = 2 ∨ m = 3 ∨ m = 4 ∨ m = 5 ∨ m = 6 ∨ m = 7 ∨ m = 8 ∨ m = 9 ∨ m = 10 ∨ m = 11 ∨ m = 12 ∨ m = 13 := by omega
  all_goals (subst h; simp [cum, cumT, len_lp]; try omega)
theorem era_sum (y : Int) : y / 400 * 146097 + (y - y / 400 * 400) * 365 + (y - y / 400 * 400) / 4 - (y - y / 400 * 400) / 100 = 365 * y + y / 4 - y / 100 + y / 400 := by
  obtain ⟨e, i, rfl, h0, h1⟩ : ∃ e i, y = 400 * e + i ∧ 0 ≤ i ∧ i < 400 := ⟨y / 400, y % 400, by omega, by omega, by omega⟩
  have e1 : (400 * e + i) / 400 = e := by omega
  have e2 : (400 * e + i) / 4 = 100 * e + i / 4 := by omega
  have e3 : (400 * e + i) / 100 = 4 * e + i / 100 := by omega
  rw [e1, e2, e3, show 400 * e + i - e * 400 = i by omega]; omega
theorem yr_pred (y : Int) : yr y = 365 * (y - 1) + (y - 1) / 4 - (y - 1) / 100 + (y - 1) / 400 + 366 := by unfold yr; omega
theorem yr_lp (y : Int) : yr y + lp y = 365 * y + y / 4 - y / 100 + y / 400 + 1 := by
  have := yr_succ y
  rw [yr_pred (y + 1), show y + 1 - 1 = y by omega] at this
  omega
theorem days_eq (y m d : Int) (a : 1 ≤ m) (b : m ≤ 12) : days y m d = yr y + cumT y m + d - 1 - 719528 := by
  have h1 := era_sum y
  have h2 := era_sum (y - 1)
  have h3 := yr_pred y
  have h4 := yr_lp y
  refine months (fun m => days y m d = yr y + cumT y m + d - 1 - 719528) ?_ ?_ ?_ ?_ ?_ ?_ ?_ ?_ ?_ ?_ ?_ ?_ m a b
  all_goals (simp [days, cumT]; omega)
theorem cumT_succ (y m : Int) (a : 1 ≤ m) (b : m ≤ 12) : cumT y (m + 1) = cumT y m + len y m := by
  refine months (fun m => cumT y (m + 1) = cumT y m + len y m) ?_ ?_ ?_ ?_ ?_ ?_ ?_ ?_ ?_ ?_ ?_ ?_ m a b
  all_goals (simp [cumT, len_lp]; try omega)
theorem cumT_13 (y : Int) : cumT y 13 = 365 + lp y := by simp [cumT]; omega
theorem lp_01 (y : Int) : 0 ≤ lp y ∧ lp y ≤ 1 := by rcases lp_is y with ⟨e, _⟩ | ⟨e, _⟩ <;> omega
theorem cumT_mono (y m m' : Int) (a : 1 ≤ m) (h : m < m') (b : m' ≤ 13) : cumT y m + len y m ≤ cumT y m' := by
  obtain ⟨n, hn⟩ : ∃ n : Nat, m' = m + 1 + n := ⟨(m' - m - 1).toNat, by omega⟩
  subst hn
  rw [← cumT_succ y m a (by omega)]
  clear h
  induction n with
  | zero => simp
  | succ n ih =>
    have h1 := ih (by omega)
    have h2 := cumT_succ y (m + 1 + n) (by omega) (by omega)
    have h3 := len_le y (m + 1 + n)
    rw [show m + 1 + ((n + 1 : Nat) : Int) = m + 1 + n + 1 by omega, h2]; omega
theorem cumT_bd (y m : Int) (a : 1 ≤ m) (b : m ≤ 12) : 0 ≤ cumT y m ∧ cumT y m + len y m ≤ 365 + lp y := by
  refine ⟨?_, ?_⟩
  · have := lp_01 y
    refine months (fun m => 0 ≤ cumT y m) ?_ ?_ ?_ ?_ ?_ ?_ ?_ ?_ ?_ ?_ ?_ ?_ m a b
    all_goals (simp [cumT]; try omega)
  · rw [← cumT_13]; exact cumT_mono y m 13 a (by omega) (by omega)
theorem yr_mono (y y' : Int) (h : y < y') : yr y + 365 + lp y ≤ yr y' := by
  rw [← yr_succ]; unfold yr; omega
/-- A number is of one day alone. -/
theorem days_inj {y m d y' m' d' : Int} (h : good y m d) (h' : good y' m' d') (e : days y m d = days y' m' d') : y = y' ∧ m = m' ∧ d = d' := by
  obtain ⟨a1, a2, a3, a4, a5, a6⟩ := h
  obtain ⟨b1, b2, b3, b4, b5, b6⟩ := h'
  rw [days_eq y m d a3 a4, days_eq y' m' d' b3 b4] at e
  have c1 := cumT_bd y m a3 a4
  have c2 := cumT_bd y' m' b3 b4
  have l1 := lp_01 y
  have l2 := lp_01 y'
  obtain rfl : y = y' := by
    rcases Int.lt_trichotomy y y' with g | g | g
    · have := yr_mono _ _ g; omega
    · exact g
    · have := yr_mono _ _ g; omega
  obtain rfl : m = m' := by
    rcases Int.lt_trichotomy m m' with g | g | g
    · have := cumT_mono y m m' a3 g (by omega); omega
    · exact g
    · have := cumT_mono y m' m b3 g (by omega); omega
  exact ⟨rfl, rfl, by omega⟩
theorem days_range {y m d : Int} (h : good y m d) : -719528 ≤ days y m d ∧ days y m d ≤ 2932896 := by
  obtain ⟨a1, a2, a3, a4, a5, a6⟩ := h
  rw [days_eq y m d a3 a4]
  have c1 := cumT_bd y m a3 a4
  have l1 := lp_01 y
  rcases lp_is y with ⟨e, h⟩ | ⟨e, h⟩ <;> rw [e] at c1 <;> unfold yr <;> omega

/-! ### The day of a number -/
def chk2 (i y : Nat) : Bool :=
  bif Nat.ble (365 * y + y / 4 - y / 100) i then
    bif Nat.ble (i - (365 * y + y / 4 - y / 100)) 364 then Nat.ble y 399 else
      bif Nat.ble (i - (365 * y + y / 4 - y / 100)) 365 then (bif Nat.beq y 399 then true else bif Nat.ble y 399 then bif Nat.beq ((y + 1) % 4) 0 then !(Nat.beq ((y + 1) % 100) 0) else false else false) else false
  else false
def chk (i : Nat) : Bool := chk2 i ((i - i / 1460 + i / 36524 - i / 146096) / 365)
/-- All of n numbers from a on: halved. -/
def allB : Nat → Nat → Nat → Bool
  | 0, a, _ => chk a
  | f + 1, a, n => bif Nat.ble n 1 then chk a else bif allB f a (n / 2) then allB f (a + n / 2) (n - n / 2) else false
theorem allB_all (f : Nat) : ∀ a n, n ≤ 2 ^ f → allB f a n = true → ∀ i, a ≤ i → i < a + n → chk i = true := by
  induction f with
  | zero =>
    intro a n hn h i h1 h2
    obtain rfl : i = a := by simp at hn; omega
    exact h
  | succ f ih =>
    intro a n hn h i h1 h2
    rw [allB] at h
    cases hb : Nat.ble n 1 with
    | true =>
      rw [hb] at h
      have := Nat.le_of_ble_eq_true hb
      obtain rfl : i = a := by omega
      exact h
    | false =>
      rw [hb] at h
      have hp : 2 ^ (f + 1) = 2 * 2 ^ f := by rw [Nat.pow_succ]; omega
      cases hx : allB f a (n / 2) with
      | false => rw [hx] at h; cases h
      | true =>
        rw [hx] at h
        rcases Nat.lt_or_ge i (a + n / 2) with g | g
        · exact ih a (n / 2) (by omega) hx i h1 g
        · exact ih _ _ (by omega) h i g (by omega)
theorem chk_all : allB 18 0 146097 = true := by decide +kernel
theorem chk_of (i : Nat) (h : i ≤ 146096) : chk i = true := allB_all 18 0 146097 (by decide) chk_all i (by omega) (by omega)
/-- A year of an era, out of a day of it. -/
def yoe (i : Int) : Int := (i - i / 1460 + i / 36524 - i / 146096) / 365
/-- The day of that year. -/
def doy (i : Int) : Int := i - (365 * yoe i + yoe i / 4 - yoe i / 100)
theorem yoe_is (i : Int) (h0 : 0 ≤ i) (h1 : i ≤ 146096) : 0 ≤ yoe i ∧ yoe i ≤ 399 ∧ 0 ≤ doy i ∧ doy i ≤ 365 ∧ (doy i = 365 → yoe i = 399 ∨ ((yoe i + 1) % 4 = 0 ∧ (yoe i + 1) % 100 ≠ 0)) := by
  obtain ⟨n, rfl⟩ := Int.eq_ofNat_of_zero_le h0
  have h := chk_of n (by omega)
  unfold chk at h
  generalize hy : (n - n / 1460 + n / 36524 - n / 146096) / 365 = y at h
  have e : yoe (n : Int) = (y : Int) := by unfold yoe; omega
  unfold doy
  rw [e]
  clear e hy
  unfold chk2 at h
  cases c1 : Nat.ble (365 * y + y / 4 - y / 100) n with
  | false => rw [c1] at h; cases h
  | true =>
    rw [c1] at h
    have c1 := Nat.le_of_ble_eq_true c1
    cases c2 : Nat.ble (n - (365 * y + y / 4 - y / 100)) 364 with
    | true =>
      rw [c2] at h
      have h : y ≤ 399 := Nat.le_of_ble_eq_true h
      have c2 := Nat.le_of_ble_eq_true c2
      omega
    | false =>
      rw [c2] at h
      cases c3 : Nat.ble (n - (365 * y + y / 4 - y / 100)) 365 with
      | false => rw [c3] at h; cases h
      | true =>
        rw [c3] at h
        have c3 := Nat.le_of_ble_eq_true c3
        cases c4 : Nat.beq y 399 with
        | true =>
          have c4 := Nat.eq_of_beq_eq_true c4
          omega
        | false =>
          rw [c4] at h
          cases c5 : Nat.ble y 399 with
          | false => rw [c5] at h; cases h
          | true =>
            rw [c5] at h
            have c5 := Nat.le_of_ble_eq_true c5
            cases c6 : Nat.beq ((y + 1) % 4) 0 with
            | false => rw [c6] at h; cases h
            | true =>
              rw [c6] at h
              have c6 := Nat.eq_of_beq_eq_true c6
              have c7 : Nat.beq ((y + 1) % 100) 0 = false := by simpa using h
              have c7 := Nat.ne_of_beq_eq_false c7
              omega

/-- The number, brought to a day that there is. -/
def clamp (n : Int) : Int := max (-719528) (min n 2932896)
/-- The program's day of a number: year, month, day. -/
def civil (n : Int) : Int × Int × Int :=
  let n1 := clamp n + 719468
  let era := n1 / 146097
  let i := n1 - era * 146097
  let m := (5 * doy i + 2) / 153
  let d := doy i - (153 * m + 2) / 5 + 1
  if m + 3 > 12 then (yoe i + era * 400 + 1, m + 3 - 12, d) else (yoe i + era * 400, m + 3, d)

theorem civil_is (n : Int) : ∃ y m d, civil n = (y, m, d) ∧ good y m d ∧ days y m d = clamp n := by
  have hc : -719528 ≤ clamp n ∧ clamp n ≤ 2932896 := by unfold clamp; omega
  unfold civil
  generalize clamp n = c at hc ⊢
  obtain ⟨e, i, h0, h1, h2⟩ : ∃ e i, c + 719468 = 146097 * e + i ∧ 0 ≤ i ∧ i < 146097 := ⟨(c + 719468) / 146097, (c + 719468) % 146097, by omega, by omega, by omega⟩
  have e1 : (c + 719468) / 146097 = e := by omega
  have e2 : c + 719468 - e * 146097 = i := by omega
  simp only [e1, e2]
  obtain ⟨y0, y1, r0, r1, r2⟩ := yoe_is i h1 (by omega)
  have hd : doy i = i - (365 * yoe i + yoe i / 4 - yoe i / 100) := rfl
  generalize yoe i = Y at *
  generalize doy i = r at *
  obtain ⟨m, hm⟩ : ∃ m, m = (5 * r + 2) / 153 := ⟨_, rfl⟩
  have hm0 : 0 ≤ m ∧ m ≤ 11 := by omega
  have he : -1 ≤ e ∧ e ≤ 24 := by omega
  have em : ∀ k, (Y + e * 400 + k) / 4 = 100 * e + (Y + k) / 4 := fun k => by omega
  have en : ∀ k, (Y + e * 400 + k) / 100 = 4 * e + (Y + k) / 100 := fun k => by omega
  have eo : ∀ k, (Y + e * 400 + k) / 400 = e + (Y + k) / 400 := fun k => by omega
  rw [← hm]
  by_cases h : m + 3 > 12
  · rw [if_pos h]
    refine ⟨_, _, _, rfl, ?_, ?_⟩
    · refine ⟨by omega, by omega, by omega, by omega, by omega, ?_⟩
      rw [len_lp]
      rcases lp_is (Y + e * 400 + 1) with ⟨g, hl⟩ | ⟨g, hl⟩ <;> rw [g]
      · obtain hh | hh : m = 10 ∨ m = 11 := by omega
        · subst hh; simp; omega
        · subst hh; simp; omega
      · obtain hh | hh : m = 10 ∨ m = 11 := by omega
        · subst hh; simp; omega
        · subst hh; simp
          have : ¬ r = 365 := fun hr => hl (by rcases r2 hr with x | x <;> omega)
          omega
    · rw [days_eq _ _ _ (by omega) (by omega), yr_pred, show Y + e * 400 + 1 - 1 = Y + e * 400 + 0 by omega, em, en, eo]
      obtain hh | hh : m = 10 ∨ m = 11 := by omega
      · subst hh; simp [cumT]; omega
      · subst hh; simp [cumT]; omega
  · rw [if_neg h]
    have hy : 0 ≤ Y + e * 400 := by
      by_cases g : e = -1
      · exfalso
        have hY : Y = 399 := by omega
        subst g; subst hY; omega
      · omega
    refine ⟨_, _, _, rfl, ?_, ?_⟩
    · refine ⟨by omega, by omega, by omega, by omega, by omega, ?_⟩
      rw [len_lp]
      obtain hh | hh | hh | hh | hh | hh | hh | hh | hh | hh : m = 0 ∨ m = 1 ∨ m = 2 ∨ m = 3 ∨ m = 4 ∨ m = 5 ∨ m = 6 ∨ m = 7 ∨ m = 8 ∨ m = 9 := by omega
      all_goals (subst hh; simp; omega)
    · have hl := yr_lp (Y + e * 400)
      rw [show (Y + e * 400) / 4 = 100 * e + Y / 4 by omega, show (Y + e * 400) / 100 = 4 * e + Y / 100 by omega, show (Y + e * 400) / 400 = e + Y / 400 by omega] at hl
      rw [days_eq _ _ _ (by omega) (by omega)]
      obtain hh | hh | hh | hh | hh | hh | hh | hh | hh | hh : m = 0 ∨ m = 1 ∨ m = 2 ∨ m = 3 ∨ m = 4 ∨ m = 5 ∨ m = 6 ∨ m = 7 ∨ m = 8 ∨ m = 9 := by omega
      all_goals (subst hh; simp [cumT]; omega)
theorem civil_days {y m d : Int} (h : good y m d) : civil (days y m d) = (y, m, d) := by
  obtain ⟨y', m', d', e, g, f⟩ := civil_is (days y m d)
  have hr := days_range h
  rw [show clamp (days y m d) = days y m d by unfold clamp; omega] at f
  obtain ⟨rfl, rfl, rfl⟩ := days_inj g h f
  exact e
end Go.Proofs.YtlgdenihddkjaaaDoor.Cal
