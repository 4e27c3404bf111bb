/- The calendar, in plain words: the number of a day, the day of a number. -/
import Derived.WalkKit
import Derived.Test.YtlgdenihddkjaaaDoorBa
import Derived.Test.YtlgdenihddkjaaaDoorPStx1
namespace Go.Proofs.YtlgdenihddkjaaaDoor.Cal
set_option linter.unusedSimpArgs false
set_option linter.unusedVariables false
/-- Is a year (0 and up) a leap year? -/
def leap (y : Int) : Bool := decide ((y % 4 = 0 ∧ y % 100 ≠ 0) ∨ y % 400 = 0)
/-- A month's days. -/
def len (y m : Int) : Int := if m = 4 ∨ m = 6 ∨ m = 9 ∨ m = 11 then 30 else if m = 2 then (if leap y then 29 else 28) else 31
/-- The program's number of a day. -/
def days (y m d : Int) : Int :=
  let y1 := if m < 3 then y - 1 else y
  let m1 := if m < 3 then m + 12 else m
  let era := y1 / 400
  let i := y1 - era * 400
  era * 146097 + i * 365 + i / 4 - i / 100 + (153 * (m1 - 3) + 2) / 5 + d - 719469
/-- Is there such a day? -/
def good (y m d : Int) : Prop := 0 ≤ y ∧ y ≤ 9999 ∧ 1 ≤ m ∧ m ≤ 12 ∧ 1 ≤ d ∧ d ≤ len y m

/-- How many days lie ahead of a year. -/
def yr (y : Int) : Int := 365 * y + (y + 3) / 4 - (y + 99) / 100 + (y + 399) / 400
/-- How many days of a year lie ahead of a month's end. -/
def cum (y : Int) : Nat → Int
  | 0 => 0
  | k + 1 => cum y k + len y (k + 1)
theorem leap_iff (y : Int) : leap y = true ↔ (y % 4 = 0 ∧ y % 100 ≠ 0) ∨ y % 400 = 0 := by simp [leap]
theorem len_le (y m : Int) : 28 ≤ len y m ∧ len y m ≤ 31 := by
  unfold len; split
  · omega
  · split
    · split <;> omega
    · omega
/-- 1 or 0. -/
def lp (y : Int) : Int := if leap y then 1 else 0
theorem lp_is (y : Int) : (lp y = 1 ∧ ((y % 4 = 0 ∧ y % 100 ≠ 0) ∨ y % 400 = 0)) ∨ (lp y = 0 ∧ ¬ ((y % 4 = 0 ∧ y % 100 ≠ 0) ∨ y % 400 = 0)) := by
  unfold lp; rw [← leap_iff]; cases h : leap y <;> simp
theorem yr_succ (y : Int) : yr (y + 1) = yr y + 365 + lp y := by
  rcases lp_is y with ⟨e, h⟩ | ⟨e, h⟩ <;> rw [e] <;> unfold yr <;> omega
theorem months (P : Int → Prop) (h1 : P 1) (h2 : P 2) (h3 : P 3) (h4 : P 4) (h5 : P 5) (h6 : P 6) (h7 : P 7) (h8 : P 8) (h9 : P 9) (h10 : P 10) (h11 : P 11) (h12 : P 12) (m : Int) (a : 1 ≤ m) (b : m ≤ 12) : P m := by
  obtain h | h | h | h | h | h | h | h | h | h | h | h : m = 1 ∨ m = 2 ∨ m = 3 ∨ m = 4 ∨ m = 5 ∨ m = 6 ∨ m = 7 ∨ m = 8 ∨ m = 9 ∨ m = 10 ∨ m = 11 ∨ m = 12 := by omega
  all_goals (subst h; assumption)
theorem len_lp (y m : Int) : len y m = if m = 4 ∨ m = 6 ∨ m = 9 ∨ m = 11 then 30 else if m = 2 then 28 + lp y else 31 := by
  unfold len lp; cases leap y <;> simp
/-- The days ahead of a month. -/
def cumT (y m : Int) : Int := if m = 1 then 0 else if m = 2 then 31 else 28 + lp y + (if m = 3 then 31 else if m = 4 then 62 else if m = 5 then 92 else if m = 6 then 123 else if m = 7 then 153 else if m = 8 then 184 else if m = 9 then 215 else if m = 10 then 245 else if m = 11 then 276 else if m = 12 then 306 else 337)
theorem cum_T (y m : Int) (a : 1 ≤ m) (b : m ≤ 13) : cum y (m - 1).toNat = cumT y m := by
  obtain h | h | h | h | h | h | h | h | h | h | h | h | h : m = 1 ∨ m = 2 ∨ m = 3 ∨ m = 4 ∨ m = 5 ∨ m = 6 ∨ m = 7 ∨ m = 8 ∨ m = 9 ∨ m = 10 ∨ m = 11 ∨ m = 12 ∨ m = 13 := by omega
  all_goals (subst h; simp [cum, cumT, len_lp]; try omega)
theorem era_sum (y : Int) : y / 400 * 146097 + (y - y / 400 * 400) * 365 + (y - y / 400 * 400) / 4 - (y - y / 400 * 400) / 100 = 365 * y + y / 4 - y / 100 + y / 400 := by
  obtain ⟨e, i, rfl, h0, h1⟩ : ∃ e i, y = 400 * e + i ∧ 0 ≤ i ∧ i < 400 := ⟨y / 400, y % 400, by omega, by omega, by omega⟩
  have e1 : (400 * e + i) / 400 = e := by omega
  have e2 : (400 * e + i) / 4 = 100 * e + i / 4 := by omega
  have e3 : (400 * e + i) / 100 = 4 * e + i / 100 := by omega
  rw [e1, e2, e3, show 400 * e + i - e * 400 = i by omega]; omega
theorem yr_pred (y : Int) : yr y = 365 * (y - 1) + (y - 1) / 4 - (y - 1) / 100 + (y - 1) / 400 + 366 := by unfold yr; omega
theorem yr_lp (y : Int) : yr y + lp y = 365 * y + y / 4 - y / 100 + y / 400 + 1 := by
  have := yr_succ y
  rw [yr_pred (y + 1), show y + 1 - 1 = y by omega] at this
  omega
theorem days_eq (y m d : Int) (a : 1 ≤ m) (b : m ≤ 12) : days y m d = yr y + cumT y m + d - 1 - 719528 := by
  have h1 := era_sum y
  have h2 := era_sum (y - 1)
  have h3 := yr_pred y
  have h4 := yr_lp y
  refine months (fun m => days y m d = yr y + cumT y m + d - 1 - 719528) ?_ ?_ ?_ ?_ ?_ ?_ ?_ ?_ ?_ ?_ ?_ ?_ m a b
  all_goals (simp [days, cumT]; omega)
theorem cumT_succ (y m : Int) (a : 1 ≤ m) (b : m ≤ 12) : cumT y (m + 1) = cumT y m + len y m := by
  refine months (fun m => cumT y (m + 1) = cumT y m + len y m) ?_ ?_ ?_ ?_ ?_ ?_ ?_ ?_ ?_ ?_ ?_ ?_ m a b
  all_goals (simp [cumT, len_lp]; try omega)
theorem cumT_13 (y : Int) : cumT y 13 = 365 + lp y := by simp [cumT]; omega
theorem lp_01 (y : Int) : 0 ≤ lp y ∧ lp y ≤ 1 := by rcases lp_is y with ⟨e, _⟩ | ⟨e, _⟩ <;> omega
theorem cumT_mono (y m m' : Int) (a : 1 ≤ m) (h : m < m') (b : m' ≤ 13) : cumT y m + len y m ≤ cumT y m' := by
  obtain ⟨n, hn⟩ : ∃ n : Nat, m' = m + 1 + n := ⟨(m' - m - 1).toNat, by omega⟩
  subst hn
  rw [← cumT_succ y m a (by omega)]
  clear h
  induction n with
  | zero => simp
  | succ n ih =>
    have h1 := ih (by omega)
    have h2 := cumT_succ y (m + 1 + n) (by omega) (by omega)
    have h3 := len_le y (m + 1 + n)
    rw [show m + 1 + ((n + 1 : Nat) : Int) = m + 1 + n + 1 by omega, h2]; omega
theorem cumT_bd (y m : Int) (a : 1 ≤ m) (b : m ≤ 12) : 0 ≤ cumT y m ∧ cumT y m + len y m ≤ 365 + lp y := by
  refine ⟨?_, ?_⟩
  · have := lp_01 y
    refine months (fun m => 0 ≤ cumT y m) ?_ ?_ ?_ ?_ ?_ ?_ ?_ ?_ ?_ ?_ ?_ ?_ m a b
    all_goals (simp [cumT]; try omega)
  · rw [← cumT_13]; exact cumT_mono y m 13 a (by omega) (by omega)
theorem yr_mono (y y' : Int) (h : y < y') : yr y + 365 + lp y ≤ yr y' := by
  rw [← yr_succ]; unfold yr; omega
/-- A number is of one day alone. -/
theorem days_inj {y m d y' m' d' : Int} (h : good y m d) (h' : good y' m' d') (e : days y m d = days y' m' d') : y = y' ∧ m = m' ∧ d = d' := by
  obtain ⟨a1, a2, a3, a4, a5, a6⟩ := h
  obtain ⟨b1, b2, b3, b4, b5, b6⟩ := h'
  rw [days_eq y m d a3 a4, days_eq y' m' d' b3 b4] at e
  have c1 := cumT_bd y m a3 a4
  have c2 := cumT_bd y' m' b3 b4
  have l1 := lp_01 y
  have l2 := lp_01 y'
  obtain rfl : y = y' := by
    rcases Int.lt_trichotomy y y' with g | g | g
    · have := yr_mono _ _ g; omega
    · exact g
    · have := yr_mono _ _ g; omega
  obtain rfl : m = m' := by
    rcases Int.lt_trichotomy m m' with g | g | g
    · have := cumT_mono y m m' a3 g (by omega); omega
    · exact g
    · have := cumT_mono y m' m b3 g (by omega); omega
  exact ⟨rfl, rfl, by omega⟩
theorem days_range {y m d : Int} (h : good y m d) : -719528 ≤ days y m d ∧ days y m d ≤ 2932896 := by
  obtain ⟨a1, a2, a3, a4, a5, a6⟩ := h
  rw [days_eq y m d a3 a4]
  have c1 := cumT_bd y m a3 a4
  have l1 := lp_01 y
  rcases lp_is y with ⟨e, h⟩ | ⟨e, h⟩ <;> rw [e] at c1 <;> unfold yr <;> omega

/-! ### The day of a number -/
def chk2 (i y : Nat) : Bool :=
  bif Nat.ble (365 * y + y / 4 - y / 100) i then
    bif Nat.ble (i - (365 * y + y / 4 - y / 100)) 364 then Nat.ble y 399 else
      bif Nat.ble (i - (365 * y + y / 4 - y / 100)) 365 then (bif Nat.beq y 399 then true else bif Nat.ble y 399 then bif Nat.beq ((y + 1) % 4) 0 then !(Nat.beq ((y + 1) % 100) 0) else false else false) else false
  else false
def chk (i : Nat) : Bool := chk2 i ((i - i / 1460 + i / 36524 - i / 146096) / 365)
/-- All of n numbers from a on: halved. -/
def allB : Nat → Nat → Nat → Bool
  | 0, a, _ => chk a
  | f + 1, a, n => bif Nat.ble n 1 then chk a else bif allB f a (n / 2) then allB f (a + n / 2) (n - n / 2) else false
theorem allB_all (f : Nat) : ∀ a n, n ≤ 2 ^ f → allB f a n = true → ∀ i, a ≤ i → i < a + n → chk i = true := by
  induction f with
  | zero =>
    intro a n hn h i h1 h2
    obtain rfl : i = a := by simp at hn; omega
    exact h
  | succ f ih =>
    intro a n hn h i h1 h2
    rw [allB] at h
    cases hb : Nat.ble n 1 with
    | true =>
      rw [hb] at h
      have := Nat.le_of_ble_eq_true hb
      obtain rfl : i = a := by omega
      exact h
    | false =>
      rw [hb] at h
      have hp : 2 ^ (f + 1) = 2 * 2 ^ f := by rw [Nat.pow_succ]; omega
      cases hx : allB f a (n / 2) with
      | false => rw [hx] at h; cases h
      | true =>
        rw [hx] at h
        rcases Nat.lt_or_ge i (a + n / 2) with g | g
        · exact ih a (n / 2) (by omega) hx i h1 g
        · exact ih _ _ (by omega) h i g (by omega)
theorem chk_all : allB 18 0 146097 = true := by decide +kernel
theorem chk_of (i : Nat) (h : i ≤ 146096) : chk i = true := allB_all 18 0 146097 (by decide) chk_all i (by omega) (by omega)
/-- A year of an era, out of a day of it. -/
def yoe (i : Int) : Int := (i - i / 1460 + i / 36524 - i / 146096) / 365
/-- The day of that year. -/
def doy (i : Int) : Int := i - (365 * yoe i + yoe i / 4 - yoe i / 100)
theorem yoe_is (i : Int) (h0 : 0 ≤ i) (h1 : i ≤ 146096) : 0 ≤ yoe i ∧ yoe i ≤ 399 ∧ 0 ≤ doy i ∧ doy i ≤ 365 ∧ (doy i = 365 → yoe i = 399 ∨ ((yoe i + 1) % 4 = 0 ∧ (yoe i + 1) % 100 ≠ 0)) := by
  obtain ⟨n, rfl⟩ := Int.eq_ofNat_of_zero_le h0
  have h := chk_of n (by omega)
  unfold chk at h
  generalize hy : (n - n / 1460 + n / 36524 - n / 146096) / 365 = y at h
  have e : yoe (n : Int) = (y : Int) := by unfold yoe; omega
  unfold doy
  rw [e]
  clear e hy
  unfold chk2 at h
  cases c1 : Nat.ble (365 * y + y / 4 - y / 100) n with
  | false => rw [c1] at h; cases h
  | true =>
    rw [c1] at h
    have c1 := Nat.le_of_ble_eq_true c1
    cases c2 : Nat.ble (n - (365 * y + y / 4 - y / 100)) 364 with
    | true =>
      rw [c2] at h
      have h : y ≤ 399 := Nat.le_of_ble_eq_true h
      have c2 := Nat.le_of_ble_eq_true c2
      omega
    | false =>
      rw [c2] at h
      cases c3 : Nat.ble (n - (365 * y + y / 4 - y / 100)) 365 with
      | false => rw [c3] at h; cases h
      | true =>
        rw [c3] at h
        have c3 := Nat.le_of_ble_eq_true c3
        cases c4 : Nat.beq y 399 with
        | true =>
          have c4 := Nat.eq_of_beq_eq_true c4
          omega
        | false =>
          rw [c4] at h
          cases c5 : Nat.ble y 399 with
          | false => rw [c5] at h; cases h
          | true =>
            rw [c5] at h
            have c5 := Nat.le_of_ble_eq_true c5
            cases c6 : Nat.beq ((y + 1) % 4) 0 with
            | false => rw [c6] at h; cases h
            | true =>
              rw [c6] at h
              have c6 := Nat.eq_of_beq_eq_true c6
              have c7 : Nat.beq ((y + 1) % 100) 0 = false := by simpa using h
              have c7 := Nat.ne_of_beq_eq_false c7
              omega

/-- The number, brought to a day that there is. -/
def clamp (n : Int) : Int := max (-719528) (min n 2932896)
/-- The program's day of a number: year, month, day. -/
def civil (n : Int) : Int × Int × Int :=
  let n1 := clamp n + 719468
  let era := n1 / 146097
  let i := n1 - era * 146097
  let m := (5 * doy i + 2) / 153
  let d := doy i - (153 * m + 2) / 5 + 1
  if m + 3 > 12 then (yoe i + era * 400 + 1, m + 3 - 12, d) else (yoe i + era * 400, m + 3, d)

theorem civil_is (n : Int) : ∃ y m d, civil n = (y, m, d) ∧ good y m d ∧ days y m d = clamp n := by
  have hc : -719528 ≤ clamp n ∧ clamp n ≤ 2932896 := by unfold clamp; omega
  unfold civil
  generalize clamp n = c at hc ⊢
  obtain ⟨e, i, h0, h1, h2⟩ : ∃ e i, c + 719468 = 146097 * e + i ∧ 0 ≤ i ∧ i < 146097 := ⟨(c + 719468) / 146097, (c + 719468) % 146097, by omega, by omega, by omega⟩
  have e1 : (c + 719468) / 146097 = e := by omega
  have e2 : c + 719468 - e * 146097 = i := by omega
  simp only [e1, e2]
  obtain ⟨y0, y1, r0, r1, r2⟩ := yoe_is i h1 (by omega)
  have hd : doy i = i - (365 * yoe i + yoe i / 4 - yoe i / 100) := rfl
  generalize yoe i = Y at *
  generalize doy i = r at *
  obtain ⟨m, hm⟩ : ∃ m, m = (5 * r + 2) / 153 := ⟨_, rfl⟩
  have hm0 : 0 ≤ m ∧ m ≤ 11 := by omega
  have he : -1 ≤ e ∧ e ≤ 24 := by omega
  have em : ∀ k, (Y + e * 400 + k) / 4 = 100 * e + (Y + k) / 4 := fun k => by omega
  have en : ∀ k, (Y + e * 400 + k) / 100 = 4 * e + (Y + k) / 100 := fun k => by omega
  have eo : ∀ k, (Y + e * 400 + k) / 400 = e + (Y + k) / 400 := fun k => by omega
  rw [← hm]
  by_cases h : m + 3 > 12
  · rw [if_pos h]
    refine ⟨_, _, _, rfl, ?_, ?_⟩
    · refine ⟨by omega, by omega, by omega, by omega, by omega, ?_⟩
      rw [len_lp]
      rcases lp_is (Y + e * 400 + 1) with ⟨g, hl⟩ | ⟨g, hl⟩ <;> rw [g]
      · obtain hh | hh : m = 10 ∨ m = 11 := by omega
        · subst hh; simp; omega
        · subst hh; simp; omega
      · obtain hh | hh : m = 10 ∨ m = 11 := by omega
        · subst hh; simp; omega
        · subst hh; simp
          have : ¬ r = 365 := fun hr => hl (by rcases r2 hr with x | x <;> omega)
          omega
    · rw [days_eq _ _ _ (by omega) (by omega), yr_pred, show Y + e * 400 + 1 - 1 = Y + e * 400 + 0 by omega, em, en, eo]
      obtain hh | hh : m = 10 ∨ m = 11 := by omega
      · subst hh; simp [cumT]; omega
      · subst hh; simp [cumT]; omega
  · rw [if_neg h]
    have hy : 0 ≤ Y + e * 400 := by
      by_cases g : e = -1
      · exfalso
        have hY : Y = 399 := by omega
        subst g; subst hY; omega
      · omega
    refine ⟨_, _, _, rfl, ?_, ?_⟩
    · refine ⟨by omega, by omega, by omega, by omega, by omega, ?_⟩
      rw [len_lp]
      obtain hh | hh | hh | hh | hh | hh | hh | hh | hh | hh : m = 0 ∨ m = 1 ∨ m = 2 ∨ m = 3 ∨ m = 4 ∨ m = 5 ∨ m = 6 ∨ m = 7 ∨ m = 8 ∨ m = 9 := by omega
      all_goals (subst hh; simp; omega)
    · have hl := yr_lp (Y + e * 400)
      rw [show (Y + e * 400) / 4 = 100 * e + Y / 4 by omega, show (Y + e * 400) / 100 = 4 * e + Y / 100 by omega, show (Y + e * 400) / 400 = e + Y / 400 by omega] at hl
      rw [days_eq _ _ _ (by omega) (by omega)]
      obtain hh | hh | hh | hh | hh | hh | hh | hh | hh | hh : m = 0 ∨ m = 1 ∨ m = 2 ∨ m = 3 ∨ m = 4 ∨ m = 5 ∨ m = 6 ∨ m = 7 ∨ m = 8 ∨ m = 9 := by omega
      all_goals (subst hh; simp [cumT]; omega)
theorem civil_days {y m d : Int} (h : good y m d) : civil (days y m d) = (y, m, d) := by
  obtain ⟨y', m', d', e, g, f⟩ := civil_is (days y m d)
  have hr := days_range h
  rw [show clamp (days y m d) = days y m d by unfold clamp; omega] at f
  obtain ⟨rfl, rfl, rfl⟩ := days_inj g h f
  exact e
end Go.Proofs.YtlgdenihddkjaaaDoor.Cal

/- What stamp.made does: the first number out of its bounds, or the stamp. -/
namespace Go.Proofs.YtlgdenihddkjaaaDoor
set_option linter.unusedSimpArgs false
set_option linter.unusedVariables false
open Go.RowKit Go.Proofs.YtlgdenihddkjaaaDoorW.PrintWords

/-- A number that was read, where it begins, and its bounds. -/
structure Pt where
  n : Nat
  p : Nat
  lo : Int
  hi : Int
def Pt.vs (x : Pt) : List Value := [.int .i64 x.n, .int .i64 x.p, .int .i64 x.lo, .int .i64 x.hi]
def flat : List Pt → List Value
  | [] => []
  | x :: r => x.vs ++ flat r
theorem flat_length : ∀ ps : List Pt, (flat ps).length = 4 * ps.length
  | [] => rfl
  | x :: r => by simp [flat, Pt.vs, flat_length r]; omega
theorem flat_at : ∀ (ps : List Pt) (i : Nat) (x : Pt), ps[i]? = some x → ∀ j, j < 4 → (flat ps)[i * 4 + j]? = x.vs[j]?
  | [], _, _, h, _, _ => by simp at h
  | y :: r, 0, x, h, j, hj => by
    simp at h
    subst h
    simp only [flat, Nat.zero_mul, Nat.zero_add]
    rw [List.getElem?_append_left (by simp [Pt.vs]; omega)]
  | y :: r, i + 1, x, h, j, hj => by
    simp at h
    simp only [flat]
    rw [List.getElem?_append_right (by simp [Pt.vs]; omega)]
    rw [← flat_at r i x h j hj]
    congr 1
    simp [Pt.vs]
    omega
theorem flat_append : ∀ (a b : List Pt), flat (a ++ b) = flat a ++ flat b
  | [], _ => rfl
  | x :: r, b => by simp [flat, flat_append r b]
/-- The cells of a row that one owns. -/
theorem owns_cells {w : World} {M n : Nat} {v : Value} {ps : List Pt} (h : w.ownsRow M 54 4 v n (flat ps)) (hn : 0 < n) : n = ps.length ∧ ∃ g cap, v = .slice (some ⟨g, 0, none⟩) n cap ∧ M ≤ g ∧ g < w.heap.size ∧ n ≤ cap ∧
    ∀ i x, ps[i]? = some x → ∀ j, j < 4 → w.cell? ⟨g, i * 4 + j, none⟩ = x.vs[j]? := by
  obtain ⟨h1, h2⟩ := h
  rw [flat_length] at h1
  rcases h2 with ⟨_, h2⟩ | ⟨g, cap, cur, rfl, hg, hh, hc, hm, hs, ht⟩
  · omega
  · refine ⟨by omega, g, cap, rfl, hg, heap_lt hh, hc, fun i x hx j hj => ?_⟩
    rw [blk_cell hh, ← flat_at ps i x hx j hj, ← ht]
    have hi : i < ps.length := by
      rcases Nat.lt_or_ge i ps.length with h | h
      · exact h
      · rw [List.getElem?_eq_none h] at hx; cases hx
    rw [List.getElem?_take_of_lt (by omega)]
    simp

/-- The first number that is out of its bounds. -/
def madeL (h2 : Int) : Nat → List Pt → Option (Int × Nat)
  | _, [] => none
  | i, x :: r => if (x.n : Int) < x.lo ∨ (x.n : Int) > (if i = 2 then h2 else x.hi) then some (x.p, 4) else madeL h2 (i + 1) r

/-- The stamp is naught and the fault is told. -/
theorem bad_fin (w wr : World) (hT : wr.heap[w.heap.size]? = some (.cells #[.int .i64 0, .int .i64 0] 31 (0, 0))) (hb : Below w.heap.size w wr) (hlt : 0 < w.heap.size) (s : Value) (heg : wr.cell? ⟨0, 0, none⟩ = some s) (P : Obj) (p : Int) :
    ∀ W, W = ((((wr.setCell ⟨w.heap.size, 0, none⟩ (.int .i64 0)).setCell ⟨w.heap.size, 1, none⟩ (.int .i64 0)).alloc P).alloc (.cells #[.int .i64 p, s] 65)) →
    W.cell? ⟨w.heap.size, 0, none⟩ = some (.int .i64 0) ∧ W.cell? ⟨w.heap.size, 1, none⟩ = some (.int .i64 0) ∧ FltIs W (.iface 47 (.pointer (some ⟨wr.heap.size + 1, 0, none⟩))) (some (p, 4)) ∧ Below w.heap.size w W := by
  rintro W rfl
  have e1 := blk_set (blk_set hT 0 (.int .i64 0)) 1 (.int .i64 0)
  have hb1 : Below w.heap.size w ((wr.setCell ⟨w.heap.size, 0, none⟩ (.int .i64 0)).setCell ⟨w.heap.size, 1, none⟩ (.int .i64 0)) := (hb.setCell (Nat.le_refl _) _).setCell (Nat.le_refl _) _
  have hs1 : ((wr.setCell ⟨w.heap.size, 0, none⟩ (.int .i64 0)).setCell ⟨w.heap.size, 1, none⟩ (.int .i64 0)).heap.size = wr.heap.size := by simp [World.setCell]
  have hc1 : ((wr.setCell ⟨w.heap.size, 0, none⟩ (.int .i64 0)).setCell ⟨w.heap.size, 1, none⟩ (.int .i64 0)).cell? ⟨0, 0, none⟩ = some s := by
    rw [World.cell?_of_block (w := wr)]
    · exact heg
    · exact (Below.heap_setCell _ _ _ _ (by show 0 ≠ w.heap.size; omega)).trans (Below.heap_setCell _ _ _ _ (by show 0 ≠ w.heap.size; omega))
  generalize (wr.setCell _ _).setCell _ _ = X at e1 hb1 hs1 hc1 ⊢
  have hl := heap_lt e1
  have e2 : (X.alloc P).heap[w.heap.size]? = _ := (Below.heap_alloc _ _ _ hl).trans e1
  have e3 : ((X.alloc P).alloc (.cells #[.int .i64 p, s] 65)).heap[w.heap.size]? = _ := (Below.heap_alloc _ _ _ (heap_lt e2)).trans e2
  refine ⟨by simpa using blk_cell e3 0, by simpa using blk_cell e3 1, ?_, (hb1.alloc (by omega) _).alloc (by simp; omega) _⟩
  have h3 := flt_new (X.alloc P) 0 p 4 s (by omega) (by omega) ((World.cell?_alloc_lt X P ⟨0, 0, none⟩ (World.block_lt_of_cell? X _ hc1)).trans hc1)
  have e : (X.alloc P).heap.size = wr.heap.size + 1 := by simp [hs1]
  rw [e] at h3
  exact h3

theorem bad_fin2 (w wr : World) (hT : wr.heap[w.heap.size]? = some (.cells #[.int .i64 0, .int .i64 0] 31 (0, 0))) (hb : Below w.heap.size w wr) (hlt : 0 < w.heap.size) (s : Value) (heg : wr.cell? ⟨0, 0, none⟩ = some s) (P : Obj) (p : Int) (q : Nat) :
    ∀ W, W = (((((wr.alloc P).drewN q).setCell ⟨w.heap.size, 0, none⟩ (.int .i64 0)).setCell ⟨w.heap.size, 1, none⟩ (.int .i64 0)).alloc (.cells #[.int .i64 p, s] 65)) →
    W.cell? ⟨w.heap.size, 0, none⟩ = some (.int .i64 0) ∧ W.cell? ⟨w.heap.size, 1, none⟩ = some (.int .i64 0) ∧ FltIs W (.iface 47 (.pointer (some ⟨wr.heap.size + 1, 0, none⟩))) (some (p, 4)) ∧ Below w.heap.size w W := by
  rintro W rfl
  have hl0 := heap_lt hT
  have eT : ((wr.alloc P).drewN q).heap[w.heap.size]? = some (.cells #[.int .i64 0, .int .i64 0] 31 (0, 0)) := (Below.heap_alloc wr P _ hl0).trans hT
  have eb : Below w.heap.size w ((wr.alloc P).drewN q) := Below.drewN (hb.alloc (by omega) _) q
  have eg : ((wr.alloc P).drewN q).cell? ⟨0, 0, none⟩ = some s := (World.cell?_alloc_lt wr P ⟨0, 0, none⟩ (World.block_lt_of_cell? wr _ heg)).trans heg
  have es : ((wr.alloc P).drewN q).heap.size = wr.heap.size + 1 := by show (wr.alloc P).heap.size = _; simp
  generalize (wr.alloc P).drewN q = Y at eT eb eg es ⊢
  have e1 := blk_set (blk_set eT 0 (.int .i64 0)) 1 (.int .i64 0)
  have hb1 : Below w.heap.size w ((Y.setCell ⟨w.heap.size, 0, none⟩ (.int .i64 0)).setCell ⟨w.heap.size, 1, none⟩ (.int .i64 0)) := (eb.setCell (Nat.le_refl _) _).setCell (Nat.le_refl _) _
  have hs1 : ((Y.setCell ⟨w.heap.size, 0, none⟩ (.int .i64 0)).setCell ⟨w.heap.size, 1, none⟩ (.int .i64 0)).heap.size = wr.heap.size + 1 := by simp [World.setCell, es]
  have hc1 : ((Y.setCell ⟨w.heap.size, 0, none⟩ (.int .i64 0)).setCell ⟨w.heap.size, 1, none⟩ (.int .i64 0)).cell? ⟨0, 0, none⟩ = some s := by
    rw [World.cell?_of_block (w := Y)]
    · exact eg
    · exact (Below.heap_setCell _ _ _ _ (by show 0 ≠ w.heap.size; omega)).trans (Below.heap_setCell _ _ _ _ (by show 0 ≠ w.heap.size; omega))
  generalize (Y.setCell _ _).setCell _ _ = X at e1 hb1 hs1 hc1 ⊢
  have hl := heap_lt e1
  have e3 : (X.alloc (.cells #[.int .i64 p, s] 65)).heap[w.heap.size]? = _ := (Below.heap_alloc _ _ _ hl).trans e1
  refine ⟨by simpa using blk_cell e3 0, by simpa using blk_cell e3 1, ?_, hb1.alloc (by omega) _⟩
  have h3 := flt_new X 0 p 4 s (by omega) (by omega) hc1
  rw [hs1] at h3
  exact h3

set_option maxHeartbeats 4000000 in
theorem made_bad (g cap n M : Nat) (ps : List Pt) (sign : UInt8) (nanos : Nat) (x0 x1 : Pt) (h2 : Int) (kl : Nat) (w : World) (hM : g < w.heap.size) (hn : n = ps.length) (hn2 : 2 ≤ n) (hn8 : n ≤ 8) (hcap : n ≤ cap)
    (hc : ∀ i x, ps[i]? = some x → ∀ j, j < 4 → w.cell? ⟨g, i * 4 + j, none⟩ = x.vs[j]?) (hx0 : ps[0]? = some x0) (hx1 : ps[1]? = some x1) (hl : PSt.stamp_length.f kl x0.n x1.n = some h2) (hI : ErrInv w) (R : Int × Nat) (hR : madeL h2 0 ps = some R) :
    Calls Tryd.prog 32 #[.slice (some ⟨g, 0, none⟩) n cap, .int .u8 sign.toNat, .int .i64 nanos] w fun e w' => ∃ v, e = .returned (.tuple #[.agg #[.int .i64 0, .int .i64 0], v]) ∧ FltIs w' v (some R) ∧ Below w.heap.size w w' := by
  have hdrop : ∀ j, n ≤ j → ps.drop j = [] := fun j h => List.drop_eq_nil_of_le (by omega)
  have hget : ∀ j, j < n → ∃ x, ps[j]? = some x ∧ ps.drop j = x :: ps.drop (j + 1) := fun j h => by
    have hlt' : j < ps.length := by omega
    exact ⟨ps[j], List.getElem?_eq_getElem hlt', List.drop_eq_getElem_cons hlt'⟩
  clear hn
  go_enter Tryd.func32, Tryd.ntmps32
  go_wp2
  go_loopw [17] (fun i wr => ∃ j : Nat, j ≤ n ∧ i = .int .i64 j ∧ madeL h2 j (ps.drop j) = some R ∧ Below w.heap.size w wr ∧ w.heap.size + 1 ≤ wr.heap.size ∧
      wr.heap[w.heap.size]? = some (.cells #[.int .i64 0, .int .i64 0] 31 (0, 0)))
    (fun i _ => n - (intOf i).toNat)
  case atStart =>
    refine ⟨0, by omega, rfl, hR, (Below.refl _ _).alloc (Nat.le_refl _) _, by simp, heap_alloc_new w _⟩
  case round =>
    obtain ⟨j, hj, rfl, hm, hb, hsz, hT⟩ := hrel
    have hjn : j < n := by
      rcases Nat.lt_or_ge j n with h | h
      · exact h
      · rw [hdrop j h] at hm; cases hm
    obtain ⟨x, hx, hdr⟩ := hget j hjn
    have hc0 : wr.cell? ⟨g, j * 4, none⟩ = some (.int .i64 x.n) := cell_in hb (hc j x hx 0 (by omega))
    have hc1 : wr.cell? ⟨g, j * 4 + 1, none⟩ = some (.int .i64 x.p) := cell_in hb (hc j x hx 1 (by omega))
    have hc2 : wr.cell? ⟨g, j * 4 + 2, none⟩ = some (.int .i64 x.lo) := cell_in hb (hc j x hx 2 (by omega))
    have hc3 : wr.cell? ⟨g, j * 4 + 3, none⟩ = some (.int .i64 x.hi) := cell_in hb (hc j x hx 3 (by omega))
    have hg0 : wr.cell? ⟨g, 0, none⟩ = some (.int .i64 x0.n) := by simpa using cell_in hb (hc 0 x0 hx0 0 (by omega))
    have hg1 : wr.cell? ⟨g, 4, none⟩ = some (.int .i64 x1.n) := by simpa using cell_in hb (hc 1 x1 hx1 0 (by omega))
    have hg0' : ∀ o, (wr.alloc o).cell? ⟨g, 0, none⟩ = some (.int .i64 x0.n) := fun o => (World.cell?_alloc_lt wr o ⟨g, 0, none⟩ (World.block_lt_of_cell? wr _ hg0)).trans hg0
    have hg1' : ∀ o, (wr.alloc o).cell? ⟨g, 4, none⟩ = some (.int .i64 x1.n) := fun o => (World.cell?_alloc_lt wr o ⟨g, 4, none⟩ (World.block_lt_of_cell? wr _ hg1)).trans hg1
    have hn0 : (0 : Int) < (n : Int) := by omega
    have hn0N : 0 < n := by omega
    have hnz : ¬ n = 0 := by omega
    have hn1N : 1 < n := by omega
    have hn1L : ¬ (n : Int) ≤ 1 := by omega
    have hn1M : ¬ n ≤ 1 := by omega
    have hn1 : (1 : Int) < (n : Int) := by omega
    have hlt : (j : Int) < (n : Int) := by omega
    obtain ⟨a, he, -⟩ := hI.sent 4 (by decide)
    have heg : wr.cell? ⟨0, 0, none⟩ = _ := cell_in hb he
    have he0 : ∀ o, (wr.alloc o).cell? ⟨0, 0, none⟩ = _ := fun o => (World.cell?_alloc_lt wr o ⟨0, 0, none⟩ (World.block_lt_of_cell? wr _ heg)).trans heg
    have hT0 : wr.cell? ⟨w.heap.size, 0, none⟩ = some (.int .i64 0) := by simpa using blk_cell hT 0
    have hT1 : wr.cell? ⟨w.heap.size, 1, none⟩ = some (.int .i64 0) := by simpa using blk_cell hT 1
    have hZ0 := blk_fz hT 0
    have hZ1 := blk_fz hT 1
    have hne : w.heap.size < wr.heap.size := by omega
    have hne' : ¬ w.heap.size = wr.heap.size := by omega
    have hne2 : ¬ w.heap.size = wr.heap.size + 1 := by omega
    have HB : Hid (Below w.heap.size w wr) := hb
    have HT : Hid (wr.heap[w.heap.size]? = some (.cells #[.int .i64 0, .int .i64 0] 31 (0, 0))) := hT
    have HM : Hid (madeL h2 j (ps.drop j) = some R) := hm
    have h00 : 0 < w.heap.size := World.block_lt_of_cell? w _ he
    clear hI he hT hm hb hc
    clear hget hdrop
    by_cases hj2 : j = 2
    · subst hj2
      have k0 : wr.cell? ⟨g, 8, none⟩ = some (.int .i64 x.n) := hc0
      have k1 : wr.cell? ⟨g, 9, none⟩ = some (.int .i64 x.p) := hc1
      have k2 : wr.cell? ⟨g, 10, none⟩ = some (.int .i64 x.lo) := hc2
      have k3 : wr.cell? ⟨g, 11, none⟩ = some (.int .i64 x.hi) := hc3
      have hlt2 : (2 : Int) < (n : Int) := by omega
      clear hc0 hc1 hc2 hc3 hlt
      have hRbad : ((x.n : Int) < x.lo ∨ (x.n : Int) > h2) → R = ((x.p : Int), 4) := fun h => by
        have hm := HM.out
        rw [hdr, madeL, if_pos rfl, if_pos h] at hm
        exact (Option.some.inj hm).symm
      have hRok : ¬ ((x.n : Int) < x.lo ∨ (x.n : Int) > h2) → madeL h2 (2 + 1) (ps.drop (2 + 1)) = some R := fun h => by
        have hm := HM.out
        rw [hdr, madeL, if_pos rfl, if_neg h] at hm
        exact hm
      clear hdr
      by_cases hlo : (x.n : Int) < x.lo
      · go_wp2
        go_quiet (first | (go_at_call 25; refine (PSt.stamp_length.calls kl _ _ _ _ hl).mono ?_; rintro e w' ⟨rfl, ⟨nd, rfl⟩⟩; (first | exact ⟨rfl, _, World.drewN_drewN _ _ _⟩ | exact ⟨rfl, _, Eq.trans (World.drewN_drewN _ _ _) (congrArg (World.drewN _) (Nat.add_assoc _ _ _))⟩)))
        go_wp2_with (go_at_call 24; refine (fault_any _ _ _ _).mono ?_; rintro e w' ⟨rfl, rfl⟩)
        obtain rfl : R = ((x.p : Int), 4) := hRbad (Or.inl hlo)
        obtain ⟨r0, r1, r2, r3⟩ := bad_fin2 w wr HT.out HB.out h00 _ heg _ _ _ _ rfl
        refine bodyPost_ret_by (v := .tuple #[.agg #[.int .i64 0, .int .i64 0], .iface 47 (.pointer (some ⟨wr.heap.size + 1, 0, none⟩))]) ?_ rfl ?_
        · clear r2 r3
          generalize World.alloc _ _ = W at r0 r1 ⊢
          simp [results, Tryd.results32, go_sem, r0, r1]
        · exact ⟨_, rfl, r2, r3⟩
      by_cases hhi : (x.n : Int) > h2
      · go_wp2
        go_quiet (first | (go_at_call 25; refine (PSt.stamp_length.calls kl _ _ _ _ hl).mono ?_; rintro e w' ⟨rfl, ⟨nd, rfl⟩⟩; (first | exact ⟨rfl, _, World.drewN_drewN _ _ _⟩ | exact ⟨rfl, _, Eq.trans (World.drewN_drewN _ _ _) (congrArg (World.drewN _) (Nat.add_assoc _ _ _))⟩)))
        go_wp2_with (go_at_call 24; refine (fault_any _ _ _ _).mono ?_; rintro e w' ⟨rfl, rfl⟩)
        obtain rfl : R = ((x.p : Int), 4) := hRbad (Or.inr hhi)
        obtain ⟨r0, r1, r2, r3⟩ := bad_fin2 w wr HT.out HB.out h00 _ heg _ _ _ _ rfl
        refine bodyPost_ret_by (v := .tuple #[.agg #[.int .i64 0, .int .i64 0], .iface 47 (.pointer (some ⟨wr.heap.size + 1, 0, none⟩))]) ?_ rfl ?_
        · clear r2 r3
          generalize World.alloc _ _ = W at r0 r1 ⊢
          simp [results, Tryd.results32, go_sem, r0, r1]
        · exact ⟨_, rfl, r2, r3⟩
      · go_wp2
        go_quiet (first | (go_at_call 25; refine (PSt.stamp_length.calls kl _ _ _ _ hl).mono ?_; rintro e w' ⟨rfl, ⟨nd, rfl⟩⟩; (first | exact ⟨rfl, _, World.drewN_drewN _ _ _⟩ | exact ⟨rfl, _, Eq.trans (World.drewN_drewN _ _ _) (congrArg (World.drewN _) (Nat.add_assoc _ _ _))⟩)))
        go_wp2_with (go_at_call 24; refine (fault_any _ _ _ _).mono ?_; rintro e w' ⟨rfl, rfl⟩)
        refine ⟨⟨2 + 1, by omega, rfl, hRok (by omega), Below.drewN (HB.out.alloc (by omega) _) _, by show w.heap.size + 1 ≤ (wr.alloc _).heap.size; simp; omega, (Below.heap_alloc wr _ _ (by omega)).trans HT.out⟩, ?_⟩
        show n - 3 < n - 2
        omega
    have hRbad : ((x.n : Int) < x.lo ∨ (x.n : Int) > x.hi) → R = ((x.p : Int), 4) := fun h => by
      have hm := HM.out
      rw [hdr, madeL, if_neg hj2, if_pos h] at hm
      exact (Option.some.inj hm).symm
    have hRok : ¬ ((x.n : Int) < x.lo ∨ (x.n : Int) > x.hi) → madeL h2 (j + 1) (ps.drop (j + 1)) = some R := fun h => by
      have hm := HM.out
      rw [hdr, madeL, if_neg hj2, if_neg h] at hm
      exact hm
    have hj2' : ¬ (j : Int) = 2 := by omega
    clear hdr
    by_cases hlo : (x.n : Int) < x.lo
    · go_wp2_with (go_at_call 24; refine (fault_any _ _ _ _).mono ?_; rintro e w' ⟨rfl, rfl⟩)
      obtain rfl : R = ((x.p : Int), 4) := hRbad (Or.inl hlo)
      obtain ⟨r0, r1, r2, r3⟩ := bad_fin w wr HT.out HB.out h00 _ heg _ _ _ rfl
      refine bodyPost_ret_by (v := .tuple #[.agg #[.int .i64 0, .int .i64 0], .iface 47 (.pointer (some ⟨wr.heap.size + 1, 0, none⟩))]) ?_ rfl ?_
      · clear r2 r3
        generalize World.alloc _ _ = W at r0 r1 ⊢
        simp [results, Tryd.results32, go_sem, r0, r1]
      · exact ⟨_, rfl, r2, r3⟩
    by_cases hhi : (x.n : Int) > x.hi
    · go_wp2_with (go_at_call 24; refine (fault_any _ _ _ _).mono ?_; rintro e w' ⟨rfl, rfl⟩)
      obtain rfl : R = ((x.p : Int), 4) := hRbad (Or.inr hhi)
      obtain ⟨r0, r1, r2, r3⟩ := bad_fin w wr HT.out HB.out h00 _ heg _ _ _ rfl
      refine bodyPost_ret_by (v := .tuple #[.agg #[.int .i64 0, .int .i64 0], .iface 47 (.pointer (some ⟨wr.heap.size + 1, 0, none⟩))]) ?_ rfl ?_
      · clear r2 r3
        generalize World.alloc _ _ = W at r0 r1 ⊢
        simp [results, Tryd.results32, go_sem, r0, r1]
      · exact ⟨_, rfl, r2, r3⟩
    · go_wp2_with (go_at_call 24; refine (fault_any _ _ _ _).mono ?_; rintro e w' ⟨rfl, rfl⟩)
      refine ⟨⟨j + 1, by omega, rfl, hRok (by omega), HB.out.alloc (by omega) _, by simp; omega, (Below.heap_alloc _ _ _ (by omega)).trans HT.out⟩, ?_⟩
      have e1 : (intOf (Value.int IntKind.i64 ((j : Int) + 1))).toNat = j + 1 := by show ((j : Int) + 1).toNat = j + 1; omega
      have e2 : (intOf (Value.int IntKind.i64 (j : Int))).toNat = j := by show (j : Int).toNat = j; omega
      rw [e1, e2]
      omega
end Go.Proofs.YtlgdenihddkjaaaDoor

/- What stamp.made does when all numbers lie in their bounds. -/
namespace Go.Proofs.YtlgdenihddkjaaaDoor
set_option linter.unusedSimpArgs false
set_option linter.unusedVariables false
open Go.RowKit Go.Proofs.YtlgdenihddkjaaaDoorW.PrintWords
theorem flt_far {w' : World} {t0 gf : Nat} {sf : Value} (hT : w'.heap[t0]? = some (.cells #[.int .i64 0, .int .i64 0] 31 (0, 0))) (hf : w'.heap[gf]? = some (.cells #[.int .i64 0, sf] 65 (0, 0))) (hs : w'.cell? ⟨gidx 4, 0, none⟩ = some sf) (h0 : 0 < t0) :
    FltIs ((w'.setCell ⟨t0, 0, none⟩ (.int .i64 0)).setCell ⟨t0, 1, none⟩ (.int .i64 0)) (.iface 47 (.pointer (some ⟨gf, 0, none⟩))) (some (0, 4)) := by
  have hne : gf ≠ t0 := fun e => by rw [e, hT] at hf; cases hf
  refine ⟨by omega, by omega, gf, sf, rfl, ?_, ?_⟩
  · exact (Below.heap_setCell _ _ _ _ hne).trans ((Below.heap_setCell _ _ _ _ hne).trans hf)
  · rw [World.cell?_of_block (w := w')]
    · exact hs
    · exact (Below.heap_setCell _ _ _ _ (by show 0 ≠ t0; omega)).trans (Below.heap_setCell _ _ _ _ (by show 0 ≠ t0; omega))

set_option maxHeartbeats 8000000 in
theorem made_six_good (g cap : Nat) (ps : List Pt) (sign : UInt8) (nanos : Nat) (x0 x1 x2 x3 x4 x5 : Pt) (h2 : Int) (kl : Nat) (w : World) (hn : ps = [x0, x1, x2, x3, x4, x5]) (hcap : 6 ≤ cap) 
    (hc : ∀ i x, ps[i]? = some x → ∀ j, j < 4 → w.cell? ⟨g, i * 4 + j, none⟩ = x.vs[j]?) (hl : PSt.stamp_length.f kl x0.n x1.n = some h2) (hI : ErrInv w) (hR : madeL h2 0 ps = none)
    (dn : Int) (hd : PSt.stamp_days.f x0.n x1.n x2.n = some dn) (hd1 : -1000000 ≤ dn) (hd2 : dn ≤ 4000000) (h3 : x3.n ≤ 9999) (h4 : x4.n ≤ 9999) (h5 : x5.n ≤ 9999) (T : Int) (hT : T = dn * 86400 + x3.n * 3600 + x4.n * 60 + x5.n) (hok : checkS T nanos = none) :
    Calls Tryd.prog 32 #[.slice (some ⟨g, 0, none⟩) 6 cap, .int .u8 sign.toNat, .int .i64 nanos] w fun e w' => e = .returned (.tuple #[.agg #[.int .i64 T, .int .i64 nanos], .nilIface]) ∧ Below w.heap.size w w' := by
  obtain ⟨n, hnn⟩ : ∃ n, n = 6 := ⟨6, rfl⟩
  have hlen : n = ps.length := by subst hn; exact hnn
  have hdrop : ∀ j, n ≤ j → ps.drop j = [] := fun j h => List.drop_eq_nil_of_le (by omega)
  have hget : ∀ j, j < n → ∃ x, ps[j]? = some x ∧ ps.drop j = x :: ps.drop (j + 1) := fun j h => by
    have hlt' : j < ps.length := by omega
    exact ⟨ps[j], List.getElem?_eq_getElem hlt', List.drop_eq_getElem_cons hlt'⟩
  rw [← hnn] at hcap
  have hgo : Calls Tryd.prog 32 #[.slice (some ⟨g, 0, none⟩) n cap, .int .u8 sign.toNat, .int .i64 nanos] w fun e w' => e = .returned (.tuple #[.agg #[.int .i64 T, .int .i64 nanos], .nilIface]) ∧ Below w.heap.size w w' := by
   have q0 : ps[0]? = some x0 := by subst hn; rfl
   have q1 : ps[1]? = some x1 := by subst hn; rfl
   have q2 : ps[2]? = some x2 := by subst hn; rfl
   have q3 : ps[3]? = some x3 := by subst hn; rfl
   have q4 : ps[4]? = some x4 := by subst hn; rfl
   have q5 : ps[5]? = some x5 := by subst hn; rfl
   have HC : Hid (∀ i x, ps[i]? = some x → ∀ j, j < 4 → w.cell? ⟨g, i * 4 + j, none⟩ = x.vs[j]?) := hc
   have HI : Hid (ErrInv w) := hI
   have HK : Hid (∀ w1, ErrInv w1 → Calls Tryd.prog 16 #[.agg #[.int .i64 T, .int .i64 nanos]] w1 fun e w' => e = .returned .nilIface ∧ Below w1.heap.size w1 w') := fun w1 _ => check_good T nanos w1 (fun h => by rw [checkS, if_pos h] at hok; cases hok)
   have HNN : Hid (n = 6) := hnn
   have h00 : 0 < w.heap.size := by obtain ⟨a, he, -⟩ := hI.sent 4 (by decide); exact World.block_lt_of_cell? w _ he
   clear hc hn hlen hI hok hnn
   subst hT
   go_enter Tryd.func32, Tryd.ntmps32
   go_wp2
   go_loopw [17] (fun i wr => ∃ j : Nat, j ≤ n ∧ i = .int .i64 j ∧ madeL h2 j (ps.drop j) = none ∧ Below w.heap.size w wr ∧ w.heap.size + 1 ≤ wr.heap.size ∧
      wr.heap[w.heap.size]? = some (.cells #[.int .i64 0, .int .i64 0] 31 (0, 0)))
    (fun i _ => n - (intOf i).toNat)
   case atStart =>
    refine ⟨0, by omega, rfl, hR, (Below.refl _ _).alloc (Nat.le_refl _) _, by simp, heap_alloc_new w _⟩
   case round =>
    obtain ⟨j, hj, rfl, hm, hb, hsz, hT'⟩ := hrel
    by_cases hjn : j < n
    · have hn0N : 0 < n := by have := HNN.out; omega
      have hnz : ¬ n = 0 := by omega
      have hn1N : 1 < n := by have := HNN.out; omega
      have hn1L : ¬ (n : Int) ≤ 1 := by omega
      have hn1M : ¬ n ≤ 1 := by omega
      have hn8 : n ≤ 8 := by have := HNN.out; omega
      clear HK hR HNN
      obtain ⟨x, hx, hdr⟩ := hget j hjn
      clear hget hdrop
      have hc0 : wr.cell? ⟨g, j * 4, none⟩ = some (.int .i64 x.n) := cell_in hb (HC.out j x hx 0 (by omega))
      have hc1 : wr.cell? ⟨g, j * 4 + 1, none⟩ = some (.int .i64 x.p) := cell_in hb (HC.out j x hx 1 (by omega))
      have hc2 : wr.cell? ⟨g, j * 4 + 2, none⟩ = some (.int .i64 x.lo) := cell_in hb (HC.out j x hx 2 (by omega))
      have hc3 : wr.cell? ⟨g, j * 4 + 3, none⟩ = some (.int .i64 x.hi) := cell_in hb (HC.out j x hx 3 (by omega))
      have hg0 : wr.cell? ⟨g, 0, none⟩ = some (.int .i64 x0.n) := by simpa using cell_in hb (HC.out 0 x0 q0 0 (by omega))
      have hg1 : wr.cell? ⟨g, 4, none⟩ = some (.int .i64 x1.n) := by simpa using cell_in hb (HC.out 1 x1 q1 0 (by omega))
      have hg0' : ∀ o, (wr.alloc o).cell? ⟨g, 0, none⟩ = some (.int .i64 x0.n) := fun o => (World.cell?_alloc_lt wr o ⟨g, 0, none⟩ (World.block_lt_of_cell? wr _ hg0)).trans hg0
      have hg1' : ∀ o, (wr.alloc o).cell? ⟨g, 4, none⟩ = some (.int .i64 x1.n) := fun o => (World.cell?_alloc_lt wr o ⟨g, 4, none⟩ (World.block_lt_of_cell? wr _ hg1)).trans hg1
      have hlt : (j : Int) < (n : Int) := by omega
      have HB : Hid (Below w.heap.size w wr) := hb
      have HT : Hid (wr.heap[w.heap.size]? = some (.cells #[.int .i64 0, .int .i64 0] 31 (0, 0))) := hT'
      rw [hdr, madeL] at hm
      by_cases hbad : (x.n : Int) < x.lo ∨ (x.n : Int) > (if j = 2 then h2 else x.hi)
      · rw [if_pos hbad] at hm; cases hm
      · rw [if_neg hbad] at hm
        have HM : Hid (madeL h2 (j + 1) (ps.drop (j + 1)) = none) := hm
        have hlo : ¬ (x.n : Int) < x.lo := fun h => hbad (Or.inl h)
        clear hm hdr hx hT' hb q0 q1 q2 q3 q4 q5 hd hd1 hd2 h3 h4 h5
        by_cases hj2 : j = 2
        · have hhi : ¬ (x.n : Int) > h2 := fun h => hbad (Or.inr (by rw [if_pos hj2]; exact h))
          clear hbad
          subst hj2
          have k0 : wr.cell? ⟨g, 8, none⟩ = some (.int .i64 x.n) := hc0
          have k1 : wr.cell? ⟨g, 9, none⟩ = some (.int .i64 x.p) := hc1
          have k2 : wr.cell? ⟨g, 10, none⟩ = some (.int .i64 x.lo) := hc2
          have k3 : wr.cell? ⟨g, 11, none⟩ = some (.int .i64 x.hi) := hc3
          have hlt2 : (2 : Int) < (n : Int) := by omega
          clear hc0 hc1 hc2 hc3 hlt
          go_wp2
          go_quiet (first | (go_at_call 25; refine (PSt.stamp_length.calls kl _ _ _ _ hl).mono ?_; rintro e w' ⟨rfl, ⟨nd, rfl⟩⟩; (first | exact ⟨rfl, _, World.drewN_drewN _ _ _⟩ | exact ⟨rfl, _, Eq.trans (World.drewN_drewN _ _ _) (congrArg (World.drewN _) (Nat.add_assoc _ _ _))⟩)))
          go_wp2
          refine ⟨⟨2 + 1, by omega, rfl, HM.out, Below.drewN (HB.out.alloc (by omega) _) _, by show w.heap.size + 1 ≤ (wr.alloc _).heap.size; simp; omega, (Below.heap_alloc wr _ _ (by omega)).trans HT.out⟩, ?_⟩
          show n - 3 < n - 2
          omega
        · have hhi : ¬ (x.n : Int) > x.hi := fun h => hbad (Or.inr (by rw [if_neg hj2]; exact h))
          have hj2' : ¬ (j : Int) = 2 := by omega
          clear hbad
          go_wp2
          refine ⟨⟨j + 1, by omega, rfl, HM.out, HB.out.alloc (by omega) _, by simp; omega, (Below.heap_alloc _ _ _ (by omega)).trans HT.out⟩, ?_⟩
          have e1 : (intOf (Value.int IntKind.i64 ((j : Int) + 1))).toNat = j + 1 := by show ((j : Int) + 1).toNat = j + 1; omega
          have e2 : (intOf (Value.int IntKind.i64 (j : Int))).toNat = j := by show (j : Int).toNat = j; omega
          rw [e1, e2]
          omega
    · have hje : j = n := by omega
      subst hje
      clear hget hdrop hm
      have k0 : wr.cell? ⟨g, 0, none⟩ = some (.int .i64 x0.n) := by simpa using cell_in hb (HC.out 0 x0 q0 0 (by omega))
      have k1 : wr.cell? ⟨g, 4, none⟩ = some (.int .i64 x1.n) := by simpa using cell_in hb (HC.out 1 x1 q1 0 (by omega))
      have k2 : wr.cell? ⟨g, 8, none⟩ = some (.int .i64 x2.n) := by simpa using cell_in hb (HC.out 2 x2 q2 0 (by omega))
      have k3 : wr.cell? ⟨g, 12, none⟩ = some (.int .i64 x3.n) := by simpa using cell_in hb (HC.out 3 x3 q3 0 (by omega))
      have k4 : wr.cell? ⟨g, 16, none⟩ = some (.int .i64 x4.n) := by simpa using cell_in hb (HC.out 4 x4 q4 0 (by omega))
      have k5 : wr.cell? ⟨g, 20, none⟩ = some (.int .i64 x5.n) := by simpa using cell_in hb (HC.out 5 x5 q5 0 (by omega))
      have HB : Hid (Below w.heap.size w wr) := hb
      have HT : Hid (wr.heap[w.heap.size]? = some (.cells #[.int .i64 0, .int .i64 0] 31 (0, 0))) := hT'
      clear hb hT' q0 q1 q2 q3 q4 q5 hR
      have hnn := HNN.out
      clear HNN
      subst hnn
      go_wp2
      go_quiet (first | (go_at_call 26; refine (PSt.stamp_days.calls _ _ _ _ _ hd).mono ?_; rintro e w' ⟨rfl, ⟨nd, rfl⟩⟩; (first | exact ⟨rfl, _, World.drewN_drewN _ _ _⟩ | exact ⟨rfl, _, Eq.trans (World.drewN_drewN _ _ _) (congrArg (World.drewN _) (Nat.add_assoc _ _ _))⟩)))
      have HB' : Hid (Below w.heap.size w (wr.drewN nq)) := Below.drewN HB.out nq
      have HT' : Hid ((wr.drewN nq).heap[w.heap.size]? = some (.cells #[.int .i64 0, .int .i64 0] 31 (0, 0))) := HT.out
      have hsq : w.heap.size + 1 ≤ (wr.drewN nq).heap.size := hsz
      clear HB HT hsz k0 k1 k2 k3 k4 k5
      generalize wr.drewN nq = wq at HB' HT' hsq ⊢
      go_wp2_with (go_at_call 16; refine Calls.mono (HK.out _ ((HI.out.below (HB'.out.alloc (by omega) _)))) ?_; rintro e w' ⟨rfl, hbc⟩
                   have eT := (hbc.block w.heap.size (by simp; omega)).trans ((Below.heap_alloc wq _ _ (by omega)).trans HT'.out)
                   have eP := (hbc.block wq.heap.size (by simp)).trans (heap_alloc_new wq _)
                   have c0 := blk_cell eT 0
                   have c1 := blk_cell eT 1
                   have z0 := blk_fz eT 0
                   have z1 := blk_fz eT 1
                   have p0 := blk_cell eP 0
                   have p1 := blk_cell eP 1
                   simp at c0 c1 p0 p1
                   have HE : Hid (w'.heap[w.heap.size]? = some (.cells #[.int .i64 0, .int .i64 0] 31 (0, 0))) := eT
                   have HW := (show Hid _ from (HB'.out.alloc (by omega) _).trans (hbc.mono (by simp; omega)))
                   clear eT eP hbc)
      have e1 := blk_set (blk_set HE.out 0 (.int .i64 (dn * 86400 + x3.n * 3600 + x4.n * 60 + x5.n))) 1 (.int .i64 nanos)
      refine bodyPost_ret_by (v := .tuple #[.agg #[.int .i64 (dn * 86400 + x3.n * 3600 + x4.n * 60 + x5.n), .int .i64 nanos], .nilIface]) ?_ rfl ⟨rfl, (HW.out.setCell (Nat.le_refl _) _).setCell (Nat.le_refl _) _⟩
      generalize (World.setCell _ _ _).setCell _ _ = X at e1 ⊢
      have r0 := blk_cell e1 0
      have r1 := blk_cell e1 1
      simp at r0 r1
      clear e1
      simp [results, Tryd.results32, go_sem, r0, r1]
  rw [hnn] at hgo
  exact hgo

set_option maxHeartbeats 8000000 in
theorem made_six_bad (g cap : Nat) (ps : List Pt) (sign : UInt8) (nanos : Nat) (x0 x1 x2 x3 x4 x5 : Pt) (h2 : Int) (kl : Nat) (w : World) (hn : ps = [x0, x1, x2, x3, x4, x5]) (hcap : 6 ≤ cap) 
    (hc : ∀ i x, ps[i]? = some x → ∀ j, j < 4 → w.cell? ⟨g, i * 4 + j, none⟩ = x.vs[j]?) (hl : PSt.stamp_length.f kl x0.n x1.n = some h2) (hI : ErrInv w) (hR : madeL h2 0 ps = none)
    (dn : Int) (hd : PSt.stamp_days.f x0.n x1.n x2.n = some dn) (hd1 : -1000000 ≤ dn) (hd2 : dn ≤ 4000000) (h3 : x3.n ≤ 9999) (h4 : x4.n ≤ 9999) (h5 : x5.n ≤ 9999) (T : Int) (hT : T = dn * 86400 + x3.n * 3600 + x4.n * 60 + x5.n) (hok : checkS T nanos = some (0, 4)) :
    Calls Tryd.prog 32 #[.slice (some ⟨g, 0, none⟩) 6 cap, .int .u8 sign.toNat, .int .i64 nanos] w fun e w' => ∃ v, e = .returned (.tuple #[.agg #[.int .i64 0, .int .i64 0], v]) ∧ FltIs w' v (some (0, 4)) ∧ Below w.heap.size w w' := by
  obtain ⟨n, hnn⟩ : ∃ n, n = 6 := ⟨6, rfl⟩
  have hlen : n = ps.length := by subst hn; exact hnn
  have hdrop : ∀ j, n ≤ j → ps.drop j = [] := fun j h => List.drop_eq_nil_of_le (by omega)
  have hget : ∀ j, j < n → ∃ x, ps[j]? = some x ∧ ps.drop j = x :: ps.drop (j + 1) := fun j h => by
    have hlt' : j < ps.length := by omega
    exact ⟨ps[j], List.getElem?_eq_getElem hlt', List.drop_eq_getElem_cons hlt'⟩
  rw [← hnn] at hcap
  have hgo : Calls Tryd.prog 32 #[.slice (some ⟨g, 0, none⟩) n cap, .int .u8 sign.toNat, .int .i64 nanos] w fun e w' => ∃ v, e = .returned (.tuple #[.agg #[.int .i64 0, .int .i64 0], v]) ∧ FltIs w' v (some (0, 4)) ∧ Below w.heap.size w w' := by
   have q0 : ps[0]? = some x0 := by subst hn; rfl
   have q1 : ps[1]? = some x1 := by subst hn; rfl
   have q2 : ps[2]? = some x2 := by subst hn; rfl
   have q3 : ps[3]? = some x3 := by subst hn; rfl
   have q4 : ps[4]? = some x4 := by subst hn; rfl
   have q5 : ps[5]? = some x5 := by subst hn; rfl
   have HC : Hid (∀ i x, ps[i]? = some x → ∀ j, j < 4 → w.cell? ⟨g, i * 4 + j, none⟩ = x.vs[j]?) := hc
   have HI : Hid (ErrInv w) := hI
   have HK : Hid (∀ w1, ErrInv w1 → Calls Tryd.prog 16 #[.agg #[.int .i64 T, .int .i64 nanos]] w1 fun e w' => ∃ v, e = .returned v ∧ FltIs w' v (some (0, 4)) ∧ Below w1.heap.size w1 w') := fun w1 hI1 => check_bad T nanos w1 hI1 (by
    rw [checkS] at hok
    split at hok
    · assumption
    · cases hok)
   have HNN : Hid (n = 6) := hnn
   have h00 : 0 < w.heap.size := by obtain ⟨a, he, -⟩ := hI.sent 4 (by decide); exact World.block_lt_of_cell? w _ he
   clear hc hn hlen hI hok hnn
   subst hT
   go_enter Tryd.func32, Tryd.ntmps32
   go_wp2
   go_loopw [17] (fun i wr => ∃ j : Nat, j ≤ n ∧ i = .int .i64 j ∧ madeL h2 j (ps.drop j) = none ∧ Below w.heap.size w wr ∧ w.heap.size + 1 ≤ wr.heap.size ∧
      wr.heap[w.heap.size]? = some (.cells #[.int .i64 0, .int .i64 0] 31 (0, 0)))
    (fun i _ => n - (intOf i).toNat)
   case atStart =>
    refine ⟨0, by omega, rfl, hR, (Below.refl _ _).alloc (Nat.le_refl _) _, by simp, heap_alloc_new w _⟩
   case round =>
    obtain ⟨j, hj, rfl, hm, hb, hsz, hT'⟩ := hrel
    by_cases hjn : j < n
    · have hn0N : 0 < n := by have := HNN.out; omega
      have hnz : ¬ n = 0 := by omega
      have hn1N : 1 < n := by have := HNN.out; omega
      have hn1L : ¬ (n : Int) ≤ 1 := by omega
      have hn1M : ¬ n ≤ 1 := by omega
      have hn8 : n ≤ 8 := by have := HNN.out; omega
      clear HK hR HNN
      obtain ⟨x, hx, hdr⟩ := hget j hjn
      clear hget hdrop
      have hc0 : wr.cell? ⟨g, j * 4, none⟩ = some (.int .i64 x.n) := cell_in hb (HC.out j x hx 0 (by omega))
      have hc1 : wr.cell? ⟨g, j * 4 + 1, none⟩ = some (.int .i64 x.p) := cell_in hb (HC.out j x hx 1 (by omega))
      have hc2 : wr.cell? ⟨g, j * 4 + 2, none⟩ = some (.int .i64 x.lo) := cell_in hb (HC.out j x hx 2 (by omega))
      have hc3 : wr.cell? ⟨g, j * 4 + 3, none⟩ = some (.int .i64 x.hi) := cell_in hb (HC.out j x hx 3 (by omega))
      have hg0 : wr.cell? ⟨g, 0, none⟩ = some (.int .i64 x0.n) := by simpa using cell_in hb (HC.out 0 x0 q0 0 (by omega))
      have hg1 : wr.cell? ⟨g, 4, none⟩ = some (.int .i64 x1.n) := by simpa using cell_in hb (HC.out 1 x1 q1 0 (by omega))
      have hg0' : ∀ o, (wr.alloc o).cell? ⟨g, 0, none⟩ = some (.int .i64 x0.n) := fun o => (World.cell?_alloc_lt wr o ⟨g, 0, none⟩ (World.block_lt_of_cell? wr _ hg0)).trans hg0
      have hg1' : ∀ o, (wr.alloc o).cell? ⟨g, 4, none⟩ = some (.int .i64 x1.n) := fun o => (World.cell?_alloc_lt wr o ⟨g, 4, none⟩ (World.block_lt_of_cell? wr _ hg1)).trans hg1
      have hlt : (j : Int) < (n : Int) := by omega
      have HB : Hid (Below w.heap.size w wr) := hb
      have HT : Hid (wr.heap[w.heap.size]? = some (.cells #[.int .i64 0, .int .i64 0] 31 (0, 0))) := hT'
      rw [hdr, madeL] at hm
      by_cases hbad : (x.n : Int) < x.lo ∨ (x.n : Int) > (if j = 2 then h2 else x.hi)
      · rw [if_pos hbad] at hm; cases hm
      · rw [if_neg hbad] at hm
        have HM : Hid (madeL h2 (j + 1) (ps.drop (j + 1)) = none) := hm
        have hlo : ¬ (x.n : Int) < x.lo := fun h => hbad (Or.inl h)
        clear hm hdr hx hT' hb q0 q1 q2 q3 q4 q5 hd hd1 hd2 h3 h4 h5
        by_cases hj2 : j = 2
        · have hhi : ¬ (x.n : Int) > h2 := fun h => hbad (Or.inr (by rw [if_pos hj2]; exact h))
          clear hbad
          subst hj2
          have k0 : wr.cell? ⟨g, 8, none⟩ = some (.int .i64 x.n) := hc0
          have k1 : wr.cell? ⟨g, 9, none⟩ = some (.int .i64 x.p) := hc1
          have k2 : wr.cell? ⟨g, 10, none⟩ = some (.int .i64 x.lo) := hc2
          have k3 : wr.cell? ⟨g, 11, none⟩ = some (.int .i64 x.hi) := hc3
          have hlt2 : (2 : Int) < (n : Int) := by omega
          clear hc0 hc1 hc2 hc3 hlt
          go_wp2
          go_quiet (first | (go_at_call 25; refine (PSt.stamp_length.calls kl _ _ _ _ hl).mono ?_; rintro e w' ⟨rfl, ⟨nd, rfl⟩⟩; (first | exact ⟨rfl, _, World.drewN_drewN _ _ _⟩ | exact ⟨rfl, _, Eq.trans (World.drewN_drewN _ _ _) (congrArg (World.drewN _) (Nat.add_assoc _ _ _))⟩)))
          go_wp2
          refine ⟨⟨2 + 1, by omega, rfl, HM.out, Below.drewN (HB.out.alloc (by omega) _) _, by show w.heap.size + 1 ≤ (wr.alloc _).heap.size; simp; omega, (Below.heap_alloc wr _ _ (by omega)).trans HT.out⟩, ?_⟩
          show n - 3 < n - 2
          omega
        · have hhi : ¬ (x.n : Int) > x.hi := fun h => hbad (Or.inr (by rw [if_neg hj2]; exact h))
          have hj2' : ¬ (j : Int) = 2 := by omega
          clear hbad
          go_wp2
          refine ⟨⟨j + 1, by omega, rfl, HM.out, HB.out.alloc (by omega) _, by simp; omega, (Below.heap_alloc _ _ _ (by omega)).trans HT.out⟩, ?_⟩
          have e1 : (intOf (Value.int IntKind.i64 ((j : Int) + 1))).toNat = j + 1 := by show ((j : Int) + 1).toNat = j + 1; omega
          have e2 : (intOf (Value.int IntKind.i64 (j : Int))).toNat = j := by show (j : Int).toNat = j; omega
          rw [e1, e2]
          omega
    · have hje : j = n := by omega
      subst hje
      clear hget hdrop hm
      have k0 : wr.cell? ⟨g, 0, none⟩ = some (.int .i64 x0.n) := by simpa using cell_in hb (HC.out 0 x0 q0 0 (by omega))
      have k1 : wr.cell? ⟨g, 4, none⟩ = some (.int .i64 x1.n) := by simpa using cell_in hb (HC.out 1 x1 q1 0 (by omega))
      have k2 : wr.cell? ⟨g, 8, none⟩ = some (.int .i64 x2.n) := by simpa using cell_in hb (HC.out 2 x2 q2 0 (by omega))
      have k3 : wr.cell? ⟨g, 12, none⟩ = some (.int .i64 x3.n) := by simpa using cell_in hb (HC.out 3 x3 q3 0 (by omega))
      have k4 : wr.cell? ⟨g, 16, none⟩ = some (.int .i64 x4.n) := by simpa using cell_in hb (HC.out 4 x4 q4 0 (by omega))
      have k5 : wr.cell? ⟨g, 20, none⟩ = some (.int .i64 x5.n) := by simpa using cell_in hb (HC.out 5 x5 q5 0 (by omega))
      have HB : Hid (Below w.heap.size w wr) := hb
      have HT : Hid (wr.heap[w.heap.size]? = some (.cells #[.int .i64 0, .int .i64 0] 31 (0, 0))) := hT'
      clear hb hT' q0 q1 q2 q3 q4 q5 hR
      have hnn := HNN.out
      clear HNN
      subst hnn
      go_wp2
      go_quiet (first | (go_at_call 26; refine (PSt.stamp_days.calls _ _ _ _ _ hd).mono ?_; rintro e w' ⟨rfl, ⟨nd, rfl⟩⟩; (first | exact ⟨rfl, _, World.drewN_drewN _ _ _⟩ | exact ⟨rfl, _, Eq.trans (World.drewN_drewN _ _ _) (congrArg (World.drewN _) (Nat.add_assoc _ _ _))⟩)))
      have HB' : Hid (Below w.heap.size w (wr.drewN nq)) := Below.drewN HB.out nq
      have HT' : Hid ((wr.drewN nq).heap[w.heap.size]? = some (.cells #[.int .i64 0, .int .i64 0] 31 (0, 0))) := HT.out
      have hsq : w.heap.size + 1 ≤ (wr.drewN nq).heap.size := hsz
      clear HB HT hsz k0 k1 k2 k3 k4 k5
      generalize wr.drewN nq = wq at HB' HT' hsq ⊢
      go_wp2_with (go_at_call 16; refine Calls.mono (HK.out _ ((HI.out.below (HB'.out.alloc (by omega) _)))) ?_; rintro e w' ⟨v, rfl, hf, hbc⟩; obtain ⟨_, _, gf, sf, rfl, hf1, hf2⟩ := hf; have HF := (show Hid _ from hf1); have HF2 := (show Hid _ from hf2); clear hf1 hf2
                   have eT := (hbc.block w.heap.size (by simp; omega)).trans ((Below.heap_alloc wq _ _ (by omega)).trans HT'.out)
                   have eP := (hbc.block wq.heap.size (by simp)).trans (heap_alloc_new wq _)
                   have c0 := blk_cell eT 0
                   have c1 := blk_cell eT 1
                   have z0 := blk_fz eT 0
                   have z1 := blk_fz eT 1
                   have p0 := blk_cell eP 0
                   have p1 := blk_cell eP 1
                   simp at c0 c1 p0 p1
                   have HE : Hid (w'.heap[w.heap.size]? = some (.cells #[.int .i64 0, .int .i64 0] 31 (0, 0))) := eT
                   have HW := (show Hid _ from (HB'.out.alloc (by omega) _).trans (hbc.mono (by simp; omega)))
                   clear eT eP hbc)
      have e1 := blk_set (blk_set HE.out 0 (.int .i64 0)) 1 (.int .i64 0)
      have HG := flt_far HE.out HF.out HF2.out h00
      refine bodyPost_ret_by (v := .tuple #[.agg #[.int .i64 0, .int .i64 0], .iface 47 (.pointer (some ⟨gf, 0, none⟩))]) ?_ rfl ⟨_, rfl, HG, (HW.out.setCell (Nat.le_refl _) _).setCell (Nat.le_refl _) _⟩
      clear HG
      generalize (World.setCell _ _ _).setCell _ _ = X at e1 ⊢
      have r0 := blk_cell e1 0
      have r1 := blk_cell e1 1
      simp at r0 r1
      clear e1
      simp [results, Tryd.results32, go_sem, r0, r1]
  rw [hnn] at hgo
  exact hgo

set_option maxHeartbeats 8000000 in
theorem made_eight_neg_good (g cap : Nat) (ps : List Pt) (sign : UInt8) (nanos : Nat) (x0 x1 x2 x3 x4 x5 x6 x7 : Pt) (h2 : Int) (kl : Nat) (w : World) (hn : ps = [x0, x1, x2, x3, x4, x5, x6, x7]) (hcap : 8 ≤ cap) (hsg : (sign.toNat : Int) = 45) 
    (hc : ∀ i x, ps[i]? = some x → ∀ j, j < 4 → w.cell? ⟨g, i * 4 + j, none⟩ = x.vs[j]?) (hl : PSt.stamp_length.f kl x0.n x1.n = some h2) (hI : ErrInv w) (hR : madeL h2 0 ps = none)
    (dn : Int) (hd : PSt.stamp_days.f x0.n x1.n x2.n = some dn) (hd1 : -1000000 ≤ dn) (hd2 : dn ≤ 4000000) (h3 : x3.n ≤ 9999) (h4 : x4.n ≤ 9999) (h5 : x5.n ≤ 9999) (h6 : x6.n ≤ 9999) (h7 : x7.n ≤ 9999) (T : Int) (hT : T = dn * 86400 + x3.n * 3600 + x4.n * 60 + x5.n + ((x6.n : Int) * 3600 + x7.n * 60)) (hok : checkS T nanos = none) :
    Calls Tryd.prog 32 #[.slice (some ⟨g, 0, none⟩) 8 cap, .int .u8 sign.toNat, .int .i64 nanos] w fun e w' => e = .returned (.tuple #[.agg #[.int .i64 T, .int .i64 nanos], .nilIface]) ∧ Below w.heap.size w w' := by
  obtain ⟨n, hnn⟩ : ∃ n, n = 8 := ⟨8, rfl⟩
  have hlen : n = ps.length := by subst hn; exact hnn
  have hdrop : ∀ j, n ≤ j → ps.drop j = [] := fun j h => List.drop_eq_nil_of_le (by omega)
  have hget : ∀ j, j < n → ∃ x, ps[j]? = some x ∧ ps.drop j = x :: ps.drop (j + 1) := fun j h => by
    have hlt' : j < ps.length := by omega
    exact ⟨ps[j], List.getElem?_eq_getElem hlt', List.drop_eq_getElem_cons hlt'⟩
  rw [← hnn] at hcap
  have hgo : Calls Tryd.prog 32 #[.slice (some ⟨g, 0, none⟩) n cap, .int .u8 sign.toNat, .int .i64 nanos] w fun e w' => e = .returned (.tuple #[.agg #[.int .i64 T, .int .i64 nanos], .nilIface]) ∧ Below w.heap.size w w' := by
   have q0 : ps[0]? = some x0 := by subst hn; rfl
   have q1 : ps[1]? = some x1 := by subst hn; rfl
   have q2 : ps[2]? = some x2 := by subst hn; rfl
   have q3 : ps[3]? = some x3 := by subst hn; rfl
   have q4 : ps[4]? = some x4 := by subst hn; rfl
   have q5 : ps[5]? = some x5 := by subst hn; rfl
   have q6 : ps[6]? = some x6 := by subst hn; rfl
   have q7 : ps[7]? = some x7 := by subst hn; rfl
   have HC : Hid (∀ i x, ps[i]? = some x → ∀ j, j < 4 → w.cell? ⟨g, i * 4 + j, none⟩ = x.vs[j]?) := hc
   have HI : Hid (ErrInv w) := hI
   have HK : Hid (∀ w1, ErrInv w1 → Calls Tryd.prog 16 #[.agg #[.int .i64 T, .int .i64 nanos]] w1 fun e w' => e = .returned .nilIface ∧ Below w1.heap.size w1 w') := fun w1 _ => check_good T nanos w1 (fun h => by rw [checkS, if_pos h] at hok; cases hok)
   have HNN : Hid (n = 8) := hnn
   have h00 : 0 < w.heap.size := by obtain ⟨a, he, -⟩ := hI.sent 4 (by decide); exact World.block_lt_of_cell? w _ he
   clear hc hn hlen hI hok hnn
   subst hT
   go_enter Tryd.func32, Tryd.ntmps32
   go_wp2
   go_loopw [17] (fun i wr => ∃ j : Nat, j ≤ n ∧ i = .int .i64 j ∧ madeL h2 j (ps.drop j) = none ∧ Below w.heap.size w wr ∧ w.heap.size + 1 ≤ wr.heap.size ∧
      wr.heap[w.heap.size]? = some (.cells #[.int .i64 0, .int .i64 0] 31 (0, 0)))
    (fun i _ => n - (intOf i).toNat)
   case atStart =>
    refine ⟨0, by omega, rfl, hR, (Below.refl _ _).alloc (Nat.le_refl _) _, by simp, heap_alloc_new w _⟩
   case round =>
    obtain ⟨j, hj, rfl, hm, hb, hsz, hT'⟩ := hrel
    by_cases hjn : j < n
    · have hn0N : 0 < n := by have := HNN.out; omega
      have hnz : ¬ n = 0 := by omega
      have hn1N : 1 < n := by have := HNN.out; omega
      have hn1L : ¬ (n : Int) ≤ 1 := by omega
      have hn1M : ¬ n ≤ 1 := by omega
      have hn8 : n ≤ 8 := by have := HNN.out; omega
      clear HK hR HNN
      obtain ⟨x, hx, hdr⟩ := hget j hjn
      clear hget hdrop
      have hc0 : wr.cell? ⟨g, j * 4, none⟩ = some (.int .i64 x.n) := cell_in hb (HC.out j x hx 0 (by omega))
      have hc1 : wr.cell? ⟨g, j * 4 + 1, none⟩ = some (.int .i64 x.p) := cell_in hb (HC.out j x hx 1 (by omega))
      have hc2 : wr.cell? ⟨g, j * 4 + 2, none⟩ = some (.int .i64 x.lo) := cell_in hb (HC.out j x hx 2 (by omega))
      have hc3 : wr.cell? ⟨g, j * 4 + 3, none⟩ = some (.int .i64 x.hi) := cell_in hb (HC.out j x hx 3 (by omega))
      have hg0 : wr.cell? ⟨g, 0, none⟩ = some (.int .i64 x0.n) := by simpa using cell_in hb (HC.out 0 x0 q0 0 (by omega))
      have hg1 : wr.cell? ⟨g, 4, none⟩ = some (.int .i64 x1.n) := by simpa using cell_in hb (HC.out 1 x1 q1 0 (by omega))
      have hg0' : ∀ o, (wr.alloc o).cell? ⟨g, 0, none⟩ = some (.int .i64 x0.n) := fun o => (World.cell?_alloc_lt wr o ⟨g, 0, none⟩ (World.block_lt_of_cell? wr _ hg0)).trans hg0
      have hg1' : ∀ o, (wr.alloc o).cell? ⟨g, 4, none⟩ = some (.int .i64 x1.n) := fun o => (World.cell?_alloc_lt wr o ⟨g, 4, none⟩ (World.block_lt_of_cell? wr _ hg1)).trans hg1
      have hlt : (j : Int) < (n : Int) := by omega
      have HB : Hid (Below w.heap.size w wr) := hb
      have HT : Hid (wr.heap[w.heap.size]? = some (.cells #[.int .i64 0, .int .i64 0] 31 (0, 0))) := hT'
      rw [hdr, madeL] at hm
      by_cases hbad : (x.n : Int) < x.lo ∨ (x.n : Int) > (if j = 2 then h2 else x.hi)
      · rw [if_pos hbad] at hm; cases hm
      · rw [if_neg hbad] at hm
        have HM : Hid (madeL h2 (j + 1) (ps.drop (j + 1)) = none) := hm
        have hlo : ¬ (x.n : Int) < x.lo := fun h => hbad (Or.inl h)
        clear hm hdr hx hT' hb q0 q1 q2 q3 q4 q5 q6 q7 hd hd1 hd2 hsg h3 h4 h5 h6 h7
        by_cases hj2 : j = 2
        · have hhi : ¬ (x.n : Int) > h2 := fun h => hbad (Or.inr (by rw [if_pos hj2]; exact h))
          clear hbad
          subst hj2
          have k0 : wr.cell? ⟨g, 8, none⟩ = some (.int .i64 x.n) := hc0
          have k1 : wr.cell? ⟨g, 9, none⟩ = some (.int .i64 x.p) := hc1
          have k2 : wr.cell? ⟨g, 10, none⟩ = some (.int .i64 x.lo) := hc2
          have k3 : wr.cell? ⟨g, 11, none⟩ = some (.int .i64 x.hi) := hc3
          have hlt2 : (2 : Int) < (n : Int) := by omega
          clear hc0 hc1 hc2 hc3 hlt
          go_wp2
          go_quiet (first | (go_at_call 25; refine (PSt.stamp_length.calls kl _ _ _ _ hl).mono ?_; rintro e w' ⟨rfl, ⟨nd, rfl⟩⟩; (first | exact ⟨rfl, _, World.drewN_drewN _ _ _⟩ | exact ⟨rfl, _, Eq.trans (World.drewN_drewN _ _ _) (congrArg (World.drewN _) (Nat.add_assoc _ _ _))⟩)))
          go_wp2
          refine ⟨⟨2 + 1, by omega, rfl, HM.out, Below.drewN (HB.out.alloc (by omega) _) _, by show w.heap.size + 1 ≤ (wr.alloc _).heap.size; simp; omega, (Below.heap_alloc wr _ _ (by omega)).trans HT.out⟩, ?_⟩
          show n - 3 < n - 2
          omega
        · have hhi : ¬ (x.n : Int) > x.hi := fun h => hbad (Or.inr (by rw [if_neg hj2]; exact h))
          have hj2' : ¬ (j : Int) = 2 := by omega
          clear hbad
          go_wp2
          refine ⟨⟨j + 1, by omega, rfl, HM.out, HB.out.alloc (by omega) _, by simp; omega, (Below.heap_alloc _ _ _ (by omega)).trans HT.out⟩, ?_⟩
          have e1 : (intOf (Value.int IntKind.i64 ((j : Int) + 1))).toNat = j + 1 := by show ((j : Int) + 1).toNat = j + 1; omega
          have e2 : (intOf (Value.int IntKind.i64 (j : Int))).toNat = j := by show (j : Int).toNat = j; omega
          rw [e1, e2]
          omega
    · have hje : j = n := by omega
      subst hje
      clear hget hdrop hm
      have k0 : wr.cell? ⟨g, 0, none⟩ = some (.int .i64 x0.n) := by simpa using cell_in hb (HC.out 0 x0 q0 0 (by omega))
      have k1 : wr.cell? ⟨g, 4, none⟩ = some (.int .i64 x1.n) := by simpa using cell_in hb (HC.out 1 x1 q1 0 (by omega))
      have k2 : wr.cell? ⟨g, 8, none⟩ = some (.int .i64 x2.n) := by simpa using cell_in hb (HC.out 2 x2 q2 0 (by omega))
      have k3 : wr.cell? ⟨g, 12, none⟩ = some (.int .i64 x3.n) := by simpa using cell_in hb (HC.out 3 x3 q3 0 (by omega))
      have k4 : wr.cell? ⟨g, 16, none⟩ = some (.int .i64 x4.n) := by simpa using cell_in hb (HC.out 4 x4 q4 0 (by omega))
      have k5 : wr.cell? ⟨g, 20, none⟩ = some (.int .i64 x5.n) := by simpa using cell_in hb (HC.out 5 x5 q5 0 (by omega))
      have k6 : wr.cell? ⟨g, 24, none⟩ = some (.int .i64 x6.n) := by simpa using cell_in hb (HC.out 6 x6 q6 0 (by omega))
      have k7 : wr.cell? ⟨g, 28, none⟩ = some (.int .i64 x7.n) := by simpa using cell_in hb (HC.out 7 x7 q7 0 (by omega))
      have HB : Hid (Below w.heap.size w wr) := hb
      have HT : Hid (wr.heap[w.heap.size]? = some (.cells #[.int .i64 0, .int .i64 0] 31 (0, 0))) := hT'
      clear hb hT' q0 q1 q2 q3 q4 q5 q6 q7 hR
      have hnn := HNN.out
      clear HNN
      subst hnn
      go_wp2
      go_quiet (first | (go_at_call 26; refine (PSt.stamp_days.calls _ _ _ _ _ hd).mono ?_; rintro e w' ⟨rfl, ⟨nd, rfl⟩⟩; (first | exact ⟨rfl, _, World.drewN_drewN _ _ _⟩ | exact ⟨rfl, _, Eq.trans (World.drewN_drewN _ _ _) (congrArg (World.drewN _) (Nat.add_assoc _ _ _))⟩)))
      generalize nq = z1
      go_wp2
      go_quiet (fail)
      have HB' : Hid (Below w.heap.size w ((wr.drewN z1).drewN nq)) := Below.drewN (Below.drewN HB.out z1) nq
      have HT' : Hid (((wr.drewN z1).drewN nq).heap[w.heap.size]? = some (.cells #[.int .i64 0, .int .i64 0] 31 (0, 0))) := HT.out
      have hsq : w.heap.size + 1 ≤ ((wr.drewN z1).drewN nq).heap.size := hsz
      clear HB HT hsz k0 k1 k2 k3 k4 k5 k6 k7
      generalize (wr.drewN z1).drewN nq = wq at HB' HT' hsq ⊢
      go_wp2_with (go_at_call 16; refine Calls.mono (HK.out _ ((HI.out.below (HB'.out.alloc (by omega) _)))) ?_; rintro e w' ⟨rfl, hbc⟩
                   have eT := (hbc.block w.heap.size (by simp; omega)).trans ((Below.heap_alloc wq _ _ (by omega)).trans HT'.out)
                   have eP := (hbc.block wq.heap.size (by simp)).trans (heap_alloc_new wq _)
                   have c0 := blk_cell eT 0
                   have c1 := blk_cell eT 1
                   have z0 := blk_fz eT 0
                   have z1 := blk_fz eT 1
                   have p0 := blk_cell eP 0
                   have p1 := blk_cell eP 1
                   simp at c0 c1 p0 p1
                   have HE : Hid (w'.heap[w.heap.size]? = some (.cells #[.int .i64 0, .int .i64 0] 31 (0, 0))) := eT
                   have HW := (show Hid _ from (HB'.out.alloc (by omega) _).trans (hbc.mono (by simp; omega)))
                   clear eT eP hbc)
      have e1 := blk_set (blk_set HE.out 0 (.int .i64 (dn * 86400 + x3.n * 3600 + x4.n * 60 + x5.n + ((x6.n : Int) * 3600 + x7.n * 60)))) 1 (.int .i64 nanos)
      refine bodyPost_ret_by (v := .tuple #[.agg #[.int .i64 (dn * 86400 + x3.n * 3600 + x4.n * 60 + x5.n + ((x6.n : Int) * 3600 + x7.n * 60)), .int .i64 nanos], .nilIface]) ?_ rfl ⟨rfl, (HW.out.setCell (Nat.le_refl _) _).setCell (Nat.le_refl _) _⟩
      generalize (World.setCell _ _ _).setCell _ _ = X at e1 ⊢
      have r0 := blk_cell e1 0
      have r1 := blk_cell e1 1
      simp at r0 r1
      clear e1
      simp [results, Tryd.results32, go_sem, r0, r1]
  rw [hnn] at hgo
  exact hgo

set_option maxHeartbeats 8000000 in
theorem made_eight_neg_bad (g cap : Nat) (ps : List Pt) (sign : UInt8) (nanos : Nat) (x0 x1 x2 x3 x4 x5 x6 x7 : Pt) (h2 : Int) (kl : Nat) (w : World) (hn : ps = [x0, x1, x2, x3, x4, x5, x6, x7]) (hcap : 8 ≤ cap) (hsg : (sign.toNat : Int) = 45) 
    (hc : ∀ i x, ps[i]? = some x → ∀ j, j < 4 → w.cell? ⟨g, i * 4 + j, none⟩ = x.vs[j]?) (hl : PSt.stamp_length.f kl x0.n x1.n = some h2) (hI : ErrInv w) (hR : madeL h2 0 ps = none)
    (dn : Int) (hd : PSt.stamp_days.f x0.n x1.n x2.n = some dn) (hd1 : -1000000 ≤ dn) (hd2 : dn ≤ 4000000) (h3 : x3.n ≤ 9999) (h4 : x4.n ≤ 9999) (h5 : x5.n ≤ 9999) (h6 : x6.n ≤ 9999) (h7 : x7.n ≤ 9999) (T : Int) (hT : T = dn * 86400 + x3.n * 3600 + x4.n * 60 + x5.n + ((x6.n : Int) * 3600 + x7.n * 60)) (hok : checkS T nanos = some (0, 4)) :
    Calls Tryd.prog 32 #[.slice (some ⟨g, 0, none⟩) 8 cap, .int .u8 sign.toNat, .int .i64 nanos] w fun e w' => ∃ v, e = .returned (.tuple #[.agg #[.int .i64 0, .int .i64 0], v]) ∧ FltIs w' v (some (0, 4)) ∧ Below w.heap.size w w' := by
  obtain ⟨n, hnn⟩ : ∃ n, n = 8 := ⟨8, rfl⟩
  have hlen : n = ps.length := by subst hn; exact hnn
  have hdrop : ∀ j, n ≤ j → ps.drop j = [] := fun j h => List.drop_eq_nil_of_le (by omega)
  have hget : ∀ j, j < n → ∃ x, ps[j]? = some x ∧ ps.drop j = x :: ps.drop (j + 1) := fun j h => by
    have hlt' : j < ps.length := by omega
    exact ⟨ps[j], List.getElem?_eq_getElem hlt', List.drop_eq_getElem_cons hlt'⟩
  rw [← hnn] at hcap
  have hgo : Calls Tryd.prog 32 #[.slice (some ⟨g, 0, none⟩) n cap, .int .u8 sign.toNat, .int .i64 nanos] w fun e w' => ∃ v, e = .returned (.tuple #[.agg #[.int .i64 0, .int .i64 0], v]) ∧ FltIs w' v (some (0, 4)) ∧ Below w.heap.size w w' := by
   have q0 : ps[0]? = some x0 := by subst hn; rfl
   have q1 : ps[1]? = some x1 := by subst hn; rfl
   have q2 : ps[2]? = some x2 := by subst hn; rfl
   have q3 : ps[3]? = some x3 := by subst hn; rfl
   have q4 : ps[4]? = some x4 := by subst hn; rfl
   have q5 : ps[5]? = some x5 := by subst hn; rfl
   have q6 : ps[6]? = some x6 := by subst hn; rfl
   have q7 : ps[7]? = some x7 := by subst hn; rfl
   have HC : Hid (∀ i x, ps[i]? = some x → ∀ j, j < 4 → w.cell? ⟨g, i * 4 + j, none⟩ = x.vs[j]?) := hc
   have HI : Hid (ErrInv w) := hI
   have HK : Hid (∀ w1, ErrInv w1 → Calls Tryd.prog 16 #[.agg #[.int .i64 T, .int .i64 nanos]] w1 fun e w' => ∃ v, e = .returned v ∧ FltIs w' v (some (0, 4)) ∧ Below w1.heap.size w1 w') := fun w1 hI1 => check_bad T nanos w1 hI1 (by
    rw [checkS] at hok
    split at hok
    · assumption
    · cases hok)
   have HNN : Hid (n = 8) := hnn
   have h00 : 0 < w.heap.size := by obtain ⟨a, he, -⟩ := hI.sent 4 (by decide); exact World.block_lt_of_cell? w _ he
   clear hc hn hlen hI hok hnn
   subst hT
   go_enter Tryd.func32, Tryd.ntmps32
   go_wp2
   go_loopw [17] (fun i wr => ∃ j : Nat, j ≤ n ∧ i = .int .i64 j ∧ madeL h2 j (ps.drop j) = none ∧ Below w.heap.size w wr ∧ w.heap.size + 1 ≤ wr.heap.size ∧
      wr.heap[w.heap.size]? = some (.cells #[.int .i64 0, .int .i64 0] 31 (0, 0)))
    (fun i _ => n - (intOf i).toNat)
   case atStart =>
    refine ⟨0, by omega, rfl, hR, (Below.refl _ _).alloc (Nat.le_refl _) _, by simp, heap_alloc_new w _⟩
   case round =>
    obtain ⟨j, hj, rfl, hm, hb, hsz, hT'⟩ := hrel
    by_cases hjn : j < n
    · have hn0N : 0 < n := by have := HNN.out; omega
      have hnz : ¬ n = 0 := by omega
      have hn1N : 1 < n := by have := HNN.out; omega
      have hn1L : ¬ (n : Int) ≤ 1 := by omega
      have hn1M : ¬ n ≤ 1 := by omega
      have hn8 : n ≤ 8 := by have := HNN.out; omega
      clear HK hR HNN
      obtain ⟨x, hx, hdr⟩ := hget j hjn
      clear hget hdrop
      have hc0 : wr.cell? ⟨g, j * 4, none⟩ = some (.int .i64 x.n) := cell_in hb (HC.out j x hx 0 (by omega))
      have hc1 : wr.cell? ⟨g, j * 4 + 1, none⟩ = some (.int .i64 x.p) := cell_in hb (HC.out j x hx 1 (by omega))
      have hc2 : wr.cell? ⟨g, j * 4 + 2, none⟩ = some (.int .i64 x.lo) := cell_in hb (HC.out j x hx 2 (by omega))
      have hc3 : wr.cell? ⟨g, j * 4 + 3, none⟩ = some (.int .i64 x.hi) := cell_in hb (HC.out j x hx 3 (by omega))
      have hg0 : wr.cell? ⟨g, 0, none⟩ = some (.int .i64 x0.n) := by simpa using cell_in hb (HC.out 0 x0 q0 0 (by omega))
      have hg1 : wr.cell? ⟨g, 4, none⟩ = some (.int .i64 x1.n) := by simpa using cell_in hb (HC.out 1 x1 q1 0 (by omega))
      have hg0' : ∀ o, (wr.alloc o).cell? ⟨g, 0, none⟩ = some (.int .i64 x0.n) := fun o => (World.cell?_alloc_lt wr o ⟨g, 0, none⟩ (World.block_lt_of_cell? wr _ hg0)).trans hg0
      have hg1' : ∀ o, (wr.alloc o).cell? ⟨g, 4, none⟩ = some (.int .i64 x1.n) := fun o => (World.cell?_alloc_lt wr o ⟨g, 4, none⟩ (World.block_lt_of_cell? wr _ hg1)).trans hg1
      have hlt : (j : Int) < (n : Int) := by omega
      have HB : Hid (Below w.heap.size w wr) := hb
      have HT : Hid (wr.heap[w.heap.size]? = some (.cells #[.int .i64 0, .int .i64 0] 31 (0, 0))) := hT'
      rw [hdr, madeL] at hm
      by_cases hbad : (x.n : Int) < x.lo ∨ (x.n : Int) > (if j = 2 then h2 else x.hi)
      · rw [if_pos hbad] at hm; cases hm
      · rw [if_neg hbad] at hm
        have HM : Hid (madeL h2 (j + 1) (ps.drop (j + 1)) = none) := hm
        have hlo : ¬ (x.n : Int) < x.lo := fun h => hbad (Or.inl h)
        clear hm hdr hx hT' hb q0 q1 q2 q3 q4 q5 q6 q7 hd hd1 hd2 hsg h3 h4 h5 h6 h7
        by_cases hj2 : j = 2
        · have hhi : ¬ (x.n : Int) > h2 := fun h => hbad (Or.inr (by rw [if_pos hj2]; exact h))
          clear hbad
          subst hj2
          have k0 : wr.cell? ⟨g, 8, none⟩ = some (.int .i64 x.n) := hc0
          have k1 : wr.cell? ⟨g, 9, none⟩ = some (.int .i64 x.p) := hc1
          have k2 : wr.cell? ⟨g, 10, none⟩ = some (.int .i64 x.lo) := hc2
          have k3 : wr.cell? ⟨g, 11, none⟩ = some (.int .i64 x.hi) := hc3
          have hlt2 : (2 : Int) < (n : Int) := by omega
          clear hc0 hc1 hc2 hc3 hlt
          go_wp2
          go_quiet (first | (go_at_call 25; refine (PSt.stamp_length.calls kl _ _ _ _ hl).mono ?_; rintro e w' ⟨rfl, ⟨nd, rfl⟩⟩; (first | exact ⟨rfl, _, World.drewN_drewN _ _ _⟩ | exact ⟨rfl, _, Eq.trans (World.drewN_drewN _ _ _) (congrArg (World.drewN _) (Nat.add_assoc _ _ _))⟩)))
          go_wp2
          refine ⟨⟨2 + 1, by omega, rfl, HM.out, Below.drewN (HB.out.alloc (by omega) _) _, by show w.heap.size + 1 ≤ (wr.alloc _).heap.size; simp; omega, (Below.heap_alloc wr _ _ (by omega)).trans HT.out⟩, ?_⟩
          show n - 3 < n - 2
          omega
        · have hhi : ¬ (x.n : Int) > x.hi := fun h => hbad (Or.inr (by rw [if_neg hj2]; exact h))
          have hj2' : ¬ (j : Int) = 2 := by omega
          clear hbad
          go_wp2
          refine ⟨⟨j + 1, by omega, rfl, HM.out, HB.out.alloc (by omega) _, by simp; omega, (Below.heap_alloc _ _ _ (by omega)).trans HT.out⟩, ?_⟩
          have e1 : (intOf (Value.int IntKind.i64 ((j : Int) + 1))).toNat = j + 1 := by show ((j : Int) + 1).toNat = j + 1; omega
          have e2 : (intOf (Value.int IntKind.i64 (j : Int))).toNat = j := by show (j : Int).toNat = j; omega
          rw [e1, e2]
          omega
    · have hje : j = n := by omega
      subst hje
      clear hget hdrop hm
      have k0 : wr.cell? ⟨g, 0, none⟩ = some (.int .i64 x0.n) := by simpa using cell_in hb (HC.out 0 x0 q0 0 (by omega))
      have k1 : wr.cell? ⟨g, 4, none⟩ = some (.int .i64 x1.n) := by simpa using cell_in hb (HC.out 1 x1 q1 0 (by omega))
      have k2 : wr.cell? ⟨g, 8, none⟩ = some (.int .i64 x2.n) := by simpa using cell_in hb (HC.out 2 x2 q2 0 (by omega))
      have k3 : wr.cell? ⟨g, 12, none⟩ = some (.int .i64 x3.n) := by simpa using cell_in hb (HC.out 3 x3 q3 0 (by omega))
      have k4 : wr.cell? ⟨g, 16, none⟩ = some (.int .i64 x4.n) := by simpa using cell_in hb (HC.out 4 x4 q4 0 (by omega))
      have k5 : wr.cell? ⟨g, 20, none⟩ = some (.int .i64 x5.n) := by simpa using cell_in hb (HC.out 5 x5 q5 0 (by omega))
      have k6 : wr.cell? ⟨g, 24, none⟩ = some (.int .i64 x6.n) := by simpa using cell_in hb (HC.out 6 x6 q6 0 (by omega))
      have k7 : wr.cell? ⟨g, 28, none⟩ = some (.int .i64 x7.n) := by simpa using cell_in hb (HC.out 7 x7 q7 0 (by omega))
      have HB : Hid (Below w.heap.size w wr) := hb
      have HT : Hid (wr.heap[w.heap.size]? = some (.cells #[.int .i64 0, .int .i64 0] 31 (0, 0))) := hT'
      clear hb hT' q0 q1 q2 q3 q4 q5 q6 q7 hR
      have hnn := HNN.out
      clear HNN
      subst hnn
      go_wp2
      go_quiet (first | (go_at_call 26; refine (PSt.stamp_days.calls _ _ _ _ _ hd).mono ?_; rintro e w' ⟨rfl, ⟨nd, rfl⟩⟩; (first | exact ⟨rfl, _, World.drewN_drewN _ _ _⟩ | exact ⟨rfl, _, Eq.trans (World.drewN_drewN _ _ _) (congrArg (World.drewN _) (Nat.add_assoc _ _ _))⟩)))
      generalize nq = z1
      go_wp2
      go_quiet (fail)
      have HB' : Hid (Below w.heap.size w ((wr.drewN z1).drewN nq)) := Below.drewN (Below.drewN HB.out z1) nq
      have HT' : Hid (((wr.drewN z1).drewN nq).heap[w.heap.size]? = some (.cells #[.int .i64 0, .int .i64 0] 31 (0, 0))) := HT.out
      have hsq : w.heap.size + 1 ≤ ((wr.drewN z1).drewN nq).heap.size := hsz
      clear HB HT hsz k0 k1 k2 k3 k4 k5 k6 k7
      generalize (wr.drewN z1).drewN nq = wq at HB' HT' hsq ⊢
      go_wp2_with (go_at_call 16; refine Calls.mono (HK.out _ ((HI.out.below (HB'.out.alloc (by omega) _)))) ?_; rintro e w' ⟨v, rfl, hf, hbc⟩; obtain ⟨_, _, gf, sf, rfl, hf1, hf2⟩ := hf; have HF := (show Hid _ from hf1); have HF2 := (show Hid _ from hf2); clear hf1 hf2
                   have eT := (hbc.block w.heap.size (by simp; omega)).trans ((Below.heap_alloc wq _ _ (by omega)).trans HT'.out)
                   have eP := (hbc.block wq.heap.size (by simp)).trans (heap_alloc_new wq _)
                   have c0 := blk_cell eT 0
                   have c1 := blk_cell eT 1
                   have z0 := blk_fz eT 0
                   have z1 := blk_fz eT 1
                   have p0 := blk_cell eP 0
                   have p1 := blk_cell eP 1
                   simp at c0 c1 p0 p1
                   have HE : Hid (w'.heap[w.heap.size]? = some (.cells #[.int .i64 0, .int .i64 0] 31 (0, 0))) := eT
                   have HW := (show Hid _ from (HB'.out.alloc (by omega) _).trans (hbc.mono (by simp; omega)))
                   clear eT eP hbc)
      have e1 := blk_set (blk_set HE.out 0 (.int .i64 0)) 1 (.int .i64 0)
      have HG := flt_far HE.out HF.out HF2.out h00
      refine bodyPost_ret_by (v := .tuple #[.agg #[.int .i64 0, .int .i64 0], .iface 47 (.pointer (some ⟨gf, 0, none⟩))]) ?_ rfl ⟨_, rfl, HG, (HW.out.setCell (Nat.le_refl _) _).setCell (Nat.le_refl _) _⟩
      clear HG
      generalize (World.setCell _ _ _).setCell _ _ = X at e1 ⊢
      have r0 := blk_cell e1 0
      have r1 := blk_cell e1 1
      simp at r0 r1
      clear e1
      simp [results, Tryd.results32, go_sem, r0, r1]
  rw [hnn] at hgo
  exact hgo

set_option maxHeartbeats 8000000 in
theorem made_eight_pos_good (g cap : Nat) (ps : List Pt) (sign : UInt8) (nanos : Nat) (x0 x1 x2 x3 x4 x5 x6 x7 : Pt) (h2 : Int) (kl : Nat) (w : World) (hn : ps = [x0, x1, x2, x3, x4, x5, x6, x7]) (hcap : 8 ≤ cap) (hsg : ¬ (sign.toNat : Int) = 45) 
    (hc : ∀ i x, ps[i]? = some x → ∀ j, j < 4 → w.cell? ⟨g, i * 4 + j, none⟩ = x.vs[j]?) (hl : PSt.stamp_length.f kl x0.n x1.n = some h2) (hI : ErrInv w) (hR : madeL h2 0 ps = none)
    (dn : Int) (hd : PSt.stamp_days.f x0.n x1.n x2.n = some dn) (hd1 : -1000000 ≤ dn) (hd2 : dn ≤ 4000000) (h3 : x3.n ≤ 9999) (h4 : x4.n ≤ 9999) (h5 : x5.n ≤ 9999) (h6 : x6.n ≤ 9999) (h7 : x7.n ≤ 9999) (T : Int) (hT : T = dn * 86400 + x3.n * 3600 + x4.n * 60 + x5.n - ((x6.n : Int) * 3600 + x7.n * 60)) (hok : checkS T nanos = none) :
    Calls Tryd.prog 32 #[.slice (some ⟨g, 0, none⟩) 8 cap, .int .u8 sign.toNat, .int .i64 nanos] w fun e w' => e = .returned (.tuple #[.agg #[.int .i64 T, .int .i64 nanos], .nilIface]) ∧ Below w.heap.size w w' := by
  obtain ⟨n, hnn⟩ : ∃ n, n = 8 := ⟨8, rfl⟩
  have hlen : n = ps.length := by subst hn; exact hnn
  have hdrop : ∀ j, n ≤ j → ps.drop j = [] := fun j h => List.drop_eq_nil_of_le (by omega)
  have hget : ∀ j, j < n → ∃ x, ps[j]? = some x ∧ ps.drop j = x :: ps.drop (j + 1) := fun j h => by
    have hlt' : j < ps.length := by omega
    exact ⟨ps[j], List.getElem?_eq_getElem hlt', List.drop_eq_getElem_cons hlt'⟩
  rw [← hnn] at hcap
  have hgo : Calls Tryd.prog 32 #[.slice (some ⟨g, 0, none⟩) n cap, .int .u8 sign.toNat, .int .i64 nanos] w fun e w' => e = .returned (.tuple #[.agg #[.int .i64 T, .int .i64 nanos], .nilIface]) ∧ Below w.heap.size w w' := by
   have q0 : ps[0]? = some x0 := by subst hn; rfl
   have q1 : ps[1]? = some x1 := by subst hn; rfl
   have q2 : ps[2]? = some x2 := by subst hn; rfl
   have q3 : ps[3]? = some x3 := by subst hn; rfl
   have q4 : ps[4]? = some x4 := by subst hn; rfl
   have q5 : ps[5]? = some x5 := by subst hn; rfl
   have q6 : ps[6]? = some x6 := by subst hn; rfl
   have q7 : ps[7]? = some x7 := by subst hn; rfl
   have HC : Hid (∀ i x, ps[i]? = some x → ∀ j, j < 4 → w.cell? ⟨g, i * 4 + j, none⟩ = x.vs[j]?) := hc
   have HI : Hid (ErrInv w) := hI
   have HK : Hid (∀ w1, ErrInv w1 → Calls Tryd.prog 16 #[.agg #[.int .i64 T, .int .i64 nanos]] w1 fun e w' => e = .returned .nilIface ∧ Below w1.heap.size w1 w') := fun w1 _ => check_good T nanos w1 (fun h => by rw [checkS, if_pos h] at hok; cases hok)
   have HNN : Hid (n = 8) := hnn
   have h00 : 0 < w.heap.size := by obtain ⟨a, he, -⟩ := hI.sent 4 (by decide); exact World.block_lt_of_cell? w _ he
   clear hc hn hlen hI hok hnn
   subst hT
   go_enter Tryd.func32, Tryd.ntmps32
   go_wp2
   go_loopw [17] (fun i wr => ∃ j : Nat, j ≤ n ∧ i = .int .i64 j ∧ madeL h2 j (ps.drop j) = none ∧ Below w.heap.size w wr ∧ w.heap.size + 1 ≤ wr.heap.size ∧
      wr.heap[w.heap.size]? = some (.cells #[.int .i64 0, .int .i64 0] 31 (0, 0)))
    (fun i _ => n - (intOf i).toNat)
   case atStart =>
    refine ⟨0, by omega, rfl, hR, (Below.refl _ _).alloc (Nat.le_refl _) _, by simp, heap_alloc_new w _⟩
   case round =>
    obtain ⟨j, hj, rfl, hm, hb, hsz, hT'⟩ := hrel
    by_cases hjn : j < n
    · have hn0N : 0 < n := by have := HNN.out; omega
      have hnz : ¬ n = 0 := by omega
      have hn1N : 1 < n := by have := HNN.out; omega
      have hn1L : ¬ (n : Int) ≤ 1 := by omega
      have hn1M : ¬ n ≤ 1 := by omega
      have hn8 : n ≤ 8 := by have := HNN.out; omega
      clear HK hR HNN
      obtain ⟨x, hx, hdr⟩ := hget j hjn
      clear hget hdrop
      have hc0 : wr.cell? ⟨g, j * 4, none⟩ = some (.int .i64 x.n) := cell_in hb (HC.out j x hx 0 (by omega))
      have hc1 : wr.cell? ⟨g, j * 4 + 1, none⟩ = some (.int .i64 x.p) := cell_in hb (HC.out j x hx 1 (by omega))
      have hc2 : wr.cell? ⟨g, j * 4 + 2, none⟩ = some (.int .i64 x.lo) := cell_in hb (HC.out j x hx 2 (by omega))
      have hc3 : wr.cell? ⟨g, j * 4 + 3, none⟩ = some (.int .i64 x.hi) := cell_in hb (HC.out j x hx 3 (by omega))
      have hg0 : wr.cell? ⟨g, 0, none⟩ = some (.int .i64 x0.n) := by simpa using cell_in hb (HC.out 0 x0 q0 0 (by omega))
      have hg1 : wr.cell? ⟨g, 4, none⟩ = some (.int .i64 x1.n) := by simpa using cell_in hb (HC.out 1 x1 q1 0 (by omega))
      have hg0' : ∀ o, (wr.alloc o).cell? ⟨g, 0, none⟩ = some (.int .i64 x0.n) := fun o => (World.cell?_alloc_lt wr o ⟨g, 0, none⟩ (World.block_lt_of_cell? wr _ hg0)).trans hg0
      have hg1' : ∀ o, (wr.alloc o).cell? ⟨g, 4, none⟩ = some (.int .i64 x1.n) := fun o => (World.cell?_alloc_lt wr o ⟨g, 4, none⟩ (World.block_lt_of_cell? wr _ hg1)).trans hg1
      have hlt : (j : Int) < (n : Int) := by omega
      have HB : Hid (Below w.heap.size w wr) := hb
      have HT : Hid (wr.heap[w.heap.size]? = some (.cells #[.int .i64 0, .int .i64 0] 31 (0, 0))) := hT'
      rw [hdr, madeL] at hm
      by_cases hbad : (x.n : Int) < x.lo ∨ (x.n : Int) > (if j = 2 then h2 else x.hi)
      · rw [if_pos hbad] at hm; cases hm
      · rw [if_neg hbad] at hm
        have HM : Hid (madeL h2 (j + 1) (ps.drop (j + 1)) = none) := hm
        have hlo : ¬ (x.n : Int) < x.lo := fun h => hbad (Or.inl h)
        clear hm hdr hx hT' hb q0 q1 q2 q3 q4 q5 q6 q7 hd hd1 hd2 hsg h3 h4 h5 h6 h7
        by_cases hj2 : j = 2
        · have hhi : ¬ (x.n : Int) > h2 := fun h => hbad (Or.inr (by rw [if_pos hj2]; exact h))
          clear hbad
          subst hj2
          have k0 : wr.cell? ⟨g, 8, none⟩ = some (.int .i64 x.n) := hc0
          have k1 : wr.cell? ⟨g, 9, none⟩ = some (.int .i64 x.p) := hc1
          have k2 : wr.cell? ⟨g, 10, none⟩ = some (.int .i64 x.lo) := hc2
          have k3 : wr.cell? ⟨g, 11, none⟩ = some (.int .i64 x.hi) := hc3
          have hlt2 : (2 : Int) < (n : Int) := by omega
          clear hc0 hc1 hc2 hc3 hlt
          go_wp2
          go_quiet (first | (go_at_call 25; refine (PSt.stamp_length.calls kl _ _ _ _ hl).mono ?_; rintro e w' ⟨rfl, ⟨nd, rfl⟩⟩; (first | exact ⟨rfl, _, World.drewN_drewN _ _ _⟩ | exact ⟨rfl, _, Eq.trans (World.drewN_drewN _ _ _) (congrArg (World.drewN _) (Nat.add_assoc _ _ _))⟩)))
          go_wp2
          refine ⟨⟨2 + 1, by omega, rfl, HM.out, Below.drewN (HB.out.alloc (by omega) _) _, by show w.heap.size + 1 ≤ (wr.alloc _).heap.size; simp; omega, (Below.heap_alloc wr _ _ (by omega)).trans HT.out⟩, ?_⟩
          show n - 3 < n - 2
          omega
        · have hhi : ¬ (x.n : Int) > x.hi := fun h => hbad (Or.inr (by rw [if_neg hj2]; exact h))
          have hj2' : ¬ (j : Int) = 2 := by omega
          clear hbad
          go_wp2
          refine ⟨⟨j + 1, by omega, rfl, HM.out, HB.out.alloc (by omega) _, by simp; omega, (Below.heap_alloc _ _ _ (by omega)).trans HT.out⟩, ?_⟩
          have e1 : (intOf (Value.int IntKind.i64 ((j : Int) + 1))).toNat = j + 1 := by show ((j : Int) + 1).toNat = j + 1; omega
          have e2 : (intOf (Value.int IntKind.i64 (j : Int))).toNat = j := by show (j : Int).toNat = j; omega
          rw [e1, e2]
          omega
    · have hje : j = n := by omega
      subst hje
      clear hget hdrop hm
      have k0 : wr.cell? ⟨g, 0, none⟩ = some (.int .i64 x0.n) := by simpa using cell_in hb (HC.out 0 x0 q0 0 (by omega))
      have k1 : wr.cell? ⟨g, 4, none⟩ = some (.int .i64 x1.n) := by simpa using cell_in hb (HC.out 1 x1 q1 0 (by omega))
      have k2 : wr.cell? ⟨g, 8, none⟩ = some (.int .i64 x2.n) := by simpa using cell_in hb (HC.out 2 x2 q2 0 (by omega))
      have k3 : wr.cell? ⟨g, 12, none⟩ = some (.int .i64 x3.n) := by simpa using cell_in hb (HC.out 3 x3 q3 0 (by omega))
      have k4 : wr.cell? ⟨g, 16, none⟩ = some (.int .i64 x4.n) := by simpa using cell_in hb (HC.out 4 x4 q4 0 (by omega))
      have k5 : wr.cell? ⟨g, 20, none⟩ = some (.int .i64 x5.n) := by simpa using cell_in hb (HC.out 5 x5 q5 0 (by omega))
      have k6 : wr.cell? ⟨g, 24, none⟩ = some (.int .i64 x6.n) := by simpa using cell_in hb (HC.out 6 x6 q6 0 (by omega))
      have k7 : wr.cell? ⟨g, 28, none⟩ = some (.int .i64 x7.n) := by simpa using cell_in hb (HC.out 7 x7 q7 0 (by omega))
      have HB : Hid (Below w.heap.size w wr) := hb
      have HT : Hid (wr.heap[w.heap.size]? = some (.cells #[.int .i64 0, .int .i64 0] 31 (0, 0))) := hT'
      clear hb hT' q0 q1 q2 q3 q4 q5 q6 q7 hR
      have hnn := HNN.out
      clear HNN
      subst hnn
      go_wp2
      go_quiet (first | (go_at_call 26; refine (PSt.stamp_days.calls _ _ _ _ _ hd).mono ?_; rintro e w' ⟨rfl, ⟨nd, rfl⟩⟩; (first | exact ⟨rfl, _, World.drewN_drewN _ _ _⟩ | exact ⟨rfl, _, Eq.trans (World.drewN_drewN _ _ _) (congrArg (World.drewN _) (Nat.add_assoc _ _ _))⟩)))
      generalize nq = z1
      go_wp2
      go_quiet (fail)
      have HB' : Hid (Below w.heap.size w ((wr.drewN z1).drewN nq)) := Below.drewN (Below.drewN HB.out z1) nq
      have HT' : Hid (((wr.drewN z1).drewN nq).heap[w.heap.size]? = some (.cells #[.int .i64 0, .int .i64 0] 31 (0, 0))) := HT.out
      have hsq : w.heap.size + 1 ≤ ((wr.drewN z1).drewN nq).heap.size := hsz
      clear HB HT hsz k0 k1 k2 k3 k4 k5 k6 k7
      generalize (wr.drewN z1).drewN nq = wq at HB' HT' hsq ⊢
      go_wp2_with (go_at_call 16; refine Calls.mono (HK.out _ ((HI.out.below (HB'.out.alloc (by omega) _)))) ?_; rintro e w' ⟨rfl, hbc⟩
                   have eT := (hbc.block w.heap.size (by simp; omega)).trans ((Below.heap_alloc wq _ _ (by omega)).trans HT'.out)
                   have eP := (hbc.block wq.heap.size (by simp)).trans (heap_alloc_new wq _)
                   have c0 := blk_cell eT 0
                   have c1 := blk_cell eT 1
                   have z0 := blk_fz eT 0
                   have z1 := blk_fz eT 1
                   have p0 := blk_cell eP 0
                   have p1 := blk_cell eP 1
                   simp at c0 c1 p0 p1
                   have HE : Hid (w'.heap[w.heap.size]? = some (.cells #[.int .i64 0, .int .i64 0] 31 (0, 0))) := eT
                   have HW := (show Hid _ from (HB'.out.alloc (by omega) _).trans (hbc.mono (by simp; omega)))
                   clear eT eP hbc)
      have e1 := blk_set (blk_set HE.out 0 (.int .i64 (dn * 86400 + x3.n * 3600 + x4.n * 60 + x5.n - ((x6.n : Int) * 3600 + x7.n * 60)))) 1 (.int .i64 nanos)
      refine bodyPost_ret_by (v := .tuple #[.agg #[.int .i64 (dn * 86400 + x3.n * 3600 + x4.n * 60 + x5.n - ((x6.n : Int) * 3600 + x7.n * 60)), .int .i64 nanos], .nilIface]) ?_ rfl ⟨rfl, (HW.out.setCell (Nat.le_refl _) _).setCell (Nat.le_refl _) _⟩
      generalize (World.setCell _ _ _).setCell _ _ = X at e1 ⊢
      have r0 := blk_cell e1 0
      have r1 := blk_cell e1 1
      simp at r0 r1
      clear e1
      simp [results, Tryd.results32, go_sem, r0, r1]
  rw [hnn] at hgo
  exact hgo

set_option maxHeartbeats 8000000 in
theorem made_eight_pos_bad (g cap : Nat) (ps : List Pt) (sign : UInt8) (nanos : Nat) (x0 x1 x2 x3 x4 x5 x6 x7 : Pt) (h2 : Int) (kl : Nat) (w : World) (hn : ps = [x0, x1, x2, x3, x4, x5, x6, x7]) (hcap : 8 ≤ cap) (hsg : ¬ (sign.toNat : Int) = 45) 
    (hc : ∀ i x, ps[i]? = some x → ∀ j, j < 4 → w.cell? ⟨g, i * 4 + j, none⟩ = x.vs[j]?) (hl : PSt.stamp_length.f kl x0.n x1.n = some h2) (hI : ErrInv w) (hR : madeL h2 0 ps = none)
    (dn : Int) (hd : PSt.stamp_days.f x0.n x1.n x2.n = some dn) (hd1 : -1000000 ≤ dn) (hd2 : dn ≤ 4000000) (h3 : x3.n ≤ 9999) (h4 : x4.n ≤ 9999) (h5 : x5.n ≤ 9999) (h6 : x6.n ≤ 9999) (h7 : x7.n ≤ 9999) (T : Int) (hT : T = dn * 86400 + x3.n * 3600 + x4.n * 60 + x5.n - ((x6.n : Int) * 3600 + x7.n * 60)) (hok : checkS T nanos = some (0, 4)) :
    Calls Tryd.prog 32 #[.slice (some ⟨g, 0, none⟩) 8 cap, .int .u8 sign.toNat, .int .i64 nanos] w fun e w' => ∃ v, e = .returned (.tuple #[.agg #[.int .i64 0, .int .i64 0], v]) ∧ FltIs w' v (some (0, 4)) ∧ Below w.heap.size w w' := by
  obtain ⟨n, hnn⟩ : ∃ n, n = 8 := ⟨8, rfl⟩
  have hlen : n = ps.length := by subst hn; exact hnn
  have hdrop : ∀ j, n ≤ j → ps.drop j = [] := fun j h => List.drop_eq_nil_of_le (by omega)
  have hget : ∀ j, j < n → ∃ x, ps[j]? = some x ∧ ps.drop j = x :: ps.drop (j + 1) := fun j h => by
    have hlt' : j < ps.length := by omega
    exact ⟨ps[j], List.getElem?_eq_getElem hlt', List.drop_eq_getElem_cons hlt'⟩
  rw [← hnn] at hcap
  have hgo : Calls Tryd.prog 32 #[.slice (some ⟨g, 0, none⟩) n cap, .int .u8 sign.toNat, .int .i64 nanos] w fun e w' => ∃ v, e = .returned (.tuple #[.agg #[.int .i64 0, .int .i64 0], v]) ∧ FltIs w' v (some (0, 4)) ∧ Below w.heap.size w w' := by
   have q0 : ps[0]? = some x0 := by subst hn; rfl
   have q1 : ps[1]? = some x1 := by subst hn; rfl
   have q2 : ps[2]? = some x2 := by subst hn; rfl
   have q3 : ps[3]? = some x3 := by subst hn; rfl
   have q4 : ps[4]? = some x4 := by subst hn; rfl
   have q5 : ps[5]? = some x5 := by subst hn; rfl
   have q6 : ps[6]? = some x6 := by subst hn; rfl
   have q7 : ps[7]? = some x7 := by subst hn; rfl
   have HC : Hid (∀ i x, ps[i]? = some x → ∀ j, j < 4 → w.cell? ⟨g, i * 4 + j, none⟩ = x.vs[j]?) := hc
   have HI : Hid (ErrInv w) := hI
   have HK : Hid (∀ w1, ErrInv w1 → Calls Tryd.prog 16 #[.agg #[.int .i64 T, .int .i64 nanos]] w1 fun e w' => ∃ v, e = .returned v ∧ FltIs w' v (some (0, 4)) ∧ Below w1.heap.size w1 w') := fun w1 hI1 => check_bad T nanos w1 hI1 (by
    rw [checkS] at hok
    split at hok
    · assumption
    · cases hok)
   have HNN : Hid (n = 8) := hnn
   have h00 : 0 < w.heap.size := by obtain ⟨a, he, -⟩ := hI.sent 4 (by decide); exact World.block_lt_of_cell? w _ he
   clear hc hn hlen hI hok hnn
   subst hT
   go_enter Tryd.func32, Tryd.ntmps32
   go_wp2
   go_loopw [17] (fun i wr => ∃ j : Nat, j ≤ n ∧ i = .int .i64 j ∧ madeL h2 j (ps.drop j) = none ∧ Below w.heap.size w wr ∧ w.heap.size + 1 ≤ wr.heap.size ∧
      wr.heap[w.heap.size]? = some (.cells #[.int .i64 0, .int .i64 0] 31 (0, 0)))
    (fun i _ => n - (intOf i).toNat)
   case atStart =>
    refine ⟨0, by omega, rfl, hR, (Below.refl _ _).alloc (Nat.le_refl _) _, by simp, heap_alloc_new w _⟩
   case round =>
    obtain ⟨j, hj, rfl, hm, hb, hsz, hT'⟩ := hrel
    by_cases hjn : j < n
    · have hn0N : 0 < n := by have := HNN.out; omega
      have hnz : ¬ n = 0 := by omega
      have hn1N : 1 < n := by have := HNN.out; omega
      have hn1L : ¬ (n : Int) ≤ 1 := by omega
      have hn1M : ¬ n ≤ 1 := by omega
      have hn8 : n ≤ 8 := by have := HNN.out; omega
      clear HK hR HNN
      obtain ⟨x, hx, hdr⟩ := hget j hjn
      clear hget hdrop
      have hc0 : wr.cell? ⟨g, j * 4, none⟩ = some (.int .i64 x.n) := cell_in hb (HC.out j x hx 0 (by omega))
      have hc1 : wr.cell? ⟨g, j * 4 + 1, none⟩ = some (.int .i64 x.p) := cell_in hb (HC.out j x hx 1 (by omega))
      have hc2 : wr.cell? ⟨g, j * 4 + 2, none⟩ = some (.int .i64 x.lo) := cell_in hb (HC.out j x hx 2 (by omega))
      have hc3 : wr.cell? ⟨g, j * 4 + 3, none⟩ = some (.int .i64 x.hi) := cell_in hb (HC.out j x hx 3 (by omega))
      have hg0 : wr.cell? ⟨g, 0, none⟩ = some (.int .i64 x0.n) := by simpa using cell_in hb (HC.out 0 x0 q0 0 (by omega))
      have hg1 : wr.cell? ⟨g, 4, none⟩ = some (.int .i64 x1.n) := by simpa using cell_in hb (HC.out 1 x1 q1 0 (by omega))
      have hg0' : ∀ o, (wr.alloc o).cell? ⟨g, 0, none⟩ = some (.int .i64 x0.n) := fun o => (World.cell?_alloc_lt wr o ⟨g, 0, none⟩ (World.block_lt_of_cell? wr _ hg0)).trans hg0
      have hg1' : ∀ o, (wr.alloc o).cell? ⟨g, 4, none⟩ = some (.int .i64 x1.n) := fun o => (World.cell?_alloc_lt wr o ⟨g, 4, none⟩ (World.block_lt_of_cell? wr _ hg1)).trans hg1
      have hlt : (j : Int) < (n : Int) := by omega
      have HB : Hid (Below w.heap.size w wr) := hb
      have HT : Hid (wr.heap[w.heap.size]? = some (.cells #[.int .i64 0, .int .i64 0] 31 (0, 0))) := hT'
      rw [hdr, madeL] at hm
      by_cases hbad : (x.n : Int) < x.lo ∨ (x.n : Int) > (if j = 2 then h2 else x.hi)
      · rw [if_pos hbad] at hm; cases hm
      · rw [if_neg hbad] at hm
        have HM : Hid (madeL h2 (j + 1) (ps.drop (j + 1)) = none) := hm
        have hlo : ¬ (x.n : Int) < x.lo := fun h => hbad (Or.inl h)
        clear hm hdr hx hT' hb q0 q1 q2 q3 q4 q5 q6 q7 hd hd1 hd2 hsg h3 h4 h5 h6 h7
        by_cases hj2 : j = 2
        · have hhi : ¬ (x.n : Int) > h2 := fun h => hbad (Or.inr (by rw [if_pos hj2]; exact h))
          clear hbad
          subst hj2
          have k0 : wr.cell? ⟨g, 8, none⟩ = some (.int .i64 x.n) := hc0
          have k1 : wr.cell? ⟨g, 9, none⟩ = some (.int .i64 x.p) := hc1
          have k2 : wr.cell? ⟨g, 10, none⟩ = some (.int .i64 x.lo) := hc2
          have k3 : wr.cell? ⟨g, 11, none⟩ = some (.int .i64 x.hi) := hc3
          have hlt2 : (2 : Int) < (n : Int) := by omega
          clear hc0 hc1 hc2 hc3 hlt
          go_wp2
          go_quiet (first | (go_at_call 25; refine (PSt.stamp_length.calls kl _ _ _ _ hl).mono ?_; rintro e w' ⟨rfl, ⟨nd, rfl⟩⟩; (first | exact ⟨rfl, _, World.drewN_drewN _ _ _⟩ | exact ⟨rfl, _, Eq.trans (World.drewN_drewN _ _ _) (congrArg (World.drewN _) (Nat.add_assoc _ _ _))⟩)))
          go_wp2
          refine ⟨⟨2 + 1, by omega, rfl, HM.out, Below.drewN (HB.out.alloc (by omega) _) _, by show w.heap.size + 1 ≤ (wr.alloc _).heap.size; simp; omega, (Below.heap_alloc wr _ _ (by omega)).trans HT.out⟩, ?_⟩
          show n - 3 < n - 2
          omega
        · have hhi : ¬ (x.n : Int) > x.hi := fun h => hbad (Or.inr (by rw [if_neg hj2]; exact h))
          have hj2' : ¬ (j : Int) = 2 := by omega
          clear hbad
          go_wp2
          refine ⟨⟨j + 1, by omega, rfl, HM.out, HB.out.alloc (by omega) _, by simp; omega, (Below.heap_alloc _ _ _ (by omega)).trans HT.out⟩, ?_⟩
          have e1 : (intOf (Value.int IntKind.i64 ((j : Int) + 1))).toNat = j + 1 := by show ((j : Int) + 1).toNat = j + 1; omega
          have e2 : (intOf (Value.int IntKind.i64 (j : Int))).toNat = j := by show (j : Int).toNat = j; omega
          rw [e1, e2]
          omega
    · have hje : j = n := by omega
      subst hje
      clear hget hdrop hm
      have k0 : wr.cell? ⟨g, 0, none⟩ = some (.int .i64 x0.n) := by simpa using cell_in hb (HC.out 0 x0 q0 0 (by omega))
      have k1 : wr.cell? ⟨g, 4, none⟩ = some (.int .i64 x1.n) := by simpa using cell_in hb (HC.out 1 x1 q1 0 (by omega))
      have k2 : wr.cell? ⟨g, 8, none⟩ = some (.int .i64 x2.n) := by simpa using cell_in hb (HC.out 2 x2 q2 0 (by omega))
      have k3 : wr.cell? ⟨g, 12, none⟩ = some (.int .i64 x3.n) := by simpa using cell_in hb (HC.out 3 x3 q3 0 (by omega))
      have k4 : wr.cell? ⟨g, 16, none⟩ = some (.int .i64 x4.n) := by simpa using cell_in hb (HC.out 4 x4 q4 0 (by omega))
      have k5 : wr.cell? ⟨g, 20, none⟩ = some (.int .i64 x5.n) := by simpa using cell_in hb (HC.out 5 x5 q5 0 (by omega))
      have k6 : wr.cell? ⟨g, 24, none⟩ = some (.int .i64 x6.n) := by simpa using cell_in hb (HC.out 6 x6 q6 0 (by omega))
      have k7 : wr.cell? ⟨g, 28, none⟩ = some (.int .i64 x7.n) := by simpa using cell_in hb (HC.out 7 x7 q7 0 (by omega))
      have HB : Hid (Below w.heap.size w wr) := hb
      have HT : Hid (wr.heap[w.heap.size]? = some (.cells #[.int .i64 0, .int .i64 0] 31 (0, 0))) := hT'
      clear hb hT' q0 q1 q2 q3 q4 q5 q6 q7 hR
      have hnn := HNN.out
      clear HNN
      subst hnn
      go_wp2
      go_quiet (first | (go_at_call 26; refine (PSt.stamp_days.calls _ _ _ _ _ hd).mono ?_; rintro e w' ⟨rfl, ⟨nd, rfl⟩⟩; (first | exact ⟨rfl, _, World.drewN_drewN _ _ _⟩ | exact ⟨rfl, _, Eq.trans (World.drewN_drewN _ _ _) (congrArg (World.drewN _) (Nat.add_assoc _ _ _))⟩)))
      generalize nq = z1
      go_wp2
      go_quiet (fail)
      have HB' : Hid (Below w.heap.size w ((wr.drewN z1).drewN nq)) := Below.drewN (Below.drewN HB.out z1) nq
      have HT' : Hid (((wr.drewN z1).drewN nq).heap[w.heap.size]? = some (.cells #[.int .i64 0, .int .i64 0] 31 (0, 0))) := HT.out
      have hsq : w.heap.size + 1 ≤ ((wr.drewN z1).drewN nq).heap.size := hsz
      clear HB HT hsz k0 k1 k2 k3 k4 k5 k6 k7
      generalize (wr.drewN z1).drewN nq = wq at HB' HT' hsq ⊢
      go_wp2_with (go_at_call 16; refine Calls.mono (HK.out _ ((HI.out.below (HB'.out.alloc (by omega) _)))) ?_; rintro e w' ⟨v, rfl, hf, hbc⟩; obtain ⟨_, _, gf, sf, rfl, hf1, hf2⟩ := hf; have HF := (show Hid _ from hf1); have HF2 := (show Hid _ from hf2); clear hf1 hf2
                   have eT := (hbc.block w.heap.size (by simp; omega)).trans ((Below.heap_alloc wq _ _ (by omega)).trans HT'.out)
                   have eP := (hbc.block wq.heap.size (by simp)).trans (heap_alloc_new wq _)
                   have c0 := blk_cell eT 0
                   have c1 := blk_cell eT 1
                   have z0 := blk_fz eT 0
                   have z1 := blk_fz eT 1
                   have p0 := blk_cell eP 0
                   have p1 := blk_cell eP 1
                   simp at c0 c1 p0 p1
                   have HE : Hid (w'.heap[w.heap.size]? = some (.cells #[.int .i64 0, .int .i64 0] 31 (0, 0))) := eT
                   have HW := (show Hid _ from (HB'.out.alloc (by omega) _).trans (hbc.mono (by simp; omega)))
                   clear eT eP hbc)
      have e1 := blk_set (blk_set HE.out 0 (.int .i64 0)) 1 (.int .i64 0)
      have HG := flt_far HE.out HF.out HF2.out h00
      refine bodyPost_ret_by (v := .tuple #[.agg #[.int .i64 0, .int .i64 0], .iface 47 (.pointer (some ⟨gf, 0, none⟩))]) ?_ rfl ⟨_, rfl, HG, (HW.out.setCell (Nat.le_refl _) _).setCell (Nat.le_refl _) _⟩
      clear HG
      generalize (World.setCell _ _ _).setCell _ _ = X at e1 ⊢
      have r0 := blk_cell e1 0
      have r1 := blk_cell e1 1
      simp at r0 r1
      clear e1
      simp [results, Tryd.results32, go_sem, r0, r1]
  rw [hnn] at hgo
  exact hgo

end Go.Proofs.YtlgdenihddkjaaaDoor

/- stamp.made, joined: the first number out of its bounds, or the stamp, or that it lies beyond the ends. -/
namespace Go.Proofs.YtlgdenihddkjaaaDoor
set_option linter.unusedSimpArgs false
set_option linter.unusedVariables false
open Go.RowKit

theorem w64 {n : Int} (h1 : -9223372036854775808 ≤ n) (h2 : n ≤ 9223372036854775807) : wrap64 n = n := by unfold wrap64; omega
theorem td_nn {a b : Int} (h : 0 ≤ a) : Int.tdiv a b = a / b := Int.tdiv_eq_ediv_of_nonneg h
theorem tm_nn {a b : Int} (h : 0 ≤ a) : Int.tmod a b = a % b := Int.tmod_eq_emod_of_nonneg h
theorem td_neg {a b : Int} (h : a < 0) : Int.tdiv a b = -((-a) / b) := by
  rw [← Int.tdiv_eq_ediv_of_nonneg (by omega : 0 ≤ -a), Int.neg_tdiv, Int.neg_neg]
theorem tm_neg {a b : Int} (h : a < 0) : Int.tmod a b = -((-a) % b) := by
  rw [← Int.tmod_eq_emod_of_nonneg (by omega : 0 ≤ -a), Int.neg_tmod, Int.neg_neg]

/-- What stamp.length tells. -/
theorem length_f (y m : Int) (hy : 0 ≤ y) : PSt.stamp_length.f 1 y m = some (Cal.len y m) := by
  have e4 : Int.tmod y 4 = y % 4 := tm_nn hy
  have e100 : Int.tmod y 100 = y % 100 := tm_nn hy
  have e400 : Int.tmod y 400 = y % 400 := tm_nn hy
  have hl : PSt.stamp_leap.f y = some (Cal.leap y) := by
    unfold PSt.stamp_leap.f Cal.leap
    rw [e4, e100, e400]
    by_cases h4 : y % 4 = 0
    · rw [if_pos h4]
      by_cases h100 : y % 100 = 0
      · rw [if_pos h100]; simp [h4, h100]; rfl
      · rw [if_neg h100]; simp [h4, h100]
    · rw [if_neg h4]; simp [h4]; rfl
  simp only [PSt.stamp_length.f, PSt.stamp_length.j0, hl, Option.bind_some, Cal.len]
  by_cases h4 : m = 4
  · subst h4; simp
  · by_cases h6 : m = 6
    · subst h6; simp
    · by_cases h9 : m = 9
      · subst h9; simp
      · by_cases h11 : m = 11
        · subst h11; simp
        · by_cases h2 : m = 2
          · subst h2; cases hb : Cal.leap y <;> simp
          · simp [h4, h6, h9, h11, h2]

theorem floor_400 (a : Int) (h1 : -100000 ≤ a) (h2 : a ≤ 100000) : PSt.stamp_floor.f a 400 = some (a / 400) := by
  unfold PSt.stamp_floor.f
  rw [if_neg (by omega)]
  by_cases h : 0 ≤ a
  · rw [tm_nn h, td_nn h, if_neg (by omega), w64 (by omega) (by omega)]
  · rw [tm_neg (by omega), td_neg (by omega)]
    split
    · simp (disch := omega) only [w64]; congr 1; omega
    · simp (disch := omega) only [w64]; congr 1; omega

/-- What stamp.days tells. -/
theorem days_f (y m d : Int) (h0 : 0 ≤ y) (h1 : y ≤ 9999) (h2 : 1 ≤ m) (h3 : m ≤ 12) (h4 : 0 ≤ d) (h5 : d ≤ 9999) : PSt.stamp_days.f y m d = some (Cal.days y m d) := by
  unfold PSt.stamp_days.f Cal.days
  by_cases hm : m < 3
  · simp only [if_pos hm]
    rw [w64 (n := y - 1) (by omega) (by omega), floor_400 _ (by omega) (by omega)]
    simp only [Option.bind_some]
    simp (disch := omega) only [w64, td_nn]
  · simp only [if_neg hm]
    rw [floor_400 _ (by omega) (by omega)]
    simp only [Option.bind_some]
    simp (disch := omega) only [w64, td_nn]

/-- What made tells: the stamp's seconds and nanoseconds, and why it is none. -/
def madeT (ps : List Pt) (c : UInt8) : Int :=
  match ps with
  | [x0, x1, x2, x3, x4, x5] => Cal.days x0.n x1.n x2.n * 86400 + x3.n * 3600 + x4.n * 60 + x5.n
  | [x0, x1, x2, x3, x4, x5, x6, x7] => if c.toNat = 45 then Cal.days x0.n x1.n x2.n * 86400 + x3.n * 3600 + x4.n * 60 + x5.n + ((x6.n : Int) * 3600 + x7.n * 60) else Cal.days x0.n x1.n x2.n * 86400 + x3.n * 3600 + x4.n * 60 + x5.n - ((x6.n : Int) * 3600 + x7.n * 60)
  | _ => 0
def madeH (ps : List Pt) : Int := match ps with
  | x0 :: x1 :: _ => Cal.len x0.n x1.n
  | _ => 0
def madeR (ps : List Pt) (c : UInt8) (nan : Nat) : Int × Int × Option (Int × Nat) :=
  match madeL (madeH ps) 0 ps with
  | some x => (0, 0, some x)
  | none => match checkS (madeT ps c) nan with
    | some x => (0, 0, some x)
    | none => (madeT ps c, nan, none)
def MadeP (w : World) (ps : List Pt) (c : UInt8) (nan : Nat) (e : Ending) (w' : World) : Prop :=
  ∃ v, e = .returned (.tuple #[.agg #[.int .i64 (madeR ps c nan).1, .int .i64 (madeR ps c nan).2.1], v]) ∧ FltIs w' v (madeR ps c nan).2.2 ∧ Below w.heap.size w w'

/-- The bounds that Parse sets. -/
def Shape (ps : List Pt) : Prop :=
  (∃ a0 k0 a1 k1 a2 k2 a3 k3 a4 k4 a5 k5, ps = [⟨a0, k0, 0, 9999⟩, ⟨a1, k1, 1, 12⟩, ⟨a2, k2, 1, 31⟩, ⟨a3, k3, 0, 23⟩, ⟨a4, k4, 0, 59⟩, ⟨a5, k5, 0, 59⟩]) ∨
  (∃ a0 k0 a1 k1 a2 k2 a3 k3 a4 k4 a5 k5 a6 k6 a7 k7, ps = [⟨a0, k0, 0, 9999⟩, ⟨a1, k1, 1, 12⟩, ⟨a2, k2, 1, 31⟩, ⟨a3, k3, 0, 23⟩, ⟨a4, k4, 0, 59⟩, ⟨a5, k5, 0, 59⟩, ⟨a6, k6, 0, 23⟩, ⟨a7, k7, 0, 59⟩])

theorem check_cases (T : Int) (n : Int) : checkS T n = none ∨ checkS T n = some (0, 4) := by
  unfold checkS; split <;> simp

theorem days_bd (y m d : Int) (h0 : 0 ≤ y) (h1 : y ≤ 9999) (h2 : 1 ≤ m) (h3 : m ≤ 12) (h4 : 0 ≤ d) (h5 : d ≤ 9999) : -1000000 ≤ Cal.days y m d ∧ Cal.days y m d ≤ 4000000 := by
  unfold Cal.days
  by_cases hm : m < 3
  · simp only [if_pos hm]; omega
  · simp only [if_neg hm]; omega

theorem madeL_cons {h : Int} {i : Nat} {x : Pt} {r : List Pt} (hL : madeL h i (x :: r) = none) : (x.lo ≤ (x.n : Int) ∧ (x.n : Int) ≤ (if i = 2 then h else x.hi)) ∧ madeL h (i + 1) r = none := by
  rw [madeL] at hL
  by_cases hn : (x.n : Int) < x.lo ∨ (x.n : Int) > (if i = 2 then h else x.hi)
  · rw [if_pos hn] at hL; cases hL
  · rw [if_neg hn] at hL
    exact ⟨⟨Int.not_lt.mp (fun h => hn (Or.inl h)), Int.not_lt.mp (fun h => hn (Or.inr h))⟩, hL⟩
theorem made_any (M : Nat) (v : Value) (n : Nat) (ps : List Pt) (c : UInt8) (nan : Nat) (w : World) (hown : w.ownsRow M 54 4 v n (flat ps)) (hsh : Shape ps) (hI : ErrInv w) :
    Calls Tryd.prog 32 #[v, .int .u8 c.toNat, .int .i64 nan] w (MadeP w ps c nan) := by
  have hn : n = ps.length := by have := hown.1; rw [flat_length] at this; omega
  have hpos : 0 < n := by rcases hsh with ⟨a0, k0, a1, k1, a2, k2, a3, k3, a4, k4, a5, k5, rfl⟩ | ⟨a0, k0, a1, k1, a2, k2, a3, k3, a4, k4, a5, k5, a6, k6, a7, k7, rfl⟩ <;> simp at hn <;> omega
  obtain ⟨-, g, cap, rfl, hg, hgl, hcap, hcells⟩ := owns_cells hown hpos
  have hlen : ∀ a1 : Nat, ∀ a0 : Nat, PSt.stamp_length.f 1 a0 a1 = some (Cal.len a0 a1) := fun a1 a0 => length_f _ _ (by omega)
  unfold MadeP madeR
  cases hL : madeL (madeH ps) 0 ps with
  | some x =>
    simp only []
    rcases hsh with ⟨a0, k0, a1, k1, a2, k2, a3, k3, a4, k4, a5, k5, rfl⟩ | ⟨a0, k0, a1, k1, a2, k2, a3, k3, a4, k4, a5, k5, a6, k6, a7, k7, rfl⟩
    · exact made_bad g cap n M _ c nan _ _ _ 1 w hgl hn (by simp at hn; omega) (by simp at hn; omega) hcap hcells rfl rfl (hlen _ _) hI x hL
    · exact made_bad g cap n M _ c nan _ _ _ 1 w hgl hn (by simp at hn; omega) (by simp at hn; omega) hcap hcells rfl rfl (hlen _ _) hI x hL
  | none =>
    simp only []
    rcases hsh with ⟨a0, k0, a1, k1, a2, k2, a3, k3, a4, k4, a5, k5, rfl⟩ | ⟨a0, k0, a1, k1, a2, k2, a3, k3, a4, k4, a5, k5, a6, k6, a7, k7, rfl⟩
    · obtain rfl : n = 6 := by simpa using hn
      have b0 : (a0 : Int) ≤ 9999 ∧ 1 ≤ (a1 : Int) ∧ (a1 : Int) ≤ 12 ∧ (a2 : Int) ≤ 9999 ∧ a3 ≤ 9999 ∧ a4 ≤ 9999 ∧ a5 ≤ 9999 := by
        have hll := (Cal.len_le (a0 : Int) (a1 : Int))
        obtain ⟨q0, r0⟩ := madeL_cons hL
        obtain ⟨q1, r1⟩ := madeL_cons r0
        obtain ⟨q2, r2⟩ := madeL_cons r1
        obtain ⟨q3, r3⟩ := madeL_cons r2
        obtain ⟨q4, r4⟩ := madeL_cons r3
        obtain ⟨q5, r5⟩ := madeL_cons r4
        simp [madeH] at q0 q1 q2 q3 q4 q5
        omega
      obtain ⟨u0, ua, ub, u2, u3, u4, u5⟩ := b0
      have hd := days_f a0 a1 a2 (by omega) (by omega) (by omega) (by omega) (by omega) (by omega)
      obtain ⟨d1, d2⟩ := days_bd a0 a1 a2 (by omega) (by omega) (by omega) (by omega) (by omega) (by omega)
      rcases check_cases (madeT [⟨a0, k0, 0, 9999⟩, ⟨a1, k1, 1, 12⟩, ⟨a2, k2, 1, 31⟩, ⟨a3, k3, 0, 23⟩, ⟨a4, k4, 0, 59⟩, ⟨a5, k5, 0, 59⟩] c) nan with hk | hk
      · rw [hk]
        refine Calls.mono (made_six_good g cap _ c nan _ _ _ _ _ _ _ 1 w rfl hcap hcells (hlen _ _) hI hL _ hd d1 d2 u3 u4 u5 _ rfl hk) ?_
        rintro e w' ⟨rfl, hb⟩
        exact ⟨_, rfl, rfl, hb⟩
      · rw [hk]
        exact made_six_bad g cap _ c nan _ _ _ _ _ _ _ 1 w rfl hcap hcells (hlen _ _) hI hL _ hd d1 d2 u3 u4 u5 _ rfl hk
    · obtain rfl : n = 8 := by simpa using hn
      have b0 : (a0 : Int) ≤ 9999 ∧ 1 ≤ (a1 : Int) ∧ (a1 : Int) ≤ 12 ∧ (a2 : Int) ≤ 9999 ∧ a3 ≤ 9999 ∧ a4 ≤ 9999 ∧ a5 ≤ 9999 ∧ a6 ≤ 9999 ∧ a7 ≤ 9999 := by
        have hll := (Cal.len_le (a0 : Int) (a1 : Int))
        obtain ⟨q0, r0⟩ := madeL_cons hL
        obtain ⟨q1, r1⟩ := madeL_cons r0
        obtain ⟨q2, r2⟩ := madeL_cons r1
        obtain ⟨q3, r3⟩ := madeL_cons r2
        obtain ⟨q4, r4⟩ := madeL_cons r3
        obtain ⟨q5, r5⟩ := madeL_cons r4
        obtain ⟨q6, r6⟩ := madeL_cons r5
        obtain ⟨q7, r7⟩ := madeL_cons r6
        simp [madeH] at q0 q1 q2 q3 q4 q5 q6 q7
        omega
      obtain ⟨u0, ua, ub, u2, u3, u4, u5, u6, u7⟩ := b0
      have hd := days_f a0 a1 a2 (by omega) (by omega) (by omega) (by omega) (by omega) (by omega)
      obtain ⟨d1, d2⟩ := days_bd a0 a1 a2 (by omega) (by omega) (by omega) (by omega) (by omega) (by omega)
      by_cases hc : c.toNat = 45
      · have hsg : (c.toNat : Int) = 45 := by omega
        have hT : madeT [⟨a0, k0, 0, 9999⟩, ⟨a1, k1, 1, 12⟩, ⟨a2, k2, 1, 31⟩, ⟨a3, k3, 0, 23⟩, ⟨a4, k4, 0, 59⟩, ⟨a5, k5, 0, 59⟩, ⟨a6, k6, 0, 23⟩, ⟨a7, k7, 0, 59⟩] c = _ := if_pos hc
        rcases check_cases (madeT [⟨a0, k0, 0, 9999⟩, ⟨a1, k1, 1, 12⟩, ⟨a2, k2, 1, 31⟩, ⟨a3, k3, 0, 23⟩, ⟨a4, k4, 0, 59⟩, ⟨a5, k5, 0, 59⟩, ⟨a6, k6, 0, 23⟩, ⟨a7, k7, 0, 59⟩] c) nan with hk | hk
        · rw [hk]
          refine Calls.mono (made_eight_neg_good g cap _ c nan _ _ _ _ _ _ _ _ _ 1 w rfl hcap hsg hcells (hlen _ _) hI hL _ hd d1 d2 u3 u4 u5 u6 u7 _ hT hk) ?_
          rintro e w' ⟨rfl, hb⟩
          exact ⟨_, rfl, rfl, hb⟩
        · rw [hk]
          exact made_eight_neg_bad g cap _ c nan _ _ _ _ _ _ _ _ _ 1 w rfl hcap hsg hcells (hlen _ _) hI hL _ hd d1 d2 u3 u4 u5 u6 u7 _ hT hk
      · have hsg : ¬ (c.toNat : Int) = 45 := by omega
        have hT : madeT [⟨a0, k0, 0, 9999⟩, ⟨a1, k1, 1, 12⟩, ⟨a2, k2, 1, 31⟩, ⟨a3, k3, 0, 23⟩, ⟨a4, k4, 0, 59⟩, ⟨a5, k5, 0, 59⟩, ⟨a6, k6, 0, 23⟩, ⟨a7, k7, 0, 59⟩] c = _ := if_neg hc
        rcases check_cases (madeT [⟨a0, k0, 0, 9999⟩, ⟨a1, k1, 1, 12⟩, ⟨a2, k2, 1, 31⟩, ⟨a3, k3, 0, 23⟩, ⟨a4, k4, 0, 59⟩, ⟨a5, k5, 0, 59⟩, ⟨a6, k6, 0, 23⟩, ⟨a7, k7, 0, 59⟩] c) nan with hk | hk
        · rw [hk]
          refine Calls.mono (made_eight_pos_good g cap _ c nan _ _ _ _ _ _ _ _ _ 1 w rfl hcap hsg hcells (hlen _ _) hI hL _ hd d1 d2 u3 u4 u5 u6 u7 _ hT hk) ?_
          rintro e w' ⟨rfl, hb⟩
          exact ⟨_, rfl, rfl, hb⟩
        · rw [hk]
          exact made_eight_pos_bad g cap _ c nan _ _ _ _ _ _ _ _ _ 1 w rfl hcap hsg hcells (hlen _ _) hI hL _ hd d1 d2 u3 u4 u5 u6 u7 _ hT hk
end Go.Proofs.YtlgdenihddkjaaaDoor
