/- The document's own number of a day, in the calendar's words. -/
import Derived.Test.YtlgdenihddkjaaaDoorDb
import Derived.Test.YtlgdenihddkjaaaDoorPStx2
import Derived.Test.YtlgdenihddkjaaaDoorPStx5
import Derived.Test.YtlgdenihddkjaaaDoorPStx4
import Derived.Test.YtlgdenihddkjaaaDoorFb
namespace Go.Proofs.YtlgdenihddkjaaaDoor
set_option linter.unusedSimpArgs false
set_option linter.unusedVariables false
open Go.RowKit Go.Proofs.YtlgdenihddkjaaaDoorW.PrintWords Go.Proofs.YtlgdenihddkjaaaDoorW.PrintMore

theorem leapB_is (y : Int) (h : 0 ≤ y) : PSt.leapB y = Cal.leap y := by
  unfold PSt.leapB Cal.leap
  rw [tm_nn h, tm_nn h, tm_nn h]
  by_cases h400 : y % 400 = 0
  · simp [h400]
  · by_cases h4 : y % 4 = 0
    · by_cases h100 : y % 100 = 0 <;> simp [h400, h4, h100]
    · simp [h400, h4]
theorem refLen_f (y m : Int) (h : 0 ≤ y) (h1 : 1 ≤ m) (h2 : m ≤ 12) : PSt.eponymref16_Length.f y m = some (Cal.len y m) := by
  unfold PSt.eponymref16_Length.f
  rw [leapB_is y h]
  unfold PSt.lenT Cal.len
  by_cases hm : m = 2
  · subst hm
    cases hl : Cal.leap y <;> simp
  · by_cases hs : m = 4 ∨ m = 6 ∨ m = 9 ∨ m = 11
    · simp [hm, hs]; omega
    · rw [if_neg (by omega), if_pos (by omega), if_neg hm, if_neg hs, if_neg (by omega), if_neg hs, if_neg hm]
theorem year_f (y : Int) (h : 0 ≤ y) (h2 : y ≤ 20000) : PSt.eponymref16_year.f y = some (Cal.yr y) := by
  unfold PSt.eponymref16_year.f Cal.yr
  by_cases hy : y > 0
  · rw [if_pos hy]
    simp (disch := omega) only [w64, td_nn]
    congr 1
    omega
  · rw [if_neg hy, w64 (by omega) (by omega)]
    congr 1
    omega
theorem yr_1970 : Cal.yr 1970 = 719528 := by decide

theorem days_l0 (y m : Int) (hy : 0 ≤ y) (hy2 : y ≤ 9999) (hm : m ≤ 12) : ∀ (i fuel : Nat) (x9 j : Int), j = m - i → 1 ≤ j → i < fuel → -1000 ≤ x9 → x9 ≤ 4000000 + 40 * j →
    PSt.eponymref16_Days.l0 fuel y m x9 j = some (x9 + (Cal.cumT y m - Cal.cumT y j) - 719528, 0, 0)
  | 0, fuel + 1, x9, j, hj, h1, hf, a, b => by
    obtain rfl : j = m := by omega
    rw [PSt.eponymref16_Days.l0, if_neg (by omega), year_f 1970 (by omega) (by omega), yr_1970]
    simp only [Option.bind_some]
    rw [w64 (by omega) (by omega)]
    simp
  | i + 1, fuel + 1, x9, j, hj, h1, hf, a, b => by
    have hl := Cal.len_le y j
    rw [PSt.eponymref16_Days.l0, if_pos (by omega), refLen_f y j hy h1 (by omega)]
    simp only [Option.bind_some]
    rw [w64 (n := x9 + Cal.len y j) (by omega) (by omega), w64 (n := j + 1) (by omega) (by omega)]
    rw [days_l0 y m hy hy2 hm i fuel _ (j + 1) (by omega) (by omega) (by omega) (by omega) (by omega)]
    have := Cal.cumT_succ y j h1 (by omega)
    congr 2
    omega
/-- eponymref16.Days. -/
theorem refDays_f (y m d : Int) : PSt.eponymref16_Days.f 40 y m d = some (daysN y m d, (match daysE y m d with | none => (0, 0) | some x => (x.1, (x.2 : Int)))) := by
  unfold daysN daysE PSt.eponymref16_Days.f
  by_cases h1 : y < 0 ∨ y > 9999
  · simp only [if_pos h1]
    by_cases h1a : y < 0
    · rw [if_pos h1a]; simp [PSt.eponymref16_Days.j0]
    · have h1b : y > 9999 := by omega
      rw [if_neg h1a]; simp [PSt.eponymref16_Days.j0, h1b]
  · simp only [if_neg h1]
    rw [if_neg (by omega : ¬ y < 0)]
    have e1 : decide (y > 9999) = false := by simp; omega
    rw [e1, PSt.eponymref16_Days.j0, if_neg (by simp)]
    by_cases h2 : m < 1 ∨ m > 12
    · simp only [if_pos h2]
      by_cases h2a : m < 1
      · rw [if_pos h2a]; simp [PSt.eponymref16_Days.j1]
      · have h2b : m > 12 := by omega
        rw [if_neg h2a]; simp [PSt.eponymref16_Days.j1, h2b]
    · simp only [if_neg h2]
      rw [if_neg (by omega : ¬ m < 1)]
      have e2 : decide (m > 12) = false := by simp; omega
      rw [e2, PSt.eponymref16_Days.j1, if_neg (by simp)]
      rw [refLen_f y m (by omega) (by omega) (by omega)]
      simp only [Option.bind_some]
      by_cases h3 : d < 1 ∨ d > Cal.len y m
      · simp only [if_pos h3]
        by_cases h3a : d < 1
        · rw [if_pos h3a]; simp [PSt.eponymref16_Days.j2]
        · have h3b : d > Cal.len y m := by omega
          rw [if_neg h3a]; simp [PSt.eponymref16_Days.j2, h3b]
      · simp only [if_neg h3]
        rw [if_neg (by omega : ¬ d < 1)]
        have e3 : decide (d > Cal.len y m) = false := by simp; omega
        have hl := Cal.len_le y m
        rw [e3, PSt.eponymref16_Days.j2, if_neg (by simp), year_f y (by omega) (by omega)]
        simp only [Option.bind_some]
        have hyr : 0 ≤ Cal.yr y ∧ Cal.yr y ≤ 3700000 := by unfold Cal.yr; omega
        rw [w64 (n := Cal.yr y + d) (by omega) (by omega), w64 (n := Cal.yr y + d - 1) (by omega) (by omega)]
        rw [days_l0 y m (by omega) (by omega) (by omega) (m - 1).toNat 37 _ 1 (by omega) (by omega) (by omega) (by omega) (by omega)]
        have e4 := Cal.days_eq y m d (by omega) (by omega)
        have e5 : Cal.cumT y 1 = 0 := by simp [Cal.cumT]
        simp
        omega
/-- The two days of the week are one. -/
theorem week_same (n : Int) : ∃ r, PSt.stamp_Week.f n = some r ∧ PSt.eponymref16_Week.f n = some r := by
  refine ⟨_, rfl, ?_⟩
  unfold PSt.eponymref16_Week.f
  by_cases h : 0 ≤ n
  · rw [tm_nn h, if_neg (by omega)]
    simp (disch := omega) only [w64, tm_nn]
    congr 1
    omega
  · rw [tm_neg (by omega)]
    by_cases h2 : -(-n % 7) < 0
    · rw [if_pos h2]
    · rw [if_neg h2]
      simp (disch := omega) only [w64, tm_nn]
      congr 1
      omega
end Go.Proofs.YtlgdenihddkjaaaDoor

/- The document's own day of a number, in the calendar's words. -/
namespace Go.Proofs.YtlgdenihddkjaaaDoor
set_option linter.unusedSimpArgs false
set_option linter.unusedVariables false
open Go.RowKit Go.Proofs.YtlgdenihddkjaaaDoorW.PrintWords Go.Proofs.YtlgdenihddkjaaaDoorW.PrintMore

theorem civil_l1 (y m d : Int) (g : Cal.good y m d) : ∀ (i fuel : Nat) (x j : Int), j = m - i → 1 ≤ j → i < fuel → x = Cal.cumT y m + d - 1 - Cal.cumT y j →
    PSt.eponymref16_Civil.l1 fuel x y j = some (y, m, d)
  | 0, fuel + 1, x, j, hj, h1, hf, hx => by
    obtain ⟨g1, g2, g3, g4, g5, g6⟩ := g
    obtain rfl : j = m := by omega
    have hl := Cal.len_le y j
    rw [PSt.eponymref16_Civil.l1, refLen_f y j g1 h1 g4]
    simp only [Option.bind_some]
    rw [if_neg (by omega), w64 (by omega) (by omega)]
    congr 3
    omega
  | i + 1, fuel + 1, x, j, hj, h1, hf, hx => by
    have g' := g
    obtain ⟨g1, g2, g3, g4, g5, g6⟩ := g
    have hl := Cal.len_le y j
    have hmono := Cal.cumT_mono y j m h1 (by omega) (by omega)
    have hs := Cal.cumT_succ y j h1 (by omega)
    obtain ⟨b1, b2⟩ := Cal.cumT_bd y m g3 g4
    obtain ⟨b3, b4⟩ := Cal.cumT_bd y j h1 (by omega)
    obtain ⟨l0, l1⟩ := Cal.lp_01 y
    rw [PSt.eponymref16_Civil.l1, refLen_f y j g1 h1 (by omega)]
    simp only [Option.bind_some]
    rw [if_pos (by omega), w64 (n := x - Cal.len y j) (by omega) (by omega), w64 (n := j + 1) (by omega) (by omega)]
    exact civil_l1 y m d g' i fuel _ (j + 1) (by omega) (by omega) (by omega) (by omega)

theorem civil_l0 (y m d : Int) (g : Cal.good y m d) (N : Int) (hN : N = Cal.yr y + Cal.cumT y m + d - 1) : ∀ (i fuel : Nat) (lo hi : Int), 0 ≤ lo → lo ≤ y → y ≤ hi → hi ≤ 9999 → hi - lo < 2 ^ i → i + 20 ≤ fuel →
    PSt.eponymref16_Civil.l0 fuel N lo hi = some (y, m, d) := by
  have g' := g
  obtain ⟨g1, g2, g3, g4, g5, g6⟩ := g
  obtain ⟨b1, b2⟩ := Cal.cumT_bd y m g3 g4
  obtain ⟨lp0, lp1⟩ := Cal.lp_01 y
  have hyr : 0 ≤ Cal.yr y ∧ Cal.yr y ≤ 3700000 := by unfold Cal.yr; omega
  intro i
  induction i with
  | zero =>
    intro fuel lo hi h0 h1 h2 h3 h4 hf
    obtain ⟨fuel, rfl⟩ : ∃ f, fuel = f + 1 := ⟨fuel - 1, by omega⟩
    have e : lo = y := by simp at h4; omega
    have e2 : hi = y := by simp at h4; omega
    subst e; subst e2
    rw [PSt.eponymref16_Civil.l0, if_neg (by omega), year_f hi h0 (by omega)]
    simp only [Option.bind_some]
    rw [w64 (by omega) (by omega)]
    have e5 : Cal.cumT hi 1 = 0 := by simp [Cal.cumT]
    exact civil_l1 hi m d g' (m - 1).toNat fuel _ 1 (by omega) (by omega) (by omega) (by omega)
  | succ i ih =>
    intro fuel lo hi h0 h1 h2 h3 h4 hf
    obtain ⟨fuel, rfl⟩ : ∃ f, fuel = f + 1 := ⟨fuel - 1, by omega⟩
    by_cases hlt : lo < hi
    · rw [PSt.eponymref16_Civil.l0, if_pos hlt]
      rw [w64 (n := lo + hi) (by omega) (by omega), w64 (n := lo + hi + 1) (by omega) (by omega), td_nn (a := lo + hi + 1) (by omega), w64 (n := (lo + hi + 1) / 2) (by omega) (by omega), w64 (n := (lo + hi + 1) / 2 - 1) (by omega) (by omega)]
      rw [year_f _ (by omega) (by omega)]
      simp only [Option.bind_some]
      have hp : (2 : Int) ^ (i + 1) = 2 * 2 ^ i := by rw [Int.pow_succ]; omega
      rw [hp] at h4
      generalize (2 : Int) ^ i = W at h4 ih
      by_cases hmid : (lo + hi + 1) / 2 ≤ y
      · have hle : Cal.yr ((lo + hi + 1) / 2) ≤ N := by
          rcases Int.lt_or_eq_of_le hmid with h | h
          · have := Cal.yr_mono _ _ h
            have := (Cal.lp_01 ((lo + hi + 1) / 2)).1
            omega
          · rw [h]; omega
        rw [if_pos hle]
        exact ih fuel _ _ (by omega) hmid h2 h3 (by omega) (by omega)
      · have hgt : ¬ Cal.yr ((lo + hi + 1) / 2) ≤ N := by
          have := Cal.yr_mono y ((lo + hi + 1) / 2) (by omega)
          omega
        rw [if_neg hgt]
        exact ih fuel _ _ (by omega) h1 (by omega) (by omega) (by omega) (by omega)
    · have e : lo = y := by omega
      have e2 : hi = y := by omega
      subst e; subst e2
      rw [PSt.eponymref16_Civil.l0, if_neg (by omega), year_f hi h0 (by omega)]
      simp only [Option.bind_some]
      rw [w64 (by omega) (by omega)]
      have e5 : Cal.cumT hi 1 = 0 := by simp [Cal.cumT]
      exact civil_l1 hi m d g' (m - 1).toNat fuel _ 1 (by omega) (by omega) (by omega) (by omega)

theorem yr_10000 : Cal.yr 10000 = 3652425 := by unfold Cal.yr; omega


theorem p14 : (2 : Int) ^ 14 = 16384 := rfl
theorem refCivil_j1 (y m d c : Int) (g : Cal.good y m d) (k : Nat) (hk : 40 ≤ k) (hN : c + 719528 = Cal.yr y + Cal.cumT y m + d - 1) (b1 : -719528 ≤ c) (b2 : c ≤ 2932896) : PSt.eponymref16_Civil.j1 (k + 1) c = some (y, m, d) := by
  rw [PSt.eponymref16_Civil.j1, year_f 1970 (by omega) (by omega), yr_1970]
  simp only [Option.bind_some]
  rw [w64 (n := c + 719528) (by omega) (by omega)]
  exact civil_l0 y m d g (c + 719528) hN 14 k 0 9999 (Int.le_refl 0) g.1 g.2.1 (Int.le_refl 9999) (by rw [p14]; omega) (by omega)
theorem refCivil_j0 (y m d c c' : Int) (g : Cal.good y m d) (k : Nat) (hk : 40 ≤ k) (hc : c' = min c 2932896) (hN : c' + 719528 = Cal.yr y + Cal.cumT y m + d - 1) (b1 : -719528 ≤ c) : PSt.eponymref16_Civil.j0 (k + 2) c = some (y, m, d) := by
  have hA := yr_10000
  have hB := yr_1970
  rw [PSt.eponymref16_Civil.j0, year_f 10000 (by omega) (by omega), year_f 1970 (by omega) (by omega)]
  generalize Cal.yr 10000 = A at hA
  generalize Cal.yr 1970 = B at hB
  rw [Option.bind_some, Option.bind_some]
  rw [w64 (n := A - B) (by omega) (by omega), w64 (n := A - B - 1) (by omega) (by omega)]
  by_cases h : c > A - B - 1
  · rw [if_pos h, Option.bind_some, Option.bind_some, w64 (n := A - B) (by omega) (by omega), w64 (n := A - B - 1) (by omega) (by omega)]
    exact refCivil_j1 y m d (A - B - 1) g k hk (by omega) (by omega) (by omega)
  · rw [if_neg h]
    exact refCivil_j1 y m d c g k hk (by omega) (by omega) (by omega)
theorem refCivil_k (n : Int) (k : Nat) (hk : 40 ≤ k) : PSt.eponymref16_Civil.f (k + 2) n = some (Cal.civil n) := by
  obtain ⟨y, m, d, hc, g, hd⟩ := Cal.civil_is n
  rw [hc]
  have e1 := Cal.days_eq y m d g.2.2.1 g.2.2.2.1
  rw [hd] at e1
  have hcl : Cal.clamp n = max (-719528) (min n 2932896) := rfl
  clear hc hd
  generalize Cal.clamp n = cl at e1 hcl
  have hB := yr_1970
  unfold PSt.eponymref16_Civil.f
  rw [year_f 1970 (by omega) (by omega)]
  generalize Cal.yr 1970 = B at hB
  rw [Option.bind_some, w64 (n := -B) (by omega) (by omega)]
  by_cases h : n < -B
  · rw [if_pos h, Option.bind_some, w64 (n := -B) (by omega) (by omega)]
    exact refCivil_j0 y m d (-B) cl g k hk (by omega) (by omega) (by omega)
  · rw [if_neg h]
    exact refCivil_j0 y m d n cl g k hk (by omega) (by omega) (by omega)
theorem refCivil_f (n : Int) : ∃ k, PSt.eponymref16_Civil.f k n = some (Cal.civil n) := ⟨40 + 2, refCivil_k n 40 (Nat.le_refl _)⟩
end Go.Proofs.YtlgdenihddkjaaaDoor

/- The number of any day, or why there is none such, and the day of any number, are as the document says; and so is its day of the week. -/
namespace Go.Proofs.YtlgdenihddkjaaaDoor
set_option linter.unusedSimpArgs false
set_option linter.unusedVariables false
open Go.RowKit Go.Proofs.YtlgdenihddkjaaaDoorW.PrintWords

theorem IsInv.belowB {w w' : World} (h : IsInv w) (hb : Below w.heap.size w w') : IsInv w' := h.below hb
theorem days_ref (y m d : Int) : ∃ A C : Int, PSt.eponymref16_Days.f 40 y m d = some (daysN y m d, A, C) ∧ ∀ (v : Value) (w1 : World), FltIs w1 v (daysE y m d) → IsInv w1 → Calls Tryd.prog 12 #[v, .int .i64 A, .int .i64 C] w1 fun e w' => e = .returned (.bool true) ∧ Below w1.heap.size w1 w' := by
  have h := refDays_f y m d
  cases hE : daysE y m d with
  | none =>
    rw [hE] at h
    refine ⟨0, 0, h, fun v w1 hf hI => ?_⟩
    exact is_any v none 0 0 (by omega) (by omega) w1 hf hI
  | some x =>
    rw [hE] at h
    obtain ⟨b, c⟩ := x
    refine ⟨b, c, h, fun v w1 hf hI => ?_⟩
    have h1 := hf
    obtain ⟨h1, h2, -⟩ := h1
    have hc := is_any v (some (b, c)) b c (by omega) (by omega) w1 hf hI
    have e : isB (some (b, c)) b c = true := by simp [isB]; omega
    rw [e] at hc
    exact hc

set_option maxHeartbeats 8000000 in
theorem stampDays_any (y m d : Int) (w : World) (hI : IsInv w) (hl : 18 < w.heap.size) (hG : PSt.GInv w) : Calls Tryd.prog 6 #[.int .i64 y, .int .i64 m, .int .i64 d] w fun e w' => e = .returned (.bool true) ∧ Below w.heap.size w w' := by
  obtain ⟨A, C, hR, hIs⟩ := days_ref y m d
  obtain ⟨kc, hkc⟩ := refCivil_f d
  obtain ⟨yy, mm, dd, hc, -, -⟩ := Cal.civil_is d
  rw [hc] at hkc
  obtain ⟨r, hw1, hw2⟩ := week_same d
  have H0 := (show Hid _ from awake_any w (hI.err hl) hG)
  have HI := (show Hid _ from hI)
  have HE : Hid (∀ w1, Below w.heap.size w w1 → ErrInv w1) := fun w1 hb => ErrInv.below (hI.err hl) hb
  have HR := (show Hid _ from hR)
  have HIs := (show Hid _ from hIs)
  have HK := (show Hid _ from hkc)
  have HC := (show Hid _ from hc)
  have HW1 := (show Hid _ from hw1)
  have HW2 := (show Hid _ from hw2)
  clear hI hl hG hR hIs hkc hc hw1 hw2
  generalize hNN : daysN y m d = NN at *
  have HNN := (show Hid _ from hNN)
  clear hNN
  go_enter Tryd.func6, Tryd.ntmps6
  go_wp2_with (first
    | (go_at_call 22; have C := PSt.eponymref16_Week.calls d r w7 HW2.out; refine Calls.mono C ?_; clear C; rintro e w8 ⟨rfl, hd⟩; have HB8 := (show Hid _ from below_to HB7.out (Drawn0.below hd)); clear hd HB7)
    | (go_at_call 21; have C := PSt.stamp_Week.calls d r w6 HW1.out; refine Calls.mono C ?_; clear C; rintro e w7 ⟨rfl, hd⟩; have HB7 := (show Hid _ from below_to HB6.out (Drawn0.below hd)); clear hd HB6)
    | (go_at_call 12; have C := HIs.out v w5 (HF5.out) (IsInv.belowB HI.out HB5.out); refine Calls.mono C ?_; clear C; rintro e w6 ⟨rfl, hb⟩; have HB6 := (show Hid _ from below_to HB5.out hb); clear hb HB5)
    | (go_at_call 20; have C := PSt.eponymref16_Civil.calls kc d yy mm dd w4 HK.out; refine Calls.mono C ?_; clear C; rintro e w5 ⟨rfl, hd⟩; have HB5 := (show Hid _ from below_to HB4.out (Drawn0.below hd)); have HF5 : Hid (FltIs w5 v (daysE y m d)) := FltIs.below HF4.out (Drawn0.below hd); clear hd HB4 HF4)
    | (go_at_call 8; have C := civil_any d yy mm dd HC.out w3; refine Calls.mono C ?_; clear C; rintro e w4 ⟨rfl, hb⟩; have HB4 := (show Hid _ from below_to HB3.out hb); have HF4 : Hid (FltIs w4 v (daysE y m d)) := FltIs.below HF3.out hb; clear hb HB3 HF3)
    | (go_at_call 19; have C := PSt.eponymref16_Days.calls 40 y m d NN A C w2 HR.out; refine Calls.mono C ?_; clear C; rintro e w3 ⟨rfl, hd⟩; have HB3 := (show Hid _ from below_to HB2.out (Drawn0.below hd)); have HF3 : Hid (FltIs w3 v (daysE y m d)) := FltIs.below HF2.out (Drawn0.below hd); clear hd HB2 HF2)
    | (go_at_call 9; have C := days_any y m d w1 (HE.out w1 HB1.out); rw [HNN.out] at C; refine Calls.mono C ?_; clear C; rintro e w2 ⟨v, rfl, hf, hb⟩; have HB2 := (show Hid _ from below_to HB1.out hb); have HF2 : Hid (FltIs w2 v (daysE y m d)) := hf; clear hb hf HB1)
    | (go_at_call 7; have C := H0.out; refine Calls.mono C ?_; clear C; rintro e w1 ⟨rfl, hb⟩; have HB1 := (show Hid _ from hb); clear hb))
  go_ret
  exact ⟨by simp, HB8.out⟩
end Go.Proofs.YtlgdenihddkjaaaDoor
