/- stamp.made, joined: the first number out of its bounds, or the stamp, or that it lies beyond the ends. -/
import Derived.Test.YtlgdenihddkjaaaDoorMade2
import Derived.Test.YtlgdenihddkjaaaDoorCal
namespace Go.Proofs.YtlgdenihddkjaaaDoor
set_option linter.unusedSimpArgs false
set_option linter.unusedVariables false
open Go.RowKit

theorem w64 {n : Int} (h1 : -9223372036854775808 ≤ n) (h2 : n ≤ 9223372036854775807) : wrap64 n = n := by unfold wrap64; omega
theorem td_nn {a b : Int} (h : 0 ≤ a) : Int.tdiv a b = a / b := Int.tdiv_eq_ediv_of_nonneg h
theorem tm_nn {a b : Int} (h : 0 ≤ a) : Int.tmod a b = a % b := Int.tmod_eq_emod_of_nonneg h
theorem td_neg {a b : Int} (h : a < 0) : Int.tdiv a b = -((-a) / b) := by
  rw [← Int.tdiv_eq_ediv_of_nonneg (by omega : 0 ≤ -a), Int.neg_tdiv, Int.neg_neg]
theorem tm_neg {a b : Int} (h : a < 0) : Int.tmod a b = -((-a) % b) := by
  rw [← Int.tmod_eq_emod_of_nonneg (by omega : 0 ≤ -a), Int.neg_tmod, Int.neg_neg]

/-- What stamp.length tells. -/
theorem length_f (y m : Int) (hy : 0 ≤ y) : PSt.stamp_length.f 1 y m = some (Cal.len y m) := by
  have e4 : Int.tmod y 4 = y % 4 := tm_nn hy
  have e100 : Int.tmod y 100 = y % 100 := tm_nn hy
  have e400 : Int.tmod y 400 = y % 400 := tm_nn hy
  have hl : PSt.stamp_leap.f y = some (Cal.leap y) := by
    unfold PSt.stamp_leap.f Cal.leap
    rw [e4, e100, e400]
    by_cases h4 : y % 4 = 0
    · rw [if_pos h4]
      by_cases h100 : y % 100 = 0
      · rw [if_pos h100]; simp [h4, h100]; rfl
      · rw [if_neg h100]; simp [h4, h100]
    · rw [if_neg h4]; simp [h4]; rfl
  simp only [PSt.stamp_length.f, PSt.stamp_length.j0, hl, Option.bind_some, Cal.len]
  by_cases h4 : m = 4
  · subst h4; simp
  · by_cases h6 : m = 6
    · subst h6; simp
    · by_cases h9 : m = 9
      · subst h9; simp
      · by_cases h11 : m = 11
        · subst h11; simp
        · by_cases h2 : m = 2
          · subst h2; cases hb : Cal.leap y <;> simp
          · simp [h4, h6, h9, h11, h2]

theorem floor_400 (a : Int) (h1 : -100000 ≤ a) (h2 : a ≤ 100000) : PSt.stamp_floor.f a 400 = some (a / 400) := by
  unfold PSt.stamp_floor.f
  rw [if_neg (by omega)]
  by_cases h : 0 ≤ a
  · rw [tm_nn h, td_nn h, if_neg (by omega), w64 (by omega) (by omega)]
  · rw [tm_neg (by omega), td_neg (by omega)]
    split
    · simp (disch := omega) only [w64]; congr 1; omega
    · simp (disch := omega) only [w64]; congr 1; omega

/-- What stamp.days tells. -/
theorem days_f (y m d : Int) (h0 : 0 ≤ y) (h1 : y ≤ 9999) (h2 : 1 ≤ m) (h3 : m ≤ 12) (h4 : 0 ≤ d) (h5 : d ≤ 9999) : PSt.stamp_days.f y m d = some (Cal.days y m d) := by
  unfold PSt.stamp_days.f Cal.days
  by_cases hm : m < 3
  · simp only [if_pos hm]
    rw [w64 (n := y - 1) (by omega) (by omega), floor_400 _ (by omega) (by omega)]
    simp only [Option.bind_some]
    simp (disch := omega) only [w64, td_nn]
  · simp only [if_neg hm]
    rw [floor_400 _ (by omega) (by omega)]
    simp only [Option.bind_some]
    simp (disch := omega) only [w64, td_nn]

/-- What made tells: the stamp's seconds and nanoseconds, and why it is none. -/
def madeT (ps : List Pt) (c : UInt8) : Int :=
  match ps with
  | [x0, x1, x2, x3, x4, x5] => Cal.days x0.n x1.n x2.n * 86400 + x3.n * 3600 + x4.n * 60 + x5.n
  | [x0, x1, x2, x3, x4, x5, x6, x7] => if c.toNat = 45 then Cal.days x0.n x1.n x2.n * 86400 + x3.n * 3600 + x4.n * 60 + x5.n + ((x6.n : Int) * 3600 + x7.n * 60) else Cal.days x0.n x1.n x2.n * 86400 + x3.n * 3600 + x4.n * 60 + x5.n - ((x6.n : Int) * 3600 + x7.n * 60)
  | _ => 0
def madeH (ps : List Pt) : Int := match ps with
  | x0 :: x1 :: _ => Cal.len x0.n x1.n
  | _ => 0
def madeR (ps : List Pt) (c : UInt8) (nan : Nat) : Int × Int × Option (Int × Nat) :=
  match madeL (madeH ps) 0 ps with
  | some x => (0, 0, some x)
  | none => match checkS (madeT ps c) nan with
    | some x => (0, 0, some x)
    | none => (madeT ps c, nan, none)
def MadeP (w : World) (ps : List Pt) (c : UInt8) (nan : Nat) (e : Ending) (w' : World) : Prop :=
  ∃ v, e = .returned (.tuple #[.agg #[.int .i64 (madeR ps c nan).1, .int .i64 (madeR ps c nan).2.1], v]) ∧ FltIs w' v (madeR ps c nan).2.2 ∧ Below w.heap.size w w'

/-- The bounds that Parse sets. -/
def Shape (ps : List Pt) : Prop :=
  (∃ a0 k0 a1 k1 a2 k2 a3 k3 a4 k4 a5 k5, ps = [⟨a0, k0, 0, 9999⟩, ⟨a1, k1, 1, 12⟩, ⟨a2, k2, 1, 31⟩, ⟨a3, k3, 0, 23⟩, ⟨a4, k4, 0, 59⟩, ⟨a5, k5, 0, 59⟩]) ∨
  (∃ a0 k0 a1 k1 a2 k2 a3 k3 a4 k4 a5 k5 a6 k6 a7 k7, ps = [⟨a0, k0, 0, 9999⟩, ⟨a1, k1, 1, 12⟩, ⟨a2, k2, 1, 31⟩, ⟨a3, k3, 0, 23⟩, ⟨a4, k4, 0, 59⟩, ⟨a5, k5, 0, 59⟩, ⟨a6, k6, 0, 23⟩, ⟨a7, k7, 0, 59⟩])

theorem check_cases (T : Int) (n : Int) : checkS T n = none ∨ checkS T n = some (0, 4) := by
  unfold checkS; split <;> simp

theorem days_bd (y m d : Int) (h0 : 0 ≤ y) (h1 : y ≤ 9999) (h2 : 1 ≤ m) (h3 : m ≤ 12) (h4 : 0 ≤ d) (h5 : d ≤ 9999) : -1000000 ≤ Cal.days y m d ∧ Cal.days y m d ≤ 4000000 := by
  unfold Cal.days
  by_cases hm : m < 3
  · simp only [if_pos hm]; omega
  · simp only [if_neg hm]; omega

theorem madeL_cons {h : Int} {i : Nat} {x : Pt} {r : List Pt} (hL : madeL h i (x :: r) = none) : (x.lo ≤ (x.n : Int) ∧ (x.n : Int) ≤ (if i = 2 then h else x.hi)) ∧ madeL h (i + 1) r = none := by
  rw [madeL] at hL
  by_cases hn : (x.n : Int) < x.lo ∨ (x.n : Int) > (if i = 2 then h else x.hi)
  · rw [if_pos hn] at hL; cases hL
  · rw [if_neg hn] at hL
    exact ⟨⟨Int.not_lt.mp (fun h => hn (Or.inl h)), Int.not_lt.mp (fun h => hn (Or.inr h))⟩, hL⟩
theorem made_any (M : Nat) (v : Value) (n : Nat) (ps : List Pt) (c : UInt8) (nan : Nat) (w : World) (hown : w.ownsRow M 54 4 v n (flat ps)) (hsh : Shape ps) (hI : ErrInv w) :
    Calls Tryd.prog 32 #[v, .int .u8 c.toNat, .int .i64 nan] w (MadeP w ps c nan) := by
  have hn : n = ps.length := by have := hown.1; rw [flat_length] at this; omega
  have hpos : 0 < n := by rcases hsh with ⟨a0, k0, a1, k1, a2, k2, a3, k3, a4, k4, a5, k5, rfl⟩ | ⟨a0, k0, a1, k1, a2, k2, a3, k3, a4, k4, a5, k5, a6, k6, a7, k7, rfl⟩ <;> simp at hn <;> omega
  obtain ⟨-, g, cap, rfl, hg, hgl, hcap, hcells⟩ := owns_cells hown hpos
  have hlen : ∀ a1 : Nat, ∀ a0 : Nat, PSt.stamp_length.f 1 a0 a1 = some (Cal.len a0 a1) := fun a1 a0 => length_f _ _ (by omega)
  unfold MadeP madeR
  cases hL : madeL (madeH ps) 0 ps with
  | some x =>
    simp only []
    rcases hsh with ⟨a0, k0, a1, k1, a2, k2, a3, k3, a4, k4, a5, k5, rfl⟩ | ⟨a0, k0, a1, k1, a2, k2, a3, k3, a4, k4, a5, k5, a6, k6, a7, k7, rfl⟩
    · exact made_bad g cap n M _ c nan _ _ _ 1 w hgl hn (by simp at hn; omega) (by simp at hn; omega) hcap hcells rfl rfl (hlen _ _) hI x hL
    · exact made_bad g cap n M _ c nan _ _ _ 1 w hgl hn (by simp at hn; omega) (by simp at hn; omega) hcap hcells rfl rfl (hlen _ _) hI x hL
  | none =>
    simp only []
    rcases hsh with ⟨a0, k0, a1, k1, a2, k2, a3, k3, a4, k4, a5, k5, rfl⟩ | ⟨a0, k0, a1, k1, a2, k2, a3, k3, a4, k4, a5, k5, a6, k6, a7, k7, rfl⟩
    · obtain rfl : n = 6 := by simpa using hn
      have b0 : (a0 : Int) ≤ 9999 ∧ 1 ≤ (a1 : Int) ∧ (a1 : Int) ≤ 12 ∧ (a2 : Int) ≤ 9999 ∧ a3 ≤ 9999 ∧ a4 ≤ 9999 ∧ a5 ≤ 9999 := by
        have hll := (Cal.len_le (a0 : Int) (a1 : Int))
        obtain ⟨q0, r0⟩ := madeL_cons hL
        obtain ⟨q1, r1⟩ := madeL_cons r0
        obtain ⟨q2, r2⟩ := madeL_cons r1
        obtain ⟨q3, r3⟩ := madeL_cons r2
        obtain ⟨q4, r4⟩ := madeL_cons r3
        obtain ⟨q5, r5⟩ := madeL_cons r4
        simp [madeH] at q0 q1 q2 q3 q4 q5
        omega
      obtain ⟨u0, ua, ub, u2, u3, u4, u5⟩ := b0
      have hd := days_f a0 a1 a2 (by omega) (by omega) (by omega) (by omega) (by omega) (by omega)
      obtain ⟨d1, d2⟩ := days_bd a0 a1 a2 (by omega) (by omega) (by omega) (by omega) (by omega) (by omega)
      rcases check_cases (madeT [⟨a0, k0, 0, 9999⟩, ⟨a1, k1, 1, 12⟩, ⟨a2, k2, 1, 31⟩, ⟨a3, k3, 0, 23⟩, ⟨a4, k4, 0, 59⟩, ⟨a5, k5, 0, 59⟩] c) nan with hk | hk
      · rw [hk]
        refine Calls.mono (made_six_good g cap _ c nan _ _ _ _ _ _ _ 1 w rfl hcap hcells (hlen _ _) hI hL _ hd d1 d2 u3 u4 u5 _ rfl hk) ?_
        rintro e w' ⟨rfl, hb⟩
        exact ⟨_, rfl, rfl, hb⟩
      · rw [hk]
        exact made_six_bad g cap _ c nan _ _ _ _ _ _ _ 1 w rfl hcap hcells (hlen _ _) hI hL _ hd d1 d2 u3 u4 u5 _ rfl hk
    · obtain rfl : n = 8 := by simpa using hn
      have b0 : (a0 : Int) ≤ 9999 ∧ 1 ≤ (a1 : Int) ∧ (a1 : Int) ≤ 12 ∧ (a2 : Int) ≤ 9999 ∧ a3 ≤ 9999 ∧ a4 ≤ 9999 ∧ a5 ≤ 9999 ∧ a6 ≤ 9999 ∧ a7 ≤ 9999 := by
        have hll := (Cal.len_le (a0 : Int) (a1 : Int))
        obtain ⟨q0, r0⟩ := madeL_cons hL
        obtain ⟨q1, r1⟩ := madeL_cons r0
        obtain ⟨q2, r2⟩ := madeL_cons r1
        obtain ⟨q3, r3⟩ := madeL_cons r2
        obtain ⟨q4, r4⟩ := madeL_cons r3
        obtain ⟨q5, r5⟩ := madeL_cons r4
        obtain ⟨q6, r6⟩ := madeL_cons r5
        obtain ⟨q7, r7⟩ := madeL_cons r6
        simp [madeH] at q0 q1 q2 q3 q4 q5 q6 q7
        omega
      obtain ⟨u0, ua, ub, u2, u3, u4, u5, u6, u7⟩ := b0
      have hd := days_f a0 a1 a2 (by omega) (by omega) (by omega) (by omega) (by omega) (by omega)
      obtain ⟨d1, d2⟩ := days_bd a0 a1 a2 (by omega) (by omega) (by omega) (by omega) (by omega) (by omega)
      by_cases hc : c.toNat = 45
      · have hsg : (c.toNat : Int) = 45 := by omega
        have hT : madeT [⟨a0, k0, 0, 9999⟩, ⟨a1, k1, 1, 12⟩, ⟨a2, k2, 1, 31⟩, ⟨a3, k3, 0, 23⟩, ⟨a4, k4, 0, 59⟩, ⟨a5, k5, 0, 59⟩, ⟨a6, k6, 0, 23⟩, ⟨a7, k7, 0, 59⟩] c = _ := if_pos hc
        rcases check_cases (madeT [⟨a0, k0, 0, 9999⟩, ⟨a1, k1, 1, 12⟩, ⟨a2, k2, 1, 31⟩, ⟨a3, k3, 0, 23⟩, ⟨a4, k4, 0, 59⟩, ⟨a5, k5, 0, 59⟩, ⟨a6, k6, 0, 23⟩, ⟨a7, k7, 0, 59⟩] c) nan with hk | hk
        · rw [hk]
          refine Calls.mono (made_eight_neg_good g cap _ c nan _ _ _ _ _ _ _ _ _ 1 w rfl hcap hsg hcells (hlen _ _) hI hL _ hd d1 d2 u3 u4 u5 u6 u7 _ hT hk) ?_
          rintro e w' ⟨rfl, hb⟩
          exact ⟨_, rfl, rfl, hb⟩
        · rw [hk]
          exact made_eight_neg_bad g cap _ c nan _ _ _ _ _ _ _ _ _ 1 w rfl hcap hsg hcells (hlen _ _) hI hL _ hd d1 d2 u3 u4 u5 u6 u7 _ hT hk
      · have hsg : ¬ (c.toNat : Int) = 45 := by omega
        have hT : madeT [⟨a0, k0, 0, 9999⟩, ⟨a1, k1, 1, 12⟩, ⟨a2, k2, 1, 31⟩, ⟨a3, k3, 0, 23⟩, ⟨a4, k4, 0, 59⟩, ⟨a5, k5, 0, 59⟩, ⟨a6, k6, 0, 23⟩, ⟨a7, k7, 0, 59⟩] c = _ := if_neg hc
        rcases check_cases (madeT [⟨a0, k0, 0, 9999⟩, ⟨a1, k1, 1, 12⟩, ⟨a2, k2, 1, 31⟩, ⟨a3, k3, 0, 23⟩, ⟨a4, k4, 0, 59⟩, ⟨a5, k5, 0, 59⟩, ⟨a6, k6, 0, 23⟩, ⟨a7, k7, 0, 59⟩] c) nan with hk | hk
        · rw [hk]
          refine Calls.mono (made_eight_pos_good g cap _ c nan _ _ _ _ _ _ _ _ _ 1 w rfl hcap hsg hcells (hlen _ _) hI hL _ hd d1 d2 u3 u4 u5 u6 u7 _ hT hk) ?_
          rintro e w' ⟨rfl, hb⟩
          exact ⟨_, rfl, rfl, hb⟩
        · rw [hk]
          exact made_eight_pos_bad g cap _ c nan _ _ _ _ _ _ _ _ _ 1 w rfl hcap hsg hcells (hlen _ _) hI hL _ hd d1 d2 u3 u4 u5 u6 u7 _ hT hk
end Go.Proofs.YtlgdenihddkjaaaDoor
