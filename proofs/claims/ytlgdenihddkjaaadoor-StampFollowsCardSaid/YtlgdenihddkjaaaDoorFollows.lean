/- A day's number leads to it; the next one is the next day, by the calendar. -/
import Derived.Test.YtlgdenihddkjaaaDoorAwake
import Derived.Test.YtlgdenihddkjaaaDoorCivil
namespace Go.Proofs.YtlgdenihddkjaaaDoor
set_option linter.unusedSimpArgs false
set_option linter.unusedVariables false
open Go.RowKit

theorem civil_any (n y m d : Int) (h : Cal.civil n = (y, m, d)) (w : World) : Calls Tryd.prog 8 #[.int .i64 n] w fun e w' => e = .returned (.tuple #[.int .i64 y, .int .i64 m, .int .i64 d]) ∧ Below w.heap.size w w' :=
  PSt.stamp_Civil.calls n y m d w (by rw [civil_f, h])

set_option maxHeartbeats 4000000 in
theorem follows_out (n : Int) (w : World) (hI : ErrInv w) (hG : PSt.GInv w) (h : n < -719528 ∨ (¬ n < -719528 ∧ n ≥ 2932896)) : Calls Tryd.prog 3 #[.int .i64 n] w fun e w' => e = .returned (.bool true) ∧ Below w.heap.size w w' := by
  have H1 := (show Hid _ from awake_any w hI hG)
  clear hI hG
  rcases h with h | ⟨h, h'⟩
  · go_enter Tryd.func3, Tryd.ntmps3
    go_wp2_with (go_at_call 7; have C := H1.out; refine Calls.mono C ?_; clear C; rintro e w1 ⟨rfl, hb⟩)
    go_ret
    exact ⟨rfl, hb⟩
  · go_enter Tryd.func3, Tryd.ntmps3
    go_wp2_with (go_at_call 7; have C := H1.out; refine Calls.mono C ?_; clear C; rintro e w1 ⟨rfl, hb⟩)
    go_ret
    exact ⟨rfl, hb⟩

set_option maxHeartbeats 4000000 in
theorem follows_same (n y m d : Int) (w : World) (hI : ErrInv w) (hG : PSt.GInv w) (h1 : ¬ n < -719528) (h2 : ¬ n ≥ 2932896) (hc : Cal.civil n = (y, m, d)) (g : Cal.good y m d) (hd : Cal.days y m d = n) (hc2 : Cal.civil (n + 1) = (y, m, d + 1)) (hl : d ≤ 31) (hl0 : 1 ≤ d) :
    Calls Tryd.prog 3 #[.int .i64 n] w fun e w' => e = .returned (.bool true) ∧ Below w.heap.size w w' := by
  have H1 := (show Hid _ from awake_any w hI hG)
  have HC := (show Hid _ from hc)
  have HC2 := (show Hid _ from hc2)
  have HD : Hid (∀ w1, Calls Tryd.prog 9 #[.int .i64 y, .int .i64 m, .int .i64 d] w1 fun e w' => e = .returned (.tuple #[.int .i64 n, .nilIface]) ∧ Below w1.heap.size w1 w') := fun w1 => by
    obtain ⟨g1, g2, g3, g4, g5, g6⟩ := g
    have := days_good y m d w1 (by omega) (by omega) (by omega) (by omega) (by omega) (by omega)
    rw [hd] at this
    exact this
  clear hI hG hc hc2 hd g
  go_enter Tryd.func3, Tryd.ntmps3
  go_wp2_with (first
    | (go_at_call 8; have C := civil_any (n + 1) y m (d + 1) HC2.out w3; refine Calls.mono C ?_; clear C; rintro e w4 ⟨rfl, hb⟩; have HB4 := (show Hid _ from below_to HB3.out hb); clear hb HB3)
    | (go_at_call 9; have HB2' := HB2; clear HB2'; have C := HD.out w2; refine Calls.mono C ?_; clear C; rintro e w3 ⟨rfl, hb⟩; have HB3 := (show Hid _ from below_to HB2.out hb); clear hb HB2)
    | (go_at_call 8; have HB1' := HB1; clear HB1'; have C := civil_any n y m d HC.out w1; refine Calls.mono C ?_; clear C; rintro e w2 ⟨rfl, hb⟩; have HB2 := (show Hid _ from below_to HB1.out hb); clear hb HB1)
    | (go_at_call 7; have C := H1.out; refine Calls.mono C ?_; clear C; rintro e w1 ⟨rfl, hb⟩; have HB1 := (show Hid _ from hb); clear hb))
  go_ret
  exact ⟨by simp, HB4.out⟩

set_option maxHeartbeats 4000000 in
theorem follows_next (n y m d y2 m2 : Int) (w : World) (hI : ErrInv w) (hG : PSt.GInv w) (h1 : ¬ n < -719528) (h2 : ¬ n ≥ 2932896) (hc : Cal.civil n = (y, m, d)) (g : Cal.good y m d) (hd : Cal.days y m d = n) (hc2 : Cal.civil (n + 1) = (y2, m2, 1)) (hl : d ≤ 31) (hd1 : 1 ≤ d) (hl0 : ¬ (1 : Int) = d + 1) (hm0 : 1 ≤ m) (hm1 : m ≤ 12) (hy0 : 0 ≤ y) (hy1 : y ≤ 9999) (hbig : d + 1 > Cal.len y m)
    (h3 : (m2 = m + 1 ∧ y2 = y) ∨ (¬ m2 = m + 1 ∧ m = 12 ∧ m2 = 1 ∧ y2 = y + 1)) :
    Calls Tryd.prog 3 #[.int .i64 n] w fun e w' => e = .returned (.bool true) ∧ Below w.heap.size w w' := by
  have H1 := (show Hid _ from awake_any w hI hG)
  have HC := (show Hid _ from hc)
  have HC2 := (show Hid _ from hc2)
  have HI := (show Hid _ from hI)
  have HD : Hid (∀ w1, Calls Tryd.prog 9 #[.int .i64 y, .int .i64 m, .int .i64 d] w1 fun e w' => e = .returned (.tuple #[.int .i64 n, .nilIface]) ∧ Below w1.heap.size w1 w') := fun w1 => by
    obtain ⟨g1, g2, g3, g4, g5, g6⟩ := g
    have := days_good y m d w1 (by omega) (by omega) (by omega) (by omega) (by omega) (by omega)
    rw [hd] at this
    exact this
  have HE : Hid (∀ w1, ErrInv w1 → Calls Tryd.prog 9 #[.int .i64 y, .int .i64 m, .int .i64 (d + 1)] w1 fun e w' => ∃ g, e = .returned (.tuple #[.int .i64 0, .iface 47 (.pointer (some g))]) ∧ Below w1.heap.size w1 w') := fun w1 hI1 => by
    obtain ⟨g1, g2, g3, g4, g5, g6⟩ := g
    refine Calls.mono (days_bad y m (d + 1) 2 w1 hI1 (by omega)) ?_
    rintro e w' ⟨v, rfl, hf, hb⟩
    obtain ⟨_, _, gf, sf, rfl, _, _⟩ := hf
    exact ⟨_, rfl, hb⟩
  clear hI hG hc hc2 hd g hbig
  rcases h3 with ⟨rfl, rfl⟩ | ⟨h3, rfl, rfl, rfl⟩
  all_goals
    go_enter Tryd.func3, Tryd.ntmps3
    go_wp2_with (first
      | (go_at_call 9; (have C := HE.out w4 (ErrInv.below HI.out HB4.out); refine Calls.mono C ?_; clear C; rintro e w5 ⟨gg, rfl, hb⟩; have HB5 := (show Hid _ from below_to HB4.out hb); clear hb HB4))
      | (go_at_call 8; have C := civil_any (n + 1) _ _ 1 HC2.out w3; refine Calls.mono C ?_; clear C; rintro e w4 ⟨rfl, hb⟩; have HB4 := (show Hid _ from below_to HB3.out hb); clear hb HB3)
      | (go_at_call 9; have HB2' := HB2; clear HB2'; have C := HD.out w2; refine Calls.mono C ?_; clear C; rintro e w3 ⟨rfl, hb⟩; have HB3 := (show Hid _ from below_to HB2.out hb); clear hb HB2)
      | (go_at_call 8; have HB1' := HB1; clear HB1'; have C := civil_any n _ _ d HC.out w1; refine Calls.mono C ?_; clear C; rintro e w2 ⟨rfl, hb⟩; have HB2 := (show Hid _ from below_to HB1.out hb); clear hb HB1)
      | (go_at_call 7; have C := H1.out; refine Calls.mono C ?_; clear C; rintro e w1 ⟨rfl, hb⟩; have HB1 := (show Hid _ from hb); clear hb))
    go_ret
    exact ⟨by simp, HB5.out⟩

/-- The law. -/
theorem follows_any (n : Int) (w : World) (hI : ErrInv w) (hG : PSt.GInv w) : Calls Tryd.prog 3 #[.int .i64 n] w fun e w' => e = .returned (.bool true) ∧ Below w.heap.size w w' := by
  by_cases h1 : n < -719528
  · exact follows_out n w hI hG (Or.inl h1)
  · by_cases h2 : n ≥ 2932896
    · exact follows_out n w hI hG (Or.inr ⟨h1, h2⟩)
    · obtain ⟨y, m, d, hc, g, hd⟩ := Cal.civil_is n
      have hcl : Cal.clamp n = n := by unfold Cal.clamp; omega
      rw [hcl] at hd
      have g' := g
      obtain ⟨g1, g2, g3, g4, g5, g6⟩ := g
      have hll := Cal.len_le y m
      have e1 := Cal.days_eq y m d g3 g4
      by_cases hlast : d + 1 ≤ Cal.len y m
      · have gn : Cal.good y m (d + 1) := ⟨g1, g2, g3, g4, by omega, hlast⟩
        have hn : Cal.days y m (d + 1) = n + 1 := by have e2 := Cal.days_eq y m (d + 1) g3 g4; omega
        have hc2 := Cal.civil_days gn
        rw [hn] at hc2
        exact follows_same n y m d w hI hG h1 h2 hc g' hd hc2 (by omega) g5
      · have hde : d = Cal.len y m := by omega
        by_cases hm : m = 12
        · have hlen : Cal.len y m = 31 := by rw [hm]; simp [Cal.len]
          have hy : y ≤ 9998 := by
            by_cases h : y < 9999
            · omega
            · have : y = 9999 := by omega
              subst this; subst hm
              rw [hde, hlen] at hd
              have : Cal.days 9999 12 31 = 2932896 := by decide
              omega
          have hl1 : Cal.len (y + 1) 1 = 31 := by simp [Cal.len]
          have gn : Cal.good (y + 1) 1 1 := ⟨by omega, by omega, by omega, by omega, by omega, by omega⟩
          have hn : Cal.days (y + 1) 1 1 = n + 1 := by
            have e2 := Cal.days_eq (y + 1) 1 1 (by omega) (by omega)
            have e3 := Cal.yr_succ y
            have e4 : Cal.cumT (y + 1) 1 = 0 := by simp [Cal.cumT]
            have e5 := Cal.cumT_succ y m g3 g4
            have e6 := Cal.cumT_13 y
            rw [hm] at e5 e1
            have e7 : Cal.cumT y (12 + 1) = Cal.cumT y 13 := rfl
            subst hm
            omega
          have hc2 := Cal.civil_days gn
          rw [hn] at hc2
          exact follows_next n y m d (y + 1) 1 w hI hG h1 h2 hc g' hd hc2 (by omega) g5 (by omega) g3 g4 g1 g2 (by omega) (Or.inr ⟨by omega, hm, rfl, rfl⟩)
        · have hl1 := Cal.len_le y (m + 1)
          have gn : Cal.good y (m + 1) 1 := ⟨g1, g2, by omega, by omega, by omega, by omega⟩
          have hn : Cal.days y (m + 1) 1 = n + 1 := by
            have e2 := Cal.days_eq y (m + 1) 1 (by omega) (by omega)
            have e5 := Cal.cumT_succ y m g3 g4
            omega
          have hc2 := Cal.civil_days gn
          rw [hn] at hc2
          exact follows_next n y m d y (m + 1) w hI hG h1 h2 hc g' hd hc2 (by omega) g5 (by omega) g3 g4 g1 g2 (by omega) (Or.inl ⟨rfl, rfl⟩)
end Go.Proofs.YtlgdenihddkjaaaDoor
