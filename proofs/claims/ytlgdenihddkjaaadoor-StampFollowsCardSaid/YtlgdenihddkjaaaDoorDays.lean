/- What stamp.Days tells. -/
import Derived.Test.YtlgdenihddkjaaaDoorMade3
namespace Go.Proofs.YtlgdenihddkjaaaDoor
set_option linter.unusedSimpArgs false
set_option linter.unusedVariables false
open Go.RowKit

def daysE (y m d : Int) : Option (Int × Nat) :=
  if y < 0 ∨ y > 9999 then some (0, 4) else if m < 1 ∨ m > 12 then some (1, 4) else if d < 1 ∨ d > Cal.len y m then some (2, 4) else none
def daysN (y m d : Int) : Int := if daysE y m d = none then Cal.days y m d else 0

set_option maxHeartbeats 4000000 in
theorem days_bad (y m d : Int) (p : Int) (w : World) (hI : ErrInv w)
    (h : (y < 0 ∧ p = 0) ∨ (¬ y < 0 ∧ y > 9999 ∧ p = 0) ∨ (¬ y < 0 ∧ ¬ y > 9999 ∧ m < 1 ∧ p = 1) ∨ (¬ y < 0 ∧ ¬ y > 9999 ∧ ¬ m < 1 ∧ m > 12 ∧ p = 1) ∨ (¬ y < 0 ∧ ¬ y > 9999 ∧ ¬ m < 1 ∧ ¬ m > 12 ∧ d < 1 ∧ p = 2) ∨ (¬ y < 0 ∧ ¬ y > 9999 ∧ ¬ m < 1 ∧ ¬ m > 12 ∧ ¬ d < 1 ∧ d > Cal.len y m ∧ p = 2)) :
    Calls Tryd.prog 9 #[.int .i64 y, .int .i64 m, .int .i64 d] w fun e w' => ∃ v, e = .returned (.tuple #[.int .i64 0, v]) ∧ FltIs w' v (some (p, 4)) ∧ Below w.heap.size w w' := by
  obtain ⟨a, he, -⟩ := hI.sent 4 (by decide)
  have he' : w.cell? ⟨0, 0, none⟩ = _ := he
  have fin : ∀ n : Nat, FltIs ((w.drewN n).alloc (.cells #[.int .i64 p, .iface 145 (.pointer (some a))] 65)) (.iface 47 (.pointer (some ⟨w.heap.size, 0, none⟩))) (some (p, 4)) := fun n => flt_new w n p 4 _ (by omega) (by omega) he
  have bel : ∀ n : Nat, Below w.heap.size w ((w.drewN n).alloc (.cells #[.int .i64 p, .iface 145 (.pointer (some a))] 65)) := fun n => (Below.drewN (Below.refl w.heap.size w) n).alloc (Nat.le_refl _) _
  have F := (show Hid _ from fin)
  have B := (show Hid _ from bel)
  clear hI he fin bel
  rcases h with ⟨h1, rfl⟩ | ⟨h1, h2, rfl⟩ | ⟨h1, h2, h3, rfl⟩ | ⟨h1, h2, h3, h4, rfl⟩ | ⟨h1, h2, h3, h4, h5, rfl⟩ | ⟨h1, h2, h3, h4, h5, h6, rfl⟩
  · go_enter Tryd.func9, Tryd.ntmps9
    go_wp2_with (go_at_call 24; refine (fault_any _ _ _ _).mono ?_; rintro e w' ⟨rfl, rfl⟩)
    go_ret2
    exact ⟨_, rfl, F.out 0, B.out 0⟩
  · go_enter Tryd.func9, Tryd.ntmps9
    go_wp2_with (go_at_call 24; refine (fault_any _ _ _ _).mono ?_; rintro e w' ⟨rfl, rfl⟩)
    go_ret2
    exact ⟨_, rfl, F.out 0, B.out 0⟩
  · go_enter Tryd.func9, Tryd.ntmps9
    go_wp2_with (go_at_call 24; refine (fault_any _ _ _ _).mono ?_; rintro e w' ⟨rfl, rfl⟩)
    go_ret2
    exact ⟨_, rfl, F.out 0, B.out 0⟩
  · go_enter Tryd.func9, Tryd.ntmps9
    go_wp2_with (go_at_call 24; refine (fault_any _ _ _ _).mono ?_; rintro e w' ⟨rfl, rfl⟩)
    go_ret2
    exact ⟨_, rfl, F.out 0, B.out 0⟩
  · go_enter Tryd.func9, Tryd.ntmps9
    go_wp2_with (go_at_call 24; refine (fault_any _ _ _ _).mono ?_; rintro e w' ⟨rfl, rfl⟩)
    go_ret2
    exact ⟨_, rfl, F.out 0, B.out 0⟩
  · have hl := (show Hid _ from length_f y m (by omega))
    go_enter Tryd.func9, Tryd.ntmps9
    go_wp2_with (first
      | (go_at_call 25; have C := PSt.stamp_length.calls 1 y m _ w hl.out; refine Calls.mono C ?_; clear C; rintro e w1 ⟨rfl, ⟨nd, rfl⟩⟩)
      | (go_at_call 24; refine (fault_any _ _ _ _).mono ?_; rintro e w' ⟨rfl, rfl⟩))
    go_ret2
    exact ⟨_, rfl, F.out nd, B.out nd⟩

set_option maxHeartbeats 4000000 in
theorem days_good (y m d : Int) (w : World) (h1 : ¬ y < 0) (h2 : ¬ y > 9999) (h3 : ¬ m < 1) (h4 : ¬ m > 12) (h5 : ¬ d < 1) (h6 : ¬ d > Cal.len y m) :
    Calls Tryd.prog 9 #[.int .i64 y, .int .i64 m, .int .i64 d] w fun e w' => e = .returned (.tuple #[.int .i64 (Cal.days y m d), .nilIface]) ∧ Below w.heap.size w w' := by
  have hl := (show Hid _ from length_f y m (by omega))
  have hd := (show Hid _ from days_f y m d (by omega) (by omega) (by omega) (by omega) (by omega) (by have := Cal.len_le y m; omega))
  go_enter Tryd.func9, Tryd.ntmps9
  go_wp2_with (first
    | (go_at_call 25; have C := PSt.stamp_length.calls 1 y m _ w hl.out; refine Calls.mono C ?_; clear C; rintro e w1 ⟨rfl, ⟨nd, rfl⟩⟩)
    | (go_at_call 26; have C := PSt.stamp_days.calls y m d _ (w.drewN nd) hd.out; refine Calls.mono C ?_; clear C; rintro e w1 ⟨rfl, ⟨nd2, rfl⟩⟩))
  go_ret2
  exact ⟨rfl, Below.drewN (Below.refl _ _) _⟩

theorem days_any (y m d : Int) (w : World) (hI : ErrInv w) :
    Calls Tryd.prog 9 #[.int .i64 y, .int .i64 m, .int .i64 d] w fun e w' => ∃ v, e = .returned (.tuple #[.int .i64 (daysN y m d), v]) ∧ FltIs w' v (daysE y m d) ∧ Below w.heap.size w w' := by
  have bad : ∀ p, daysE y m d = some (p, 4) → ((y < 0 ∧ p = 0) ∨ (¬ y < 0 ∧ y > 9999 ∧ p = 0) ∨ (¬ y < 0 ∧ ¬ y > 9999 ∧ m < 1 ∧ p = 1) ∨ (¬ y < 0 ∧ ¬ y > 9999 ∧ ¬ m < 1 ∧ m > 12 ∧ p = 1) ∨ (¬ y < 0 ∧ ¬ y > 9999 ∧ ¬ m < 1 ∧ ¬ m > 12 ∧ d < 1 ∧ p = 2) ∨ (¬ y < 0 ∧ ¬ y > 9999 ∧ ¬ m < 1 ∧ ¬ m > 12 ∧ ¬ d < 1 ∧ d > Cal.len y m ∧ p = 2)) →
      Calls Tryd.prog 9 #[.int .i64 y, .int .i64 m, .int .i64 d] w fun e w' => ∃ v, e = .returned (.tuple #[.int .i64 (daysN y m d), v]) ∧ FltIs w' v (daysE y m d) ∧ Below w.heap.size w w' := fun p hp h => by
    have hN : daysN y m d = 0 := by unfold daysN; rw [hp]; simp
    rw [hN, hp]
    exact days_bad y m d p w hI h
  by_cases h1 : y < 0 ∨ y > 9999
  · exact bad 0 (by unfold daysE; rw [if_pos h1]) (by omega)
  · by_cases h2 : m < 1 ∨ m > 12
    · exact bad 1 (by unfold daysE; rw [if_neg h1, if_pos h2]) (by omega)
    · by_cases h3 : d < 1 ∨ d > Cal.len y m
      · exact bad 2 (by unfold daysE; rw [if_neg h1, if_neg h2, if_pos h3]) (by omega)
      · have hE : daysE y m d = none := by unfold daysE; rw [if_neg h1, if_neg h2, if_neg h3]
        have hN : daysN y m d = Cal.days y m d := by unfold daysN; rw [if_pos hE]
        rw [hN, hE]
        refine Calls.mono (days_good y m d w (by omega) (by omega) (by omega) (by omega) (by omega) (by omega)) ?_
        rintro e w' ⟨rfl, hb⟩
        exact ⟨_, rfl, rfl, hb⟩
end Go.Proofs.YtlgdenihddkjaaaDoor
