/- What stamp.Check tells: none, or the named error number 4 at 0. -/
import Derived.Test.YtlgdenihddkjaaaDoorTake
namespace Go.Proofs.YtlgdenihddkjaaaDoor
set_option linter.unusedSimpArgs false
set_option linter.unusedVariables false
open Go.RowKit

def checkS (sec nanos : Int) : Option (Int × Nat) := if nanos < 0 ∨ nanos ≥ 1000000000 ∨ sec < -62167219200 ∨ sec > 253402300799 then some (0, 4) else none

set_option maxHeartbeats 2000000 in
theorem check_bad (sec nanos : Int) (w : World) (hI : ErrInv w) (h : nanos < 0 ∨ nanos ≥ 1000000000 ∨ sec < -62167219200 ∨ sec > 253402300799) :
    Calls Tryd.prog 16 #[.agg #[.int .i64 sec, .int .i64 nanos]] w fun e w' => ∃ v, e = .returned v ∧ FltIs w' v (some (0, 4)) ∧ Below w.heap.size w w' := by
  obtain ⟨a, he, -⟩ := hI.sent 4 (by decide)
  have he' : w.cell? ⟨0, 0, none⟩ = _ := he
  have hlt := World.block_lt_of_cell? w _ he'
  have he2 : ∀ o, (w.alloc o).cell? ⟨0, 0, none⟩ = _ := fun o => (World.cell?_alloc_lt w o ⟨0, 0, none⟩ hlt).trans he'
  have fin : ∀ o, FltIs ((w.alloc o).alloc (.cells #[.int .i64 0, .iface 145 (.pointer (some a))] 65)) (.iface 47 (.pointer (some ⟨w.heap.size + 1, 0, none⟩))) (some (0, 4)) := fun o => by
    have h3 := flt_new (w.alloc o) 0 0 4 _ (by omega) (by omega) (he2 o)
    have e : (w.alloc o).heap.size = w.heap.size + 1 := by simp
    rw [e] at h3
    exact h3
  clear hI hlt
  by_cases h1 : nanos < 0
  · go_enter Tryd.func16, Tryd.ntmps16
    go_wp2_with (go_at_call 24; refine (fault_any _ _ _ _).mono ?_; rintro e w' ⟨rfl, rfl⟩)
    go_ret
    exact ⟨_, rfl, fin _, ((Below.refl w.heap.size w).alloc (Nat.le_refl _) _).alloc (by simp) _⟩
  · by_cases h2 : nanos ≥ 1000000000
    · go_enter Tryd.func16, Tryd.ntmps16
      go_wp2_with (go_at_call 24; refine (fault_any _ _ _ _).mono ?_; rintro e w' ⟨rfl, rfl⟩)
      go_ret
      exact ⟨_, rfl, fin _, ((Below.refl w.heap.size w).alloc (Nat.le_refl _) _).alloc (by simp) _⟩
    · by_cases h3 : sec < -62167219200
      · go_enter Tryd.func16, Tryd.ntmps16
        go_wp2_with (go_at_call 24; refine (fault_any _ _ _ _).mono ?_; rintro e w' ⟨rfl, rfl⟩)
        go_ret
        exact ⟨_, rfl, fin _, ((Below.refl w.heap.size w).alloc (Nat.le_refl _) _).alloc (by simp) _⟩
      · have h4 : sec > 253402300799 := by omega
        clear h
        go_enter Tryd.func16, Tryd.ntmps16
        go_wp2_with (go_at_call 24; refine (fault_any _ _ _ _).mono ?_; rintro e w' ⟨rfl, rfl⟩)
        go_ret
        exact ⟨_, rfl, fin _, ((Below.refl w.heap.size w).alloc (Nat.le_refl _) _).alloc (by simp) _⟩

set_option maxHeartbeats 2000000 in
theorem check_good (sec nanos : Int) (w : World) (h : ¬ (nanos < 0 ∨ nanos ≥ 1000000000 ∨ sec < -62167219200 ∨ sec > 253402300799)) :
    Calls Tryd.prog 16 #[.agg #[.int .i64 sec, .int .i64 nanos]] w fun e w' => e = .returned .nilIface ∧ Below w.heap.size w w' := by
  have h1 : ¬ nanos < 0 := by omega
  have h2 : ¬ nanos ≥ 1000000000 := by omega
  have h3 : ¬ sec < -62167219200 := by omega
  have h4 : ¬ sec > 253402300799 := by omega
  clear h
  go_enter Tryd.func16, Tryd.ntmps16
  go_wp2
  go_ret
  exact ⟨rfl, (Below.refl w.heap.size w).alloc (Nat.le_refl _) _⟩

theorem check_any (sec nanos : Int) (w : World) (hI : ErrInv w) :
    Calls Tryd.prog 16 #[.agg #[.int .i64 sec, .int .i64 nanos]] w fun e w' => ∃ v, e = .returned v ∧ FltIs w' v (checkS sec nanos) ∧ Below w.heap.size w w' := by
  unfold checkS
  split
  · exact check_bad sec nanos w hI (by assumption)
  · refine (check_good sec nanos w (by assumption)).mono ?_
    rintro e w' ⟨rfl, hb⟩
    exact ⟨_, rfl, rfl, hb⟩
end Go.Proofs.YtlgdenihddkjaaaDoor
