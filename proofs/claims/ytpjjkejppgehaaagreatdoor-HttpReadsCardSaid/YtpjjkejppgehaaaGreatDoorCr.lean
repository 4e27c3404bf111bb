/- http.Check at a status out of its bounds, and at too many headers. -/
import Derived.Test.YtpjjkejppgehaaaGreatDoorCb
namespace Go.Proofs.YtpjjkejppgehaaaGreatDoor
set_option linter.unusedSimpArgs false
set_option linter.unusedVariables false
open Go.RowKit
set_option maxRecDepth 20000 in
set_option maxHeartbeats 4000000 in
/-- Of a status out of its bounds. -/
theorem check_range (st : Int) (A : Option Addr) (c : Nat) (l : HL) (b : ByteArray) (w : World) (hI : IsInv w) (h : st < 100 ∨ 999 < st) :
    Calls Tryz.prog 10 #[.agg #[.int .i64 st, .slice A l.length c, .string b]] w fun e w' => ∃ v, e = .returned v ∧ FltIs w' v (checkP st l b) ∧ Below w.heap.size w w' := by
  rw [checkP, if_pos h]
  obtain ⟨er, her, -⟩ := (hI.below ((Below.refl w.heap.size w).alloc (Nat.le_refl _) (.cells #[.int .i64 st, .slice A l.length c, .string b] 24))).sent 4 (by omega) (by omega)
  have her' : (w.alloc (.cells #[.int .i64 st, .slice A l.length c, .string b] 24)).cell? ⟨0, 0, none⟩ = some (.iface 167 (.pointer (some er))) := her
  have HER := Lib.hid her
  have HI := Lib.hid hI
  clear her hI
  rcases (by omega : st < 100 ∨ (¬ st < 100 ∧ st > 999)) with h1 | ⟨h1, h2⟩
  · clear h
    go_enter Tryz.func10, Tryz.ntmps10
    go_wp2_with (go_at_call 25; (with_reducible refine Calls.mono (fault_any _ _ _ _) ?_); rintro e w5 ⟨rfl, rfl⟩)
    go_ret
    exact ⟨_, rfl, by have F := flt_new _ 0 4 (by omega) (by omega) _ _ HER.out; rw [World.size_alloc] at F; exact F, ((Below.refl w.heap.size w).alloc (Nat.le_refl _) _).alloc (by simp) _⟩
  · clear h
    go_enter Tryz.func10, Tryz.ntmps10
    go_wp2_with (go_at_call 25; (with_reducible refine Calls.mono (fault_any _ _ _ _) ?_); rintro e w5 ⟨rfl, rfl⟩)
    go_ret
    exact ⟨_, rfl, by have F := flt_new _ 0 4 (by omega) (by omega) _ _ HER.out; rw [World.size_alloc] at F; exact F, ((Below.refl w.heap.size w).alloc (Nat.le_refl _) _).alloc (by simp) _⟩
set_option maxRecDepth 20000 in
set_option maxHeartbeats 4000000 in
/-- Of too many headers. -/
theorem check_full (st : Int) (A : Option Addr) (c : Nat) (l : HL) (b : ByteArray) (w : World) (hI : IsInv w) (h1 : 100 ≤ st) (h2 : st ≤ 999) (h3 : 64 ≤ l.length) :
    Calls Tryz.prog 10 #[.agg #[.int .i64 st, .slice A l.length c, .string b]] w fun e w' => ∃ v, e = .returned v ∧ FltIs w' v (checkP st l b) ∧ Below w.heap.size w w' := by
  rw [checkP, if_neg (by omega), if_pos h3]
  obtain ⟨er, her, -⟩ := (hI.below ((Below.refl w.heap.size w).alloc (Nat.le_refl _) (.cells #[.int .i64 st, .slice A l.length c, .string b] 24))).sent 18 (by omega) (by omega)
  have her' : (w.alloc (.cells #[.int .i64 st, .slice A l.length c, .string b] 24)).cell? ⟨1, 0, none⟩ = some (.iface 167 (.pointer (some er))) := her
  have HER := Lib.hid her
  have HI := Lib.hid hI
  clear her hI
  have n1 : ¬ st < 100 := by omega
  have n2 : ¬ st > 999 := by omega
  have n3 : (l.length : Int) ≥ 64 := by omega
  clear h1 h2 h3
  go_enter Tryz.func10, Tryz.ntmps10
  go_wp2_with (go_at_call 25; (with_reducible refine Calls.mono (fault_any _ _ _ _) ?_); rintro e w5 ⟨rfl, rfl⟩)
  go_ret
  exact ⟨_, rfl, by have F := flt_new _ 0 18 (by omega) (by omega) _ _ HER.out; rw [World.size_alloc] at F; exact F, ((Below.refl w.heap.size w).alloc (Nat.le_refl _) _).alloc (by simp) _⟩
set_option maxRecDepth 20000 in
set_option maxHeartbeats 4000000 in
/-- Of no headers. -/
theorem check_nil (st : Int) (A : Option Addr) (c : Nat) (b : ByteArray) (w : World) (hI : IsInv w) (h1 : 100 ≤ st) (h2 : st ≤ 999) (hb : b.size ≤ 9223372036854775807) :
    Calls Tryz.prog 10 #[.agg #[.int .i64 st, .slice A 0 c, .string b]] w fun e w' => ∃ v, e = .returned v ∧ FltIs w' v (checkP st [] b) ∧ Below w.heap.size w w' := by
  rw [checkP, if_neg (by omega), if_neg (by simp)]
  have hb0 : Below w.heap.size w (w.alloc (.cells #[.int .i64 st, .slice A 0 c, .string b] 24)) := (Below.refl _ _).alloc (Nat.le_refl _) _
  obtain ⟨er, her, -⟩ := (hI.below hb0).sent 3 (by omega) (by omega)
  have her' : (w.alloc (.cells #[.int .i64 st, .slice A 0 c, .string b] 24)).cell? ⟨3, 0, none⟩ = some (.iface 167 (.pointer (some er))) := her
  have HER := Lib.hid her
  have HI := Lib.hid hI
  have HB := Lib.hid hb0
  clear her hI hb0
  have n1 : ¬ st < 100 := by omega
  have n2 : ¬ st > 999 := by omega
  clear h1 h2
  go_enter Tryz.func10, Tryz.ntmps10
  go_wp2
  go_loopw [24] (fun i wr => i = .int .i64 0 ∧ wr = w.alloc (.cells #[.int .i64 st, .slice A 0 c, .string b] 24)) (fun _ _ => 0)
  case atStart => exact ⟨rfl, rfl⟩
  case round =>
    obtain ⟨rfl, rfl⟩ := hrel
    by_cases hbig : 4194304 < b.size
    · have hbig' : (b.size : Int) > 4194304 := by omega
      go_wp2_with (go_at_call 25; (with_reducible refine Calls.mono (fault_any _ _ _ _) ?_); rintro e w5 ⟨rfl, rfl⟩)
      go_ret
      exact ⟨_, rfl, by simp only [firstBad, if_pos hbig]; have F := flt_new _ 0 3 (by omega) (by omega) _ _ HER.out; rw [World.size_alloc] at F; exact F, HB.out.alloc (by simp) _⟩
    · have hbig' : ¬ (b.size : Int) > 4194304 := by omega
      go_wp2
      go_ret
      exact ⟨_, rfl, by simp only [firstBad, if_neg hbig]; rfl, HB.out⟩
end Go.Proofs.YtpjjkejppgehaaaGreatDoor
