/- eponymref16.Leap, eponymref16.Length (its table is an array), strings.TrimRight and strconv.Itoa (by the library's contracts), in the form in which the other functions are told. -/
import Derived.Test.YtlgdenihddkjaaaDoorPStx0
import Derived.Test.YtlgdenihddkjaaaDoorShelf
import Derived.Lib.AppendIntMem
namespace Go.Proofs.YtlgdenihddkjaaaDoor.PSt
set_option linter.unusedSimpArgs false
set_option linter.unusedVariables false
open Go.RowKit Go.Proofs.YtlgdenihddkjaaaDoorW.PrintWords Go.Proofs.YtlgdenihddkjaaaDoorW.PrintLast Go.Proofs.YtlgdenihddkjaaaDoorW.PrintMore

/-- What the calls want of the world in which they begin: the library's table of powers is there. -/
def GInv (w : World) : Prop := Lib.TabIs Tryd.prog w "internal/strconv.uint64pow10" .u64 Lib.pow10Tab
theorem GInv.below {w w' : World} (h : GInv w) (hb : Below w.heap.size w w') : GInv w' := Lib.tabBelow_of_tabIs h w' hb
theorem GInv.drewN {w : World} (h : GInv w) (n : Nat) : GInv (w.drewN n) := h

def strconv_Itoa.f (a0 : Int) : Option ByteArray := if -9223372036854775808 ≤ a0 ∧ a0 ≤ 9223372036854775807 then some ⟨(Lib.itoa a0).toArray⟩ else none
theorem strconv_Itoa.calls (a0 : Int) (r : ByteArray) (w : World) (hG : GInv w) (h : strconv_Itoa.f a0 = some r) :
    Calls Tryd.prog 56 #[.int .i64 a0] w fun e w' => e = .returned (.string r) ∧ Below w.heap.size w w' := by
  unfold strconv_Itoa.f at h
  split at h
  · injection h with h
    subst h
    refine (Tryd.strconv_Itoa a0 (by omega) (by omega) w hG).mono ?_
    rintro e w' ⟨rfl, k, os, rfl⟩
    exact ⟨rfl, Lib.below_grow _ w (Nat.le_refl _) k os⟩
  · cases h

def strings_TrimRight.f (a0 a1 : ByteArray) : Option ByteArray := if a1.size = 1 then (if (a1.data.toList.getD 0 0).toNat < 128 then (if a0.size ≤ 9223372036854775807 then some ⟨(Lib.trimRightB a0.data.toList (a1.data.toList.getD 0 0)).toArray⟩ else none) else none) else none
theorem strings_TrimRight.calls (a0 a1 : ByteArray) (r : ByteArray) (w : World) (h : strings_TrimRight.f a0 a1 = some r) :
    Calls Tryd.prog 41 #[.string a0, .string a1] w fun e w' => e = .returned (.string r) ∧ Drawn0 w w' := by
  unfold strings_TrimRight.f at h
  by_cases h1 : a1.size = 1
  · rw [if_pos h1] at h
    obtain ⟨c, rfl⟩ : ∃ c, a1 = ⟨#[c]⟩ := by
      obtain ⟨⟨l⟩⟩ := a1
      match l, h1 with
      | [c], _ => exact ⟨c, rfl⟩
    by_cases h2 : ((⟨#[c]⟩ : ByteArray).data.toList.getD 0 0).toNat < 128
    · rw [if_pos h2] at h
      by_cases h3 : a0.size ≤ 9223372036854775807
      · rw [if_pos h3] at h
        injection h with h
        subst h
        refine (Tryd.strings_TrimRight_one a0 c h2 w h3).mono ?_
        rintro e w' ⟨rfl, rfl⟩
        exact ⟨rfl, Drawn0.refl _⟩
      · rw [if_neg h3] at h; cases h
    · rw [if_neg h2] at h; cases h
  · rw [if_neg h1] at h; cases h

/-- Is a year a leap year? -/
def leapB (y : Int) : Bool := (y.tmod 400 == 0) || ((y.tmod 4 == 0) && !(y.tmod 100 == 0))
theorem leap_calls (y : Int) (w : World) : Calls Tryd.prog 49 #[.int .i64 y] w fun e w' => e = .returned (.bool (leapB y)) ∧ w' = w := by
  by_cases h1 : y.tmod 400 = 0
  · go_enter Tryd.func49, Tryd.ntmps49
    go_wp2
    go_ret
    exact ⟨by simp [leapB, h1], rfl⟩
  · by_cases h2 : y.tmod 4 = 0
    · go_enter Tryd.func49, Tryd.ntmps49
      go_wp2
      go_ret
      exact ⟨by simp [leapB, h1, h2]; try rfl, rfl⟩
    · go_enter Tryd.func49, Tryd.ntmps49
      go_wp2
      go_ret
      exact ⟨by simp [leapB, h1, h2], rfl⟩

/-- The table, as an array's value. -/
def tabV : Value := .agg #[.int .i64 0, .int .i64 31, .int .i64 28, .int .i64 31, .int .i64 30, .int .i64 31, .int .i64 30, .int .i64 31, .int .i64 31, .int .i64 30, .int .i64 31, .int .i64 30, .int .i64 31]
/-- How many days a month has. -/
def lenT (m : Int) : Int := if m = 2 then 28 else if m = 4 ∨ m = 6 ∨ m = 9 ∨ m = 11 then 30 else if m = 0 then 0 else 31
def eponymref16_Length.f (a0 a1 : Int) : Option Int := if a1 = 2 ∧ leapB a0 = true then some 29 else if 0 ≤ a1 ∧ a1 ≤ 12 then some (lenT a1) else none
set_option maxRecDepth 100000 in
theorem tab_at (m : Int) (h0 : 0 ≤ m) (h12 : m ≤ 12) (w : World) : (Instr.index 79 tabV (.int .i64 m)).run Tryd.prog w = .ok (.int .i64 (lenT m)) w := by
  have hm : m = 0 ∨ m = 1 ∨ m = 2 ∨ m = 3 ∨ m = 4 ∨ m = 5 ∨ m = 6 ∨ m = 7 ∨ m = 8 ∨ m = 9 ∨ m = 10 ∨ m = 11 ∨ m = 12 := by omega
  clear h0 h12
  rcases hm with rfl | rfl | rfl | rfl | rfl | rfl | rfl | rfl | rfl | rfl | rfl | rfl | rfl <;> (show _ = _; kernel_rfl)
set_option maxRecDepth 100000 in
set_option maxHeartbeats 4000000 in
theorem eponymref16_Length.calls (a0 a1 : Int) (r : Int) (w : World) (h : eponymref16_Length.f a0 a1 = some r) :
    Calls Tryd.prog 35 #[.int .i64 a0, .int .i64 a1] w fun e w' => e = .returned (.int .i64 r) ∧ Drawn0 w w' := by
  unfold eponymref16_Length.f at h
  have key : ∀ m : Int, m ≠ 2 → 0 ≤ m → m ≤ 12 → Calls Tryd.prog 35 #[.int .i64 a0, .int .i64 m] w fun e w' => e = .returned (.int .i64 (lenT m)) ∧ Drawn0 w w' := by
    intro m h2 h0 h12
    have hix := fun w => tab_at m h0 h12 w
    unfold tabV at hix
    have hm2 : ¬ m = 2 := h2
    clear h h2
    go_enter Tryd.func35, Tryd.ntmps35
    go_wp2
    go_ret
    exact ⟨rfl, Drawn0.refl _⟩
  by_cases h2 : a1 = 2
  · subst h2
    cases hl : leapB a0 with
    | true =>
      simp [hl] at h
      subst h
      have H := leap_calls a0 w
      rw [hl] at H
      go_enter Tryd.func35, Tryd.ntmps35
      go_wp2_with (go_at_call 49; refine Calls.mono H ?_; rintro e w' ⟨rfl, rfl⟩)
      go_ret
      exact ⟨rfl, Drawn0.refl _⟩
    | false =>
      simp [hl, lenT] at h
      subst h
      have hix := fun w => tab_at 2 (by omega) (by omega) w
      unfold tabV at hix
      have H := leap_calls a0 w
      rw [hl] at H
      go_enter Tryd.func35, Tryd.ntmps35
      go_wp2_with (go_at_call 49; refine Calls.mono H ?_; rintro e w' ⟨rfl, rfl⟩)
      go_ret
      exact ⟨rfl, by first | exact Drawn0.refl _ | exact ⟨⟨1, rfl⟩⟩⟩
  · rw [if_neg (fun e => h2 e.1)] at h
    split at h
    · rename_i h3
      injection h with h
      subst h
      exact key a1 h2 h3.1 h3.2
    · cases h

end Go.Proofs.YtlgdenihddkjaaaDoor.PSt
