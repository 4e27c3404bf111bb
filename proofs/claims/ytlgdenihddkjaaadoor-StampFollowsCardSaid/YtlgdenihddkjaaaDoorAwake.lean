/- What the document tells is told: awake. -/
import Derived.Test.YtlgdenihddkjaaaDoorParse3
import Derived.Test.YtlgdenihddkjaaaDoorText
import Derived.Test.YtlgdenihddkjaaaDoorDays
namespace Go.Proofs.YtlgdenihddkjaaaDoor
set_option linter.unusedSimpArgs false
set_option linter.unusedVariables false
open Go.RowKit

def s0 : ByteArray := ⟨#[49, 57, 55, 48, 45, 48, 49, 45, 48, 50, 84, 48, 49, 58, 48, 48, 58, 48, 48, 43, 48, 49, 58, 48, 48]⟩
theorem s0_parse : parseR s0 = (86400, 0, none) := by kernel_rfl
theorem s0_parted : PSt.stamp_parted.f 10 86400 0 = some (1, ⟨#[48, 48, 58, 48, 48, 58, 48, 48]⟩) := by kernel_rfl
theorem s0_civil : PSt.stamp_Civil.f 1 = some (1970, 1, 2) := by kernel_rfl
theorem s0_y : PSt.stamp_digits.f 10 1970 4 = some ⟨#[49, 57, 55, 48]⟩ := by kernel_rfl
theorem s0_m : PSt.stamp_digits.f 10 1 2 = some ⟨#[48, 49]⟩ := by kernel_rfl
theorem s0_d : PSt.stamp_digits.f 10 2 2 = some ⟨#[48, 50]⟩ := by kernel_rfl
def s1 : ByteArray := ⟨#[49, 57, 55, 48, 45, 48, 49, 45, 48, 50, 84, 48, 48, 58, 48, 48, 58, 48, 48, 90]⟩

theorem awake_text (w : World) (hG : PSt.GInv w) : Calls Tryd.prog 13 #[.agg #[.int .i64 86400, .int .i64 0]] w fun e w' => e = .returned (.string s1) ∧ Below w.heap.size w w' :=
  text_whole 10 86400 0 1 1970 1 2 _ _ _ _ w hG (by kernel_rfl) rfl s0_parted s0_civil s0_y s0_m s0_d (by decide) (by decide) (by decide) (by decide)

theorem awake_parse (w : World) (hI : ErrInv w) : Calls Tryd.prog 10 #[.string s0] w fun e w' => e = .returned (.tuple #[.agg #[.int .i64 86400, .int .i64 0], .nilIface]) ∧ Below w.heap.size w w' := by
  refine Calls.mono (parse_any s0 w (by decide) hI) ?_
  intro e w' h
  unfold ParseP at h
  rw [s0_parse] at h
  obtain ⟨v, rfl, hf, hb⟩ := h
  have hv : v = .nilIface := hf
  subst hv
  exact ⟨rfl, hb⟩

set_option maxHeartbeats 4000000 in
theorem awake_any (w : World) (hI : ErrInv w) (hG : PSt.GInv w) : Calls Tryd.prog 7 #[] w fun e w' => e = .returned (.bool true) ∧ Below w.heap.size w w' := by
  have H1 := (show Hid _ from awake_parse w hI)
  have H2 : Hid (∀ w1, Below w.heap.size w w1 → Calls Tryd.prog 13 #[.agg #[.int .i64 86400, .int .i64 0]] w1 fun e w' => e = .returned (.string s1) ∧ Below w1.heap.size w1 w') := fun w1 hb => awake_text w1 (PSt.GInv.below hG hb)
  clear hI hG
  unfold s0 at H1
  unfold s1 at H2
  go_enter Tryd.func7, Tryd.ntmps7
  go_wp2_with (first
    | (go_at_call 10; have C := H1.out; refine Calls.mono C ?_; clear C; rintro e w1 ⟨rfl, hb1⟩; have HB1 := (show Hid _ from hb1); clear hb1)
    | (go_at_call 13; have C := H2.out (w1.alloc (.cells #[.int .i64 86400, .int .i64 0] 31)) (HB1.out.alloc HB1.out.size _); refine Calls.mono C ?_; clear C; rintro e w2 ⟨rfl, hb2⟩; have HB2 := (show Hid _ from below_to (HB1.out.alloc HB1.out.size (.cells #[.int .i64 86400, .int .i64 0] 31)) hb2); clear hb2))
  go_ret
  exact ⟨by first | rfl | simp, HB2.out⟩
end Go.Proofs.YtlgdenihddkjaaaDoor
