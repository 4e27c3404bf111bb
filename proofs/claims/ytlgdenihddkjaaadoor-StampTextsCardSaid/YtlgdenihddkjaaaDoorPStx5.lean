-- Printed by a program of this claim's author (wip/tools), out of the translation. Not trusted: Lean checks it.
import Derived.Test.YtlgdenihddkjaaaDoorPStx0
import Derived.Test.YtlgdenihddkjaaaDoorPStx4
import Derived.Test.YtlgdenihddkjaaaDoorExt
namespace Go.Proofs.YtlgdenihddkjaaaDoor.PSt
open Go.RowKit Go.Proofs.YtlgdenihddkjaaaDoorW.PrintWords Go.Proofs.YtlgdenihddkjaaaDoorW.PrintLast Go.Proofs.YtlgdenihddkjaaaDoorW.PrintMore
attribute [local go_sem] max2_int min2_int max_two min_two max_three min_three max_four min_four   -- for this text's walks alone
set_option linter.unusedVariables false
set_option linter.unusedSimpArgs false

/-! ### eponymref16_Text: function 17 -/
def eponymref16_Text.l0 : Nat → ByteArray → ByteArray → Option (ByteArray)
  | 0, _, _ => none
  | k + 1, x8, x9 => if 0 ≤ (wrap64 ((x9.size : Int) - 1)) then (if (wrap64 ((x9.size : Int) - 1)) < (x9.size : Int) then (if (bt x9 (wrap64 ((x9.size : Int) - 1))) = 48 then (if (wrap64 ((x9.size : Int) - 1)) ≤ (x9.size : Int) then (eponymref16_Text.l0 k x8 (x9.extract 0 ((wrap64 ((x9.size : Int) - 1)) : Int).toNat)) else (none)) else (if x8.size + 1 ≤ 9223372036854775807 then (if (x8 ++ (⟨#[46]⟩ : ByteArray)).size + x9.size ≤ 9223372036854775807 then (if ((x8 ++ (⟨#[46]⟩ : ByteArray)) ++ x9).size + 1 ≤ 9223372036854775807 then (some (((x8 ++ (⟨#[46]⟩ : ByteArray)) ++ x9) ++ (⟨#[90]⟩ : ByteArray))) else (none)) else (none)) else (none))) else (none)) else (none)
def eponymref16_Text.f (k : Nat) (a0_0 : Int) (a0_1 : Int) : Option (ByteArray) := (eponymref16_cut.f a0_0 a0_1).bind fun bt169 => ((eponymref16_Civil.f k bt169.1).bind fun bt171 => ((eponymref16_digits.f k bt171.1 4).bind fun t174 => (if t174.size + 1 ≤ 9223372036854775807 then ((eponymref16_digits.f k bt171.2.1 2).bind fun t175 => (if (t174 ++ (⟨#[45]⟩ : ByteArray)).size + t175.size ≤ 9223372036854775807 then (if ((t174 ++ (⟨#[45]⟩ : ByteArray)) ++ t175).size + 1 ≤ 9223372036854775807 then ((eponymref16_digits.f k bt171.2.2 2).bind fun t176 => (if (((t174 ++ (⟨#[45]⟩ : ByteArray)) ++ t175) ++ (⟨#[45]⟩ : ByteArray)).size + t176.size ≤ 9223372036854775807 then (if ((((t174 ++ (⟨#[45]⟩ : ByteArray)) ++ t175) ++ (⟨#[45]⟩ : ByteArray)) ++ t176).size + 1 ≤ 9223372036854775807 then ((eponymref16_clock.f k bt169.2).bind fun t177 => (if (((((t174 ++ (⟨#[45]⟩ : ByteArray)) ++ t175) ++ (⟨#[45]⟩ : ByteArray)) ++ t176) ++ (⟨#[84]⟩ : ByteArray)).size + t177.size ≤ 9223372036854775807 then (if a0_1 > 0 then ((eponymref16_digits.f k a0_1 9).bind fun t178 => (eponymref16_Text.l0 k ((((((t174 ++ (⟨#[45]⟩ : ByteArray)) ++ t175) ++ (⟨#[45]⟩ : ByteArray)) ++ t176) ++ (⟨#[84]⟩ : ByteArray)) ++ t177) t178)) else (if ((((((t174 ++ (⟨#[45]⟩ : ByteArray)) ++ t175) ++ (⟨#[45]⟩ : ByteArray)) ++ t176) ++ (⟨#[84]⟩ : ByteArray)) ++ t177).size + 1 ≤ 9223372036854775807 then (some (((((((t174 ++ (⟨#[45]⟩ : ByteArray)) ++ t175) ++ (⟨#[45]⟩ : ByteArray)) ++ t176) ++ (⟨#[84]⟩ : ByteArray)) ++ t177) ++ (⟨#[90]⟩ : ByteArray))) else (none))) else (none))) else (none)) else (none))) else (none)) else (none))) else (none))))
theorem eponymref16_Text.mono_l : ∀ k, (∀ y0 y1, LeO (eponymref16_Text.l0 k y0 y1) (eponymref16_Text.l0 (k + 1) y0 y1))
  | 0 => fun _ _ r h => by simp [eponymref16_Text.l0] at h
  | k + 1 => by
    have ih0 := eponymref16_Text.mono_l k
    · intro y0 y1
      unfold eponymref16_Text.l0
      repeat' first
      | (with_reducible exact ih0 _ _)
      | (with_reducible exact eponymref16_Civil.mono _ _)
      | (with_reducible exact eponymref16_clock.mono _ _)
      | (with_reducible exact eponymref16_digits.mono _ _ _)
      | (with_reducible exact LeO.refl _)
      | (with_reducible exact LeO.none _)
      | (with_reducible refine LeO.ite ?_ ?_)
      | (with_reducible refine LeO.bind ?_ (fun _ => ?_))
      | exact ih0 _ _
      | exact eponymref16_Civil.mono _ _
      | exact eponymref16_clock.mono _ _
      | exact eponymref16_digits.mono _ _ _
      | exact LeO.none _
      | refine LeO.ite ?_ ?_
      | refine LeO.bind ?_ (fun _ => ?_)
theorem eponymref16_Text.mono : ∀ a0 a1 k, LeO (eponymref16_Text.f k a0 a1) (eponymref16_Text.f (k + 1) a0 a1) := by
  intro a0 a1 k
  have ih0 := eponymref16_Text.mono_l k
  unfold eponymref16_Text.f
  repeat' first
      | (with_reducible exact ih0 _ _)
      | (with_reducible exact eponymref16_Civil.mono _ _)
      | (with_reducible exact eponymref16_clock.mono _ _)
      | (with_reducible exact eponymref16_digits.mono _ _ _)
      | (with_reducible exact LeO.refl _)
      | (with_reducible exact LeO.none _)
      | (with_reducible refine LeO.ite ?_ ?_)
      | (with_reducible refine LeO.bind ?_ (fun _ => ?_))
      | exact ih0 _ _
      | exact eponymref16_Civil.mono _ _
      | exact eponymref16_clock.mono _ _
      | exact eponymref16_digits.mono _ _ _
      | exact LeO.none _
      | refine LeO.ite ?_ ?_
      | refine LeO.bind ?_ (fun _ => ?_)
set_option maxHeartbeats 8000000 in
set_option maxRecDepth 100000 in
theorem eponymref16_Text.calls (k : Nat) (a0_0 : Int) (a0_1 : Int) (r : ByteArray) (w : World) (h : eponymref16_Text.f k a0_0 a0_1 = some r) :
    Calls Tryd.prog 17 #[.agg #[.int .i64 a0_0, .int .i64 a0_1]] w fun e w' => e = .returned (.string r) ∧ Below w.heap.size w w' := by
  have hu31 := Tryd.underlying31
  have HB := Aside0.mk (Below.refl w.heap.size w)
  have H : ((eponymref16_cut.f a0_0 a0_1).bind fun bt169 => ((eponymref16_Civil.f k bt169.1).bind fun bt171 => ((eponymref16_digits.f k bt171.1 4).bind fun t174 => (if t174.size + 1 ≤ 9223372036854775807 then ((eponymref16_digits.f k bt171.2.1 2).bind fun t175 => (if (t174 ++ (⟨#[45]⟩ : ByteArray)).size + t175.size ≤ 9223372036854775807 then (if ((t174 ++ (⟨#[45]⟩ : ByteArray)) ++ t175).size + 1 ≤ 9223372036854775807 then ((eponymref16_digits.f k bt171.2.2 2).bind fun t176 => (if (((t174 ++ (⟨#[45]⟩ : ByteArray)) ++ t175) ++ (⟨#[45]⟩ : ByteArray)).size + t176.size ≤ 9223372036854775807 then (if ((((t174 ++ (⟨#[45]⟩ : ByteArray)) ++ t175) ++ (⟨#[45]⟩ : ByteArray)) ++ t176).size + 1 ≤ 9223372036854775807 then ((eponymref16_clock.f k bt169.2).bind fun t177 => (if (((((t174 ++ (⟨#[45]⟩ : ByteArray)) ++ t175) ++ (⟨#[45]⟩ : ByteArray)) ++ t176) ++ (⟨#[84]⟩ : ByteArray)).size + t177.size ≤ 9223372036854775807 then (if a0_1 > 0 then ((eponymref16_digits.f k a0_1 9).bind fun t178 => (eponymref16_Text.l0 k ((((((t174 ++ (⟨#[45]⟩ : ByteArray)) ++ t175) ++ (⟨#[45]⟩ : ByteArray)) ++ t176) ++ (⟨#[84]⟩ : ByteArray)) ++ t177) t178)) else (if ((((((t174 ++ (⟨#[45]⟩ : ByteArray)) ++ t175) ++ (⟨#[45]⟩ : ByteArray)) ++ t176) ++ (⟨#[84]⟩ : ByteArray)) ++ t177).size + 1 ≤ 9223372036854775807 then (some (((((((t174 ++ (⟨#[45]⟩ : ByteArray)) ++ t175) ++ (⟨#[45]⟩ : ByteArray)) ++ t176) ++ (⟨#[84]⟩ : ByteArray)) ++ t177) ++ (⟨#[90]⟩ : ByteArray))) else (none))) else (none))) else (none)) else (none))) else (none)) else (none))) else (none))))) = some r := h
  clear h
  replace H := Option.bind_eq_some_iff.mp H
  obtain ⟨⟨t169, t170⟩, A20, H⟩ := H
  replace H : ((eponymref16_Civil.f k t169).bind fun bt171 => ((eponymref16_digits.f k bt171.1 4).bind fun t174 => (if t174.size + 1 ≤ 9223372036854775807 then ((eponymref16_digits.f k bt171.2.1 2).bind fun t175 => (if (t174 ++ (⟨#[45]⟩ : ByteArray)).size + t175.size ≤ 9223372036854775807 then (if ((t174 ++ (⟨#[45]⟩ : ByteArray)) ++ t175).size + 1 ≤ 9223372036854775807 then ((eponymref16_digits.f k bt171.2.2 2).bind fun t176 => (if (((t174 ++ (⟨#[45]⟩ : ByteArray)) ++ t175) ++ (⟨#[45]⟩ : ByteArray)).size + t176.size ≤ 9223372036854775807 then (if ((((t174 ++ (⟨#[45]⟩ : ByteArray)) ++ t175) ++ (⟨#[45]⟩ : ByteArray)) ++ t176).size + 1 ≤ 9223372036854775807 then ((eponymref16_clock.f k t170).bind fun t177 => (if (((((t174 ++ (⟨#[45]⟩ : ByteArray)) ++ t175) ++ (⟨#[45]⟩ : ByteArray)) ++ t176) ++ (⟨#[84]⟩ : ByteArray)).size + t177.size ≤ 9223372036854775807 then (if a0_1 > 0 then ((eponymref16_digits.f k a0_1 9).bind fun t178 => (eponymref16_Text.l0 k ((((((t174 ++ (⟨#[45]⟩ : ByteArray)) ++ t175) ++ (⟨#[45]⟩ : ByteArray)) ++ t176) ++ (⟨#[84]⟩ : ByteArray)) ++ t177) t178)) else (if ((((((t174 ++ (⟨#[45]⟩ : ByteArray)) ++ t175) ++ (⟨#[45]⟩ : ByteArray)) ++ t176) ++ (⟨#[84]⟩ : ByteArray)) ++ t177).size + 1 ≤ 9223372036854775807 then (some (((((((t174 ++ (⟨#[45]⟩ : ByteArray)) ++ t175) ++ (⟨#[45]⟩ : ByteArray)) ++ t176) ++ (⟨#[84]⟩ : ByteArray)) ++ t177) ++ (⟨#[90]⟩ : ByteArray))) else (none))) else (none))) else (none)) else (none))) else (none)) else (none))) else (none)))) = some r := H
  have A2 := Aside0.mk A20
  clear A20
  replace H := Option.bind_eq_some_iff.mp H
  obtain ⟨⟨t171, t172, t173⟩, A30, H⟩ := H
  replace H : ((eponymref16_digits.f k t171 4).bind fun t174 => (if t174.size + 1 ≤ 9223372036854775807 then ((eponymref16_digits.f k t172 2).bind fun t175 => (if (t174 ++ (⟨#[45]⟩ : ByteArray)).size + t175.size ≤ 9223372036854775807 then (if ((t174 ++ (⟨#[45]⟩ : ByteArray)) ++ t175).size + 1 ≤ 9223372036854775807 then ((eponymref16_digits.f k t173 2).bind fun t176 => (if (((t174 ++ (⟨#[45]⟩ : ByteArray)) ++ t175) ++ (⟨#[45]⟩ : ByteArray)).size + t176.size ≤ 9223372036854775807 then (if ((((t174 ++ (⟨#[45]⟩ : ByteArray)) ++ t175) ++ (⟨#[45]⟩ : ByteArray)) ++ t176).size + 1 ≤ 9223372036854775807 then ((eponymref16_clock.f k t170).bind fun t177 => (if (((((t174 ++ (⟨#[45]⟩ : ByteArray)) ++ t175) ++ (⟨#[45]⟩ : ByteArray)) ++ t176) ++ (⟨#[84]⟩ : ByteArray)).size + t177.size ≤ 9223372036854775807 then (if a0_1 > 0 then ((eponymref16_digits.f k a0_1 9).bind fun t178 => (eponymref16_Text.l0 k ((((((t174 ++ (⟨#[45]⟩ : ByteArray)) ++ t175) ++ (⟨#[45]⟩ : ByteArray)) ++ t176) ++ (⟨#[84]⟩ : ByteArray)) ++ t177) t178)) else (if ((((((t174 ++ (⟨#[45]⟩ : ByteArray)) ++ t175) ++ (⟨#[45]⟩ : ByteArray)) ++ t176) ++ (⟨#[84]⟩ : ByteArray)) ++ t177).size + 1 ≤ 9223372036854775807 then (some (((((((t174 ++ (⟨#[45]⟩ : ByteArray)) ++ t175) ++ (⟨#[45]⟩ : ByteArray)) ++ t176) ++ (⟨#[84]⟩ : ByteArray)) ++ t177) ++ (⟨#[90]⟩ : ByteArray))) else (none))) else (none))) else (none)) else (none))) else (none)) else (none))) else (none))) = some r := H
  have A3 := Aside0.mk A30
  clear A30
  replace H := Option.bind_eq_some_iff.mp H
  obtain ⟨t174, A40, H⟩ := H
  replace H : (if t174.size + 1 ≤ 9223372036854775807 then ((eponymref16_digits.f k t172 2).bind fun t175 => (if (t174 ++ (⟨#[45]⟩ : ByteArray)).size + t175.size ≤ 9223372036854775807 then (if ((t174 ++ (⟨#[45]⟩ : ByteArray)) ++ t175).size + 1 ≤ 9223372036854775807 then ((eponymref16_digits.f k t173 2).bind fun t176 => (if (((t174 ++ (⟨#[45]⟩ : ByteArray)) ++ t175) ++ (⟨#[45]⟩ : ByteArray)).size + t176.size ≤ 9223372036854775807 then (if ((((t174 ++ (⟨#[45]⟩ : ByteArray)) ++ t175) ++ (⟨#[45]⟩ : ByteArray)) ++ t176).size + 1 ≤ 9223372036854775807 then ((eponymref16_clock.f k t170).bind fun t177 => (if (((((t174 ++ (⟨#[45]⟩ : ByteArray)) ++ t175) ++ (⟨#[45]⟩ : ByteArray)) ++ t176) ++ (⟨#[84]⟩ : ByteArray)).size + t177.size ≤ 9223372036854775807 then (if a0_1 > 0 then ((eponymref16_digits.f k a0_1 9).bind fun t178 => (eponymref16_Text.l0 k ((((((t174 ++ (⟨#[45]⟩ : ByteArray)) ++ t175) ++ (⟨#[45]⟩ : ByteArray)) ++ t176) ++ (⟨#[84]⟩ : ByteArray)) ++ t177) t178)) else (if ((((((t174 ++ (⟨#[45]⟩ : ByteArray)) ++ t175) ++ (⟨#[45]⟩ : ByteArray)) ++ t176) ++ (⟨#[84]⟩ : ByteArray)) ++ t177).size + 1 ≤ 9223372036854775807 then (some (((((((t174 ++ (⟨#[45]⟩ : ByteArray)) ++ t175) ++ (⟨#[45]⟩ : ByteArray)) ++ t176) ++ (⟨#[84]⟩ : ByteArray)) ++ t177) ++ (⟨#[90]⟩ : ByteArray))) else (none))) else (none))) else (none)) else (none))) else (none)) else (none))) else (none)) = some r := H
  have A4 := Aside0.mk A40
  clear A40
  by_cases c5 : t174.size + 1 ≤ 9223372036854775807
  · rw [if_pos c5] at H
    have c5b0 := eq_true c5
    have c5b1 : decide (t174.size + 1 ≤ 9223372036854775807) = true := decide_eq_true c5
    try have c5b2 : (9223372036854775807 < t174.size + 1) = False := eq_false (Nat.not_lt.2 c5)
    replace H := Option.bind_eq_some_iff.mp H
    obtain ⟨t175, A60, H⟩ := H
    replace H : (if (t174 ++ (⟨#[45]⟩ : ByteArray)).size + t175.size ≤ 9223372036854775807 then (if ((t174 ++ (⟨#[45]⟩ : ByteArray)) ++ t175).size + 1 ≤ 9223372036854775807 then ((eponymref16_digits.f k t173 2).bind fun t176 => (if (((t174 ++ (⟨#[45]⟩ : ByteArray)) ++ t175) ++ (⟨#[45]⟩ : ByteArray)).size + t176.size ≤ 9223372036854775807 then (if ((((t174 ++ (⟨#[45]⟩ : ByteArray)) ++ t175) ++ (⟨#[45]⟩ : ByteArray)) ++ t176).size + 1 ≤ 9223372036854775807 then ((eponymref16_clock.f k t170).bind fun t177 => (if (((((t174 ++ (⟨#[45]⟩ : ByteArray)) ++ t175) ++ (⟨#[45]⟩ : ByteArray)) ++ t176) ++ (⟨#[84]⟩ : ByteArray)).size + t177.size ≤ 9223372036854775807 then (if a0_1 > 0 then ((eponymref16_digits.f k a0_1 9).bind fun t178 => (eponymref16_Text.l0 k ((((((t174 ++ (⟨#[45]⟩ : ByteArray)) ++ t175) ++ (⟨#[45]⟩ : ByteArray)) ++ t176) ++ (⟨#[84]⟩ : ByteArray)) ++ t177) t178)) else (if ((((((t174 ++ (⟨#[45]⟩ : ByteArray)) ++ t175) ++ (⟨#[45]⟩ : ByteArray)) ++ t176) ++ (⟨#[84]⟩ : ByteArray)) ++ t177).size + 1 ≤ 9223372036854775807 then (some (((((((t174 ++ (⟨#[45]⟩ : ByteArray)) ++ t175) ++ (⟨#[45]⟩ : ByteArray)) ++ t176) ++ (⟨#[84]⟩ : ByteArray)) ++ t177) ++ (⟨#[90]⟩ : ByteArray))) else (none))) else (none))) else (none)) else (none))) else (none)) else (none)) = some r := H
    have A6 := Aside0.mk A60
    clear A60
    by_cases c7 : (t174 ++ (⟨#[45]⟩ : ByteArray)).size + t175.size ≤ 9223372036854775807
    · rw [if_pos c7] at H
      have c7b0 := eq_true c7
      have c7b1 : decide ((t174 ++ (⟨#[45]⟩ : ByteArray)).size + t175.size ≤ 9223372036854775807) = true := decide_eq_true c7
      try have c7b2 : (9223372036854775807 < (t174 ++ (⟨#[45]⟩ : ByteArray)).size + t175.size) = False := eq_false (Nat.not_lt.2 c7)
      (try (have c7b3 := c7; simp only [ByteArray.size_append, show (⟨#[45]⟩ : ByteArray).size = 1 from rfl] at c7b3))
      by_cases c8 : ((t174 ++ (⟨#[45]⟩ : ByteArray)) ++ t175).size + 1 ≤ 9223372036854775807
      · rw [if_pos c8] at H
        have c8b0 := eq_true c8
        have c8b1 : decide (((t174 ++ (⟨#[45]⟩ : ByteArray)) ++ t175).size + 1 ≤ 9223372036854775807) = true := decide_eq_true c8
        try have c8b2 : (9223372036854775807 < ((t174 ++ (⟨#[45]⟩ : ByteArray)) ++ t175).size + 1) = False := eq_false (Nat.not_lt.2 c8)
        (try (have c8b3 := c8; simp only [ByteArray.size_append, show (⟨#[45]⟩ : ByteArray).size = 1 from rfl] at c8b3))
        replace H := Option.bind_eq_some_iff.mp H
        obtain ⟨t176, A90, H⟩ := H
        replace H : (if (((t174 ++ (⟨#[45]⟩ : ByteArray)) ++ t175) ++ (⟨#[45]⟩ : ByteArray)).size + t176.size ≤ 9223372036854775807 then (if ((((t174 ++ (⟨#[45]⟩ : ByteArray)) ++ t175) ++ (⟨#[45]⟩ : ByteArray)) ++ t176).size + 1 ≤ 9223372036854775807 then ((eponymref16_clock.f k t170).bind fun t177 => (if (((((t174 ++ (⟨#[45]⟩ : ByteArray)) ++ t175) ++ (⟨#[45]⟩ : ByteArray)) ++ t176) ++ (⟨#[84]⟩ : ByteArray)).size + t177.size ≤ 9223372036854775807 then (if a0_1 > 0 then ((eponymref16_digits.f k a0_1 9).bind fun t178 => (eponymref16_Text.l0 k ((((((t174 ++ (⟨#[45]⟩ : ByteArray)) ++ t175) ++ (⟨#[45]⟩ : ByteArray)) ++ t176) ++ (⟨#[84]⟩ : ByteArray)) ++ t177) t178)) else (if ((((((t174 ++ (⟨#[45]⟩ : ByteArray)) ++ t175) ++ (⟨#[45]⟩ : ByteArray)) ++ t176) ++ (⟨#[84]⟩ : ByteArray)) ++ t177).size + 1 ≤ 9223372036854775807 then (some (((((((t174 ++ (⟨#[45]⟩ : ByteArray)) ++ t175) ++ (⟨#[45]⟩ : ByteArray)) ++ t176) ++ (⟨#[84]⟩ : ByteArray)) ++ t177) ++ (⟨#[90]⟩ : ByteArray))) else (none))) else (none))) else (none)) else (none)) = some r := H
        have A9 := Aside0.mk A90
        clear A90
        by_cases c10 : (((t174 ++ (⟨#[45]⟩ : ByteArray)) ++ t175) ++ (⟨#[45]⟩ : ByteArray)).size + t176.size ≤ 9223372036854775807
        · rw [if_pos c10] at H
          have c10b0 := eq_true c10
          have c10b1 : decide ((((t174 ++ (⟨#[45]⟩ : ByteArray)) ++ t175) ++ (⟨#[45]⟩ : ByteArray)).size + t176.size ≤ 9223372036854775807) = true := decide_eq_true c10
          try have c10b2 : (9223372036854775807 < (((t174 ++ (⟨#[45]⟩ : ByteArray)) ++ t175) ++ (⟨#[45]⟩ : ByteArray)).size + t176.size) = False := eq_false (Nat.not_lt.2 c10)
          (try (have c10b3 := c10; simp only [ByteArray.size_append, show (⟨#[45]⟩ : ByteArray).size = 1 from rfl] at c10b3))
          by_cases c11 : ((((t174 ++ (⟨#[45]⟩ : ByteArray)) ++ t175) ++ (⟨#[45]⟩ : ByteArray)) ++ t176).size + 1 ≤ 9223372036854775807
          · rw [if_pos c11] at H
            have c11b0 := eq_true c11
            have c11b1 : decide (((((t174 ++ (⟨#[45]⟩ : ByteArray)) ++ t175) ++ (⟨#[45]⟩ : ByteArray)) ++ t176).size + 1 ≤ 9223372036854775807) = true := decide_eq_true c11
            try have c11b2 : (9223372036854775807 < ((((t174 ++ (⟨#[45]⟩ : ByteArray)) ++ t175) ++ (⟨#[45]⟩ : ByteArray)) ++ t176).size + 1) = False := eq_false (Nat.not_lt.2 c11)
            (try (have c11b3 := c11; simp only [ByteArray.size_append, show (⟨#[45]⟩ : ByteArray).size = 1 from rfl] at c11b3))
            replace H := Option.bind_eq_some_iff.mp H
            obtain ⟨t177, A120, H⟩ := H
            replace H : (if (((((t174 ++ (⟨#[45]⟩ : ByteArray)) ++ t175) ++ (⟨#[45]⟩ : ByteArray)) ++ t176) ++ (⟨#[84]⟩ : ByteArray)).size + t177.size ≤ 9223372036854775807 then (if a0_1 > 0 then ((eponymref16_digits.f k a0_1 9).bind fun t178 => (eponymref16_Text.l0 k ((((((t174 ++ (⟨#[45]⟩ : ByteArray)) ++ t175) ++ (⟨#[45]⟩ : ByteArray)) ++ t176) ++ (⟨#[84]⟩ : ByteArray)) ++ t177) t178)) else (if ((((((t174 ++ (⟨#[45]⟩ : ByteArray)) ++ t175) ++ (⟨#[45]⟩ : ByteArray)) ++ t176) ++ (⟨#[84]⟩ : ByteArray)) ++ t177).size + 1 ≤ 9223372036854775807 then (some (((((((t174 ++ (⟨#[45]⟩ : ByteArray)) ++ t175) ++ (⟨#[45]⟩ : ByteArray)) ++ t176) ++ (⟨#[84]⟩ : ByteArray)) ++ t177) ++ (⟨#[90]⟩ : ByteArray))) else (none))) else (none)) = some r := H
            have A12 := Aside0.mk A120
            clear A120
            by_cases c13 : (((((t174 ++ (⟨#[45]⟩ : ByteArray)) ++ t175) ++ (⟨#[45]⟩ : ByteArray)) ++ t176) ++ (⟨#[84]⟩ : ByteArray)).size + t177.size ≤ 9223372036854775807
            · rw [if_pos c13] at H
              have c13b0 := eq_true c13
              have c13b1 : decide ((((((t174 ++ (⟨#[45]⟩ : ByteArray)) ++ t175) ++ (⟨#[45]⟩ : ByteArray)) ++ t176) ++ (⟨#[84]⟩ : ByteArray)).size + t177.size ≤ 9223372036854775807) = true := decide_eq_true c13
              try have c13b2 : (9223372036854775807 < (((((t174 ++ (⟨#[45]⟩ : ByteArray)) ++ t175) ++ (⟨#[45]⟩ : ByteArray)) ++ t176) ++ (⟨#[84]⟩ : ByteArray)).size + t177.size) = False := eq_false (Nat.not_lt.2 c13)
              (try (have c13b3 := c13; simp only [ByteArray.size_append, show (⟨#[45]⟩ : ByteArray).size = 1 from rfl, show (⟨#[84]⟩ : ByteArray).size = 1 from rfl] at c13b3))
              by_cases c14 : a0_1 > 0
              · rw [if_pos c14] at H
                have c14b0 : decide (0 < a0_1) = true := decide_eq_true c14
                clear c14
                replace H := Option.bind_eq_some_iff.mp H
                obtain ⟨t178, A150, H⟩ := H
                replace H : (eponymref16_Text.l0 k ((((((t174 ++ (⟨#[45]⟩ : ByteArray)) ++ t175) ++ (⟨#[45]⟩ : ByteArray)) ++ t176) ++ (⟨#[84]⟩ : ByteArray)) ++ t177) t178) = some r := H
                have A15 := Aside0.mk A150
                clear A150
                have H' := Aside0.mk H
                clear H
                go_enter Tryd.func17, Tryd.ntmps17
                go_wp2_with (first | ((with_reducible refine gate_dst (N := 1) rfl ?_); refine box_event ?hg (N := 1) ?hd (cs := #[.int .i64 a0_0, .int .i64 a0_1]) (t := 31) ?hr ?_; (case hd => rfl); (case hg => rfl); (case hr => first | (go_simp; done) | (go_simp; rfl)); intro gb168 hg w16 hbox hb; have n0_ := Aside0.mk (below_step (by repeat (first | (with_reducible first | exact HB.out | apply below_alloc | apply pw_below_drewN | apply below_drew1) | exact HB.out)) hb); have n1_ := Aside0.mk (hbox); have n2_ := Aside0.mk ((by rw [hg]; exact (below_size (by repeat (first | (with_reducible first | exact HB.out | apply below_alloc | apply pw_below_drewN | apply below_drew1) | exact HB.out))) : w.heap.size ≤ gb168)); have n3_ := Aside0.mk ((by rw [hg]; exact (below_size (by repeat (first | (with_reducible first | exact HB.out | apply below_alloc | apply pw_below_drewN | apply below_drew1) | exact HB.out))) : w.heap.size ≤ gb168)); clear HB; have HB := n0_; have BK168 := n1_; have GW168 := n2_; have GE168 := n3_; clear n0_ n1_ n2_ n3_; clear hb hbox hg; have hcz17_0 : w16.cell? ⟨gb168, 0, none⟩ = some (.int .i64 a0_0) := (blk_cell BK168.out 0).trans rfl; have hcz17_1 : w16.cell? ⟨gb168, 1, none⟩ = some (.int .i64 a0_1) := (blk_cell BK168.out 1).trans rfl; have hfz17_0 := blk_frozen BK168.out 0; have hfz17_1 := blk_frozen BK168.out 1) | ((with_reducible refine gate_callee (f := 42) rfl ?_); refine goesL_ (some 12) rfl rfl Tryd.func42 (by kernel_rfl) rfl #[.agg #[.int .i64 a0_0, .int .i64 a0_1]] rfl (by (try simp only [List.map_toArray, List.map_cons, List.map_nil]); first | done | rfl | (simp only [List.length_drop, List.length_take]; rfl)) ?_; (with_reducible refine (eponymref16_cut.calls a0_0 a0_1 t169 t170 _ A2.out).mono ?_); rintro e w18 ⟨rfl, hb⟩; refine ⟨_, rfl, ?_⟩; have n0_ := Aside0.mk (blk_below (g := gb168) (o := .cells #[.int .i64 a0_0, .int .i64 a0_1] 31 (0, 0)) (by (with_reducible repeat (first | refine blk_drewN ?_ _ | refine blk_drew ?_ | refine blk_alloc ?_ _)); exact BK168.out) hb); have n1_ := Aside0.mk (below_step (by repeat (first | (with_reducible first | exact HB.out | apply below_alloc | apply pw_below_drewN | apply below_drew1 | refine below_set ?_ GE168.out) | exact HB.out)) hb); clear BK168; clear HB; have BK168 := n0_; have HB := n1_; clear n0_ n1_; (try clear hb); (try clear hb2); (try clear hk); (try clear hi)) | ((with_reducible refine gate_callee (f := 20) rfl ?_); refine goesL_ (some 17) rfl rfl Tryd.func20 (by kernel_rfl) rfl #[.int .i64 t169] rfl (by (try simp only [List.map_toArray, List.map_cons, List.map_nil]); first | done | rfl | (simp only [List.length_drop, List.length_take]; rfl)) ?_; (with_reducible refine (eponymref16_Civil.calls k t169 t171 t172 t173 _ A3.out).mono ?_); rintro e w' ⟨rfl, ⟨nd, rfl⟩⟩; refine ⟨_, rfl, ?_⟩) | ((with_reducible refine gate_callee (f := 43) rfl ?_); refine goesL_ (some 22) rfl rfl Tryd.func43 (by kernel_rfl) rfl #[.int .i64 t171, .int .i64 4] rfl (by (try simp only [List.map_toArray, List.map_cons, List.map_nil]); first | done | rfl | (simp only [List.length_drop, List.length_take]; rfl)) ?_; (with_reducible refine (eponymref16_digits.calls k t171 4 t174 _ A4.out).mono ?_); rintro e w19 ⟨rfl, hb⟩; refine ⟨_, rfl, ?_⟩; have n0_ := Aside0.mk (blk_below (g := gb168) (o := .cells #[.int .i64 a0_0, .int .i64 a0_1] 31 (0, 0)) (by (with_reducible repeat (first | refine blk_drewN ?_ _ | refine blk_drew ?_ | refine blk_alloc ?_ _)); exact BK168.out) hb); have n1_ := Aside0.mk (below_step (by repeat (first | (with_reducible first | exact HB.out | apply below_alloc | apply pw_below_drewN | apply below_drew1 | refine below_set ?_ GE168.out) | exact HB.out)) hb); clear BK168; clear HB; have BK168 := n0_; have HB := n1_; clear n0_ n1_; (try clear hb); (try clear hb2); (try clear hk); (try clear hi)) | ((with_reducible refine gate_callee (f := 43) rfl ?_); refine goesL_ (some 25) rfl rfl Tryd.func43 (by kernel_rfl) rfl #[.int .i64 t172, .int .i64 2] rfl (by (try simp only [List.map_toArray, List.map_cons, List.map_nil]); first | done | rfl | (simp only [List.length_drop, List.length_take]; rfl)) ?_; (with_reducible refine (eponymref16_digits.calls k t172 2 t175 _ A6.out).mono ?_); rintro e w20 ⟨rfl, hb⟩; refine ⟨_, rfl, ?_⟩; have n0_ := Aside0.mk (blk_below (g := gb168) (o := .cells #[.int .i64 a0_0, .int .i64 a0_1] 31 (0, 0)) (by (with_reducible repeat (first | refine blk_drewN ?_ _ | refine blk_drew ?_ | refine blk_alloc ?_ _)); exact BK168.out) hb); have n1_ := Aside0.mk (below_step (by repeat (first | (with_reducible first | exact HB.out | apply below_alloc | apply pw_below_drewN | apply below_drew1 | refine below_set ?_ GE168.out) | exact HB.out)) hb); clear BK168; clear HB; have BK168 := n0_; have HB := n1_; clear n0_ n1_; (try clear hb); (try clear hb2); (try clear hk); (try clear hi)) | ((with_reducible refine gate_callee (f := 43) rfl ?_); refine goesL_ (some 29) rfl rfl Tryd.func43 (by kernel_rfl) rfl #[.int .i64 t173, .int .i64 2] rfl (by (try simp only [List.map_toArray, List.map_cons, List.map_nil]); first | done | rfl | (simp only [List.length_drop, List.length_take]; rfl)) ?_; (with_reducible refine (eponymref16_digits.calls k t173 2 t176 _ A9.out).mono ?_); rintro e w21 ⟨rfl, hb⟩; refine ⟨_, rfl, ?_⟩; have n0_ := Aside0.mk (blk_below (g := gb168) (o := .cells #[.int .i64 a0_0, .int .i64 a0_1] 31 (0, 0)) (by (with_reducible repeat (first | refine blk_drewN ?_ _ | refine blk_drew ?_ | refine blk_alloc ?_ _)); exact BK168.out) hb); have n1_ := Aside0.mk (below_step (by repeat (first | (with_reducible first | exact HB.out | apply below_alloc | apply pw_below_drewN | apply below_drew1 | refine below_set ?_ GE168.out) | exact HB.out)) hb); clear BK168; clear HB; have BK168 := n0_; have HB := n1_; clear n0_ n1_; (try clear hb); (try clear hb2); (try clear hk); (try clear hi)) | ((with_reducible refine gate_callee (f := 44) rfl ?_); refine goesL_ (some 33) rfl rfl Tryd.func44 (by kernel_rfl) rfl #[.int .i64 t170] rfl (by (try simp only [List.map_toArray, List.map_cons, List.map_nil]); first | done | rfl | (simp only [List.length_drop, List.length_take]; rfl)) ?_; (with_reducible refine (eponymref16_clock.calls k t170 t177 _ A12.out).mono ?_); rintro e w22 ⟨rfl, hb⟩; refine ⟨_, rfl, ?_⟩; have n0_ := Aside0.mk (blk_below (g := gb168) (o := .cells #[.int .i64 a0_0, .int .i64 a0_1] 31 (0, 0)) (by (with_reducible repeat (first | refine blk_drewN ?_ _ | refine blk_drew ?_ | refine blk_alloc ?_ _)); exact BK168.out) hb); have n1_ := Aside0.mk (below_step (by repeat (first | (with_reducible first | exact HB.out | apply below_alloc | apply pw_below_drewN | apply below_drew1 | refine below_set ?_ GE168.out) | exact HB.out)) hb); clear BK168; clear HB; have BK168 := n0_; have HB := n1_; clear n0_ n1_; (try clear hb); (try clear hb2); (try clear hk); (try clear hi); have hcz23_0 : w22.cell? ⟨gb168, 0, none⟩ = some (.int .i64 a0_0) := (blk_cell BK168.out 0).trans rfl; have hcz23_1 : w22.cell? ⟨gb168, 1, none⟩ = some (.int .i64 a0_1) := (blk_cell BK168.out 1).trans rfl; have hfz23_0 := blk_frozen BK168.out 0; have hfz23_1 := blk_frozen BK168.out 1) | ((with_reducible refine gate_callee (f := 43) rfl ?_); refine goesL_ (some 40) rfl rfl Tryd.func43 (by kernel_rfl) rfl #[.int .i64 a0_1, .int .i64 9] rfl (by (try simp only [List.map_toArray, List.map_cons, List.map_nil]); first | done | rfl | (simp only [List.length_drop, List.length_take]; rfl)) ?_; (with_reducible refine (eponymref16_digits.calls k a0_1 9 t178 _ A15.out).mono ?_); rintro e w24 ⟨rfl, hb⟩; refine ⟨_, rfl, ?_⟩; have n0_ := Aside0.mk (blk_below (g := gb168) (o := .cells #[.int .i64 a0_0, .int .i64 a0_1] 31 (0, 0)) (by (with_reducible repeat (first | refine blk_drewN ?_ _ | refine blk_drew ?_ | refine blk_alloc ?_ _)); exact BK168.out) hb); have n1_ := Aside0.mk (below_step (by repeat (first | (with_reducible first | exact HB.out | apply below_alloc | apply pw_below_drewN | apply below_drew1 | refine below_set ?_ GE168.out) | exact HB.out)) hb); clear BK168; clear HB; have BK168 := n0_; have HB := n1_; clear n0_ n1_; (try clear hb); (try clear hb2); (try clear hk); (try clear hi)))
                go_loopg [9] k (fun kq v9 w' => ∃ (x9_1 : ByteArray), v9 = .string x9_1 ∧ Aside0 (eponymref16_Text.l0 kq ((((((t174 ++ (⟨#[45]⟩ : ByteArray)) ++ t175) ++ (⟨#[45]⟩ : ByteArray)) ++ t176) ++ (⟨#[84]⟩ : ByteArray)) ++ t177) x9_1 = some r) ∧ Aside0 (kq ≤ k) ∧ Aside0 (w'.heap[gb168]? = some (.cells #[.int .i64 a0_0, .int .i64 a0_1] 31 (0, 0))) ∧ Aside0 (Below w.heap.size w w'))
                case atStart => exact ⟨(t178), (by first | rfl | (simp; done) | (simp [*]; done)), H', ⟨Nat.le_refl _⟩, ⟨by (with_reducible repeat (first | refine blk_drewN ?_ _ | refine blk_drew ?_ | refine blk_alloc ?_ _)); exact BK168.out⟩, ⟨by repeat (first | (with_reducible first | exact HB.out | apply below_alloc | apply pw_below_drewN | apply below_drew1 | refine below_set ?_ GE168.out) | exact HB.out)⟩⟩
                case round =>
                  clear H'
                  try clear c1
                  try clear c2
                  try clear p2
                  try clear c4
                  try clear c5
                  try clear c5b0
                  try clear c5b1
                  try clear c5b2
                  try clear c7
                  try clear c7b0
                  try clear c7b1
                  try clear c7b2
                  try clear c8
                  try clear c8b0
                  try clear c8b1
                  try clear c8b2
                  try clear c10
                  try clear c10b0
                  try clear c10b1
                  try clear c10b2
                  try clear c11
                  try clear c11b0
                  try clear c11b1
                  try clear c11b2
                  try clear c13
                  try clear c13b0
                  try clear c13b1
                  try clear c13b2
                  try clear c14
                  try clear c14b0
                  try clear c17
                  try clear c20
                  try clear hcz17_0
                  try clear hcz17_1
                  try clear hcz23_0
                  try clear hcz23_1
                  try clear hfz17_0
                  try clear hfz17_1
                  try clear hfz23_0
                  try clear hfz23_1
                  obtain ⟨x9_1, rfl, HA, HK1, BK168, HB⟩ := hrel
                  cases gk with
                  | zero => exact absurd HA.out (by simp [eponymref16_Text.l0])
                  | succ k1 =>
                    have H := HA.out
                    clear HA
                    simp only [eponymref16_Text.l0] at H
                    obtain ⟨ji25, hji25⟩ : ∃ j_ : Int, (wrap64 ((x9_1.size : Int) - 1)) = j_ := ⟨_, rfl⟩
                    replace H : (if 0 ≤ (ji25) then (if (ji25) < (x9_1.size : Int) then (if (bt x9_1 (ji25)) = 48 then (if (ji25) ≤ (x9_1.size : Int) then (eponymref16_Text.l0 k1 ((((((t174 ++ (⟨#[45]⟩ : ByteArray)) ++ t175) ++ (⟨#[45]⟩ : ByteArray)) ++ t176) ++ (⟨#[84]⟩ : ByteArray)) ++ t177) (x9_1.extract 0 ((ji25) : Int).toNat)) else (none)) else (if ((((((t174 ++ (⟨#[45]⟩ : ByteArray)) ++ t175) ++ (⟨#[45]⟩ : ByteArray)) ++ t176) ++ (⟨#[84]⟩ : ByteArray)) ++ t177).size + 1 ≤ 9223372036854775807 then (if (((((((t174 ++ (⟨#[45]⟩ : ByteArray)) ++ t175) ++ (⟨#[45]⟩ : ByteArray)) ++ t176) ++ (⟨#[84]⟩ : ByteArray)) ++ t177) ++ (⟨#[46]⟩ : ByteArray)).size + x9_1.size ≤ 9223372036854775807 then (if ((((((((t174 ++ (⟨#[45]⟩ : ByteArray)) ++ t175) ++ (⟨#[45]⟩ : ByteArray)) ++ t176) ++ (⟨#[84]⟩ : ByteArray)) ++ t177) ++ (⟨#[46]⟩ : ByteArray)) ++ x9_1).size + 1 ≤ 9223372036854775807 then (some (((((((((t174 ++ (⟨#[45]⟩ : ByteArray)) ++ t175) ++ (⟨#[45]⟩ : ByteArray)) ++ t176) ++ (⟨#[84]⟩ : ByteArray)) ++ t177) ++ (⟨#[46]⟩ : ByteArray)) ++ x9_1) ++ (⟨#[90]⟩ : ByteArray))) else (none)) else (none)) else (none))) else (none)) else (none)) = some r := by first | (rw [hji25] at H; exact H) | (simp only [hji25] at H ⊢; exact H)
                    have hji25w : (IntKind.i64.wrap ((x9_1.size : Int) - 1)) = ji25 := (i64_w _).trans hji25
                    by_cases c26 : 0 ≤ (ji25)
                    · rw [if_pos c26] at H
                      have c26b0 : decide (0 ≤ (ji25)) = true := decide_eq_true c26
                      clear c26
                      by_cases c27 : (ji25) < (x9_1.size : Int)
                      · rw [if_pos c27] at H
                        have c27b0 : decide ((ji25) < (x9_1.size : Int)) = true := decide_eq_true c27
                        clear c27
                        by_cases c29 : (bt x9_1 (ji25)) = 48
                        · rw [if_pos c29] at H
                          have c29b0 : ((bt x9_1 (ji25)) == 48) = true := beq_iff_eq.mpr c29
                          have c29b1 : ((bt x9_1 (ji25)) != 48) = false := bne_eq_false_iff_eq.mpr c29
                          clear c29
                          have c30b0 := eq_true (of_decide_eq_true (by first | (with_reducible assumption) | assumption) : 0 ≤ (ji25))
                          by_cases c31 : (ji25) ≤ (x9_1.size : Int)
                          · rw [if_pos c31] at H
                            have c31b0 := eq_true c31
                            have c31b1 : decide ((ji25) ≤ (x9_1.size : Int)) = true := decide_eq_true c31
                            clear c31
                            have H' := Aside0.mk H
                            clear H
                            have p28 : 0 ≤ ((ji25) : Int) := of_decide_eq_true (by first | (with_reducible assumption) | assumption)
                            have q28 : (ji25) < (x9_1.size : Int) := of_decide_eq_true (by first | (with_reducible assumption) | assumption)
                            have hx28 := bt_at x9_1 (ji25)
                            replace p28 := eq_true p28
                            replace q28 := eq_true q28
                            go_wp2
                            go_roundg k1
                            case measure => have := HK1.out; omega
                            case rel => exact ⟨(x9_1.extract 0 ((ji25) : Int).toNat), (by first | rfl | (simp; done) | (simp only [← hji25] <;> (first | rfl | simp)) | (simp [*]; done)), H', ⟨by have := HK1.out; omega⟩, ⟨by (with_reducible repeat (first | refine blk_drewN ?_ _ | refine blk_drew ?_ | refine blk_alloc ?_ _)); exact BK168.out⟩, ⟨by repeat (first | (with_reducible first | exact HB.out | apply below_alloc | apply pw_below_drewN | apply below_drew1 | refine below_set ?_ GE168.out) | exact HB.out)⟩⟩
                          · rw [if_neg c31] at H
                            exact absurd H (by simp)
                        · rw [if_neg c29] at H
                          have c29b0 : ((bt x9_1 (ji25)) == 48) = false := beq_eq_false_iff_ne.mpr c29
                          have c29b1 : ((bt x9_1 (ji25)) != 48) = true := bne_iff_ne.mpr c29
                          by_cases c32 : ((((((t174 ++ (⟨#[45]⟩ : ByteArray)) ++ t175) ++ (⟨#[45]⟩ : ByteArray)) ++ t176) ++ (⟨#[84]⟩ : ByteArray)) ++ t177).size + 1 ≤ 9223372036854775807
                          · rw [if_pos c32] at H
                            have c32b0 := eq_true c32
                            have c32b1 : decide (((((((t174 ++ (⟨#[45]⟩ : ByteArray)) ++ t175) ++ (⟨#[45]⟩ : ByteArray)) ++ t176) ++ (⟨#[84]⟩ : ByteArray)) ++ t177).size + 1 ≤ 9223372036854775807) = true := decide_eq_true c32
                            try have c32b2 : (9223372036854775807 < ((((((t174 ++ (⟨#[45]⟩ : ByteArray)) ++ t175) ++ (⟨#[45]⟩ : ByteArray)) ++ t176) ++ (⟨#[84]⟩ : ByteArray)) ++ t177).size + 1) = False := eq_false (Nat.not_lt.2 c32)
                            (try (have c32b3 := c32; simp only [ByteArray.size_append, show (⟨#[45]⟩ : ByteArray).size = 1 from rfl, show (⟨#[84]⟩ : ByteArray).size = 1 from rfl] at c32b3))
                            by_cases c33 : (((((((t174 ++ (⟨#[45]⟩ : ByteArray)) ++ t175) ++ (⟨#[45]⟩ : ByteArray)) ++ t176) ++ (⟨#[84]⟩ : ByteArray)) ++ t177) ++ (⟨#[46]⟩ : ByteArray)).size + x9_1.size ≤ 9223372036854775807
                            · rw [if_pos c33] at H
                              have c33b0 := eq_true c33
                              have c33b1 : decide ((((((((t174 ++ (⟨#[45]⟩ : ByteArray)) ++ t175) ++ (⟨#[45]⟩ : ByteArray)) ++ t176) ++ (⟨#[84]⟩ : ByteArray)) ++ t177) ++ (⟨#[46]⟩ : ByteArray)).size + x9_1.size ≤ 9223372036854775807) = true := decide_eq_true c33
                              try have c33b2 : (9223372036854775807 < (((((((t174 ++ (⟨#[45]⟩ : ByteArray)) ++ t175) ++ (⟨#[45]⟩ : ByteArray)) ++ t176) ++ (⟨#[84]⟩ : ByteArray)) ++ t177) ++ (⟨#[46]⟩ : ByteArray)).size + x9_1.size) = False := eq_false (Nat.not_lt.2 c33)
                              (try (have c33b3 := c33; simp only [ByteArray.size_append, show (⟨#[45]⟩ : ByteArray).size = 1 from rfl, show (⟨#[46]⟩ : ByteArray).size = 1 from rfl, show (⟨#[84]⟩ : ByteArray).size = 1 from rfl] at c33b3))
                              by_cases c34 : ((((((((t174 ++ (⟨#[45]⟩ : ByteArray)) ++ t175) ++ (⟨#[45]⟩ : ByteArray)) ++ t176) ++ (⟨#[84]⟩ : ByteArray)) ++ t177) ++ (⟨#[46]⟩ : ByteArray)) ++ x9_1).size + 1 ≤ 9223372036854775807
                              · rw [if_pos c34] at H
                                have c34b0 := eq_true c34
                                have c34b1 : decide (((((((((t174 ++ (⟨#[45]⟩ : ByteArray)) ++ t175) ++ (⟨#[45]⟩ : ByteArray)) ++ t176) ++ (⟨#[84]⟩ : ByteArray)) ++ t177) ++ (⟨#[46]⟩ : ByteArray)) ++ x9_1).size + 1 ≤ 9223372036854775807) = true := decide_eq_true c34
                                try have c34b2 : (9223372036854775807 < ((((((((t174 ++ (⟨#[45]⟩ : ByteArray)) ++ t175) ++ (⟨#[45]⟩ : ByteArray)) ++ t176) ++ (⟨#[84]⟩ : ByteArray)) ++ t177) ++ (⟨#[46]⟩ : ByteArray)) ++ x9_1).size + 1) = False := eq_false (Nat.not_lt.2 c34)
                                (try (have c34b3 := c34; simp only [ByteArray.size_append, show (⟨#[45]⟩ : ByteArray).size = 1 from rfl, show (⟨#[46]⟩ : ByteArray).size = 1 from rfl, show (⟨#[84]⟩ : ByteArray).size = 1 from rfl] at c34b3))
                                obtain rfl := Option.some.inj H
                                have p28 : 0 ≤ ((ji25) : Int) := of_decide_eq_true (by first | (with_reducible assumption) | assumption)
                                have q28 : (ji25) < (x9_1.size : Int) := of_decide_eq_true (by first | (with_reducible assumption) | assumption)
                                have hx28 := bt_at x9_1 (ji25)
                                replace p28 := eq_true p28
                                replace q28 := eq_true q28
                                go_wp2
                                go_ret
                                exact ⟨by first | rfl | (simp [errW_none, errW_some] <;> rfl) | (simp only [← hji25]; first | rfl | (simp [errW_none, errW_some] <;> rfl)) | (simp [*, errW_none, errW_some] <;> rfl), by repeat (first | (with_reducible first | exact HB.out | apply below_alloc | apply pw_below_drewN | apply below_drew1 | refine below_set ?_ GE168.out) | exact HB.out)⟩
                              · rw [if_neg c34] at H
                                exact absurd H (by simp)
                            · rw [if_neg c33] at H
                              exact absurd H (by simp)
                          · rw [if_neg c32] at H
                            exact absurd H (by simp)
                      · rw [if_neg c27] at H
                        exact absurd H (by simp)
                    · rw [if_neg c26] at H
                      exact absurd H (by simp)
              · rw [if_neg c14] at H
                have c14b0 : decide (0 < a0_1) = false := decide_eq_false c14
                clear c14
                by_cases c35 : ((((((t174 ++ (⟨#[45]⟩ : ByteArray)) ++ t175) ++ (⟨#[45]⟩ : ByteArray)) ++ t176) ++ (⟨#[84]⟩ : ByteArray)) ++ t177).size + 1 ≤ 9223372036854775807
                · rw [if_pos c35] at H
                  have c35b0 := eq_true c35
                  have c35b1 : decide (((((((t174 ++ (⟨#[45]⟩ : ByteArray)) ++ t175) ++ (⟨#[45]⟩ : ByteArray)) ++ t176) ++ (⟨#[84]⟩ : ByteArray)) ++ t177).size + 1 ≤ 9223372036854775807) = true := decide_eq_true c35
                  try have c35b2 : (9223372036854775807 < ((((((t174 ++ (⟨#[45]⟩ : ByteArray)) ++ t175) ++ (⟨#[45]⟩ : ByteArray)) ++ t176) ++ (⟨#[84]⟩ : ByteArray)) ++ t177).size + 1) = False := eq_false (Nat.not_lt.2 c35)
                  (try (have c35b3 := c35; simp only [ByteArray.size_append, show (⟨#[45]⟩ : ByteArray).size = 1 from rfl, show (⟨#[84]⟩ : ByteArray).size = 1 from rfl] at c35b3))
                  obtain rfl := Option.some.inj H
                  go_enter Tryd.func17, Tryd.ntmps17
                  go_wp2_with (first | ((with_reducible refine gate_dst (N := 1) rfl ?_); refine box_event ?hg (N := 1) ?hd (cs := #[.int .i64 a0_0, .int .i64 a0_1]) (t := 31) ?hr ?_; (case hd => rfl); (case hg => rfl); (case hr => first | (go_simp; done) | (go_simp; rfl)); intro gb168 hg w36 hbox hb; have n0_ := Aside0.mk (below_step (by repeat (first | (with_reducible first | exact HB.out | apply below_alloc | apply pw_below_drewN | apply below_drew1) | exact HB.out)) hb); have n1_ := Aside0.mk (hbox); have n2_ := Aside0.mk ((by rw [hg]; exact (below_size (by repeat (first | (with_reducible first | exact HB.out | apply below_alloc | apply pw_below_drewN | apply below_drew1) | exact HB.out))) : w.heap.size ≤ gb168)); have n3_ := Aside0.mk ((by rw [hg]; exact (below_size (by repeat (first | (with_reducible first | exact HB.out | apply below_alloc | apply pw_below_drewN | apply below_drew1) | exact HB.out))) : w.heap.size ≤ gb168)); clear HB; have HB := n0_; have BK168 := n1_; have GW168 := n2_; have GE168 := n3_; clear n0_ n1_ n2_ n3_; clear hb hbox hg; have hcz37_0 : w36.cell? ⟨gb168, 0, none⟩ = some (.int .i64 a0_0) := (blk_cell BK168.out 0).trans rfl; have hcz37_1 : w36.cell? ⟨gb168, 1, none⟩ = some (.int .i64 a0_1) := (blk_cell BK168.out 1).trans rfl; have hfz37_0 := blk_frozen BK168.out 0; have hfz37_1 := blk_frozen BK168.out 1) | ((with_reducible refine gate_callee (f := 42) rfl ?_); refine goesL_ (some 12) rfl rfl Tryd.func42 (by kernel_rfl) rfl #[.agg #[.int .i64 a0_0, .int .i64 a0_1]] rfl (by (try simp only [List.map_toArray, List.map_cons, List.map_nil]); first | done | rfl | (simp only [List.length_drop, List.length_take]; rfl)) ?_; (with_reducible refine (eponymref16_cut.calls a0_0 a0_1 t169 t170 _ A2.out).mono ?_); rintro e w38 ⟨rfl, hb⟩; refine ⟨_, rfl, ?_⟩; have n0_ := Aside0.mk (blk_below (g := gb168) (o := .cells #[.int .i64 a0_0, .int .i64 a0_1] 31 (0, 0)) (by (with_reducible repeat (first | refine blk_drewN ?_ _ | refine blk_drew ?_ | refine blk_alloc ?_ _)); exact BK168.out) hb); have n1_ := Aside0.mk (below_step (by repeat (first | (with_reducible first | exact HB.out | apply below_alloc | apply pw_below_drewN | apply below_drew1 | refine below_set ?_ GE168.out) | exact HB.out)) hb); clear BK168; clear HB; have BK168 := n0_; have HB := n1_; clear n0_ n1_; (try clear hb); (try clear hb2); (try clear hk); (try clear hi)) | ((with_reducible refine gate_callee (f := 20) rfl ?_); refine goesL_ (some 17) rfl rfl Tryd.func20 (by kernel_rfl) rfl #[.int .i64 t169] rfl (by (try simp only [List.map_toArray, List.map_cons, List.map_nil]); first | done | rfl | (simp only [List.length_drop, List.length_take]; rfl)) ?_; (with_reducible refine (eponymref16_Civil.calls k t169 t171 t172 t173 _ A3.out).mono ?_); rintro e w' ⟨rfl, ⟨nd, rfl⟩⟩; refine ⟨_, rfl, ?_⟩) | ((with_reducible refine gate_callee (f := 43) rfl ?_); refine goesL_ (some 22) rfl rfl Tryd.func43 (by kernel_rfl) rfl #[.int .i64 t171, .int .i64 4] rfl (by (try simp only [List.map_toArray, List.map_cons, List.map_nil]); first | done | rfl | (simp only [List.length_drop, List.length_take]; rfl)) ?_; (with_reducible refine (eponymref16_digits.calls k t171 4 t174 _ A4.out).mono ?_); rintro e w39 ⟨rfl, hb⟩; refine ⟨_, rfl, ?_⟩; have n0_ := Aside0.mk (blk_below (g := gb168) (o := .cells #[.int .i64 a0_0, .int .i64 a0_1] 31 (0, 0)) (by (with_reducible repeat (first | refine blk_drewN ?_ _ | refine blk_drew ?_ | refine blk_alloc ?_ _)); exact BK168.out) hb); have n1_ := Aside0.mk (below_step (by repeat (first | (with_reducible first | exact HB.out | apply below_alloc | apply pw_below_drewN | apply below_drew1 | refine below_set ?_ GE168.out) | exact HB.out)) hb); clear BK168; clear HB; have BK168 := n0_; have HB := n1_; clear n0_ n1_; (try clear hb); (try clear hb2); (try clear hk); (try clear hi)) | ((with_reducible refine gate_callee (f := 43) rfl ?_); refine goesL_ (some 25) rfl rfl Tryd.func43 (by kernel_rfl) rfl #[.int .i64 t172, .int .i64 2] rfl (by (try simp only [List.map_toArray, List.map_cons, List.map_nil]); first | done | rfl | (simp only [List.length_drop, List.length_take]; rfl)) ?_; (with_reducible refine (eponymref16_digits.calls k t172 2 t175 _ A6.out).mono ?_); rintro e w40 ⟨rfl, hb⟩; refine ⟨_, rfl, ?_⟩; have n0_ := Aside0.mk (blk_below (g := gb168) (o := .cells #[.int .i64 a0_0, .int .i64 a0_1] 31 (0, 0)) (by (with_reducible repeat (first | refine blk_drewN ?_ _ | refine blk_drew ?_ | refine blk_alloc ?_ _)); exact BK168.out) hb); have n1_ := Aside0.mk (below_step (by repeat (first | (with_reducible first | exact HB.out | apply below_alloc | apply pw_below_drewN | apply below_drew1 | refine below_set ?_ GE168.out) | exact HB.out)) hb); clear BK168; clear HB; have BK168 := n0_; have HB := n1_; clear n0_ n1_; (try clear hb); (try clear hb2); (try clear hk); (try clear hi)) | ((with_reducible refine gate_callee (f := 43) rfl ?_); refine goesL_ (some 29) rfl rfl Tryd.func43 (by kernel_rfl) rfl #[.int .i64 t173, .int .i64 2] rfl (by (try simp only [List.map_toArray, List.map_cons, List.map_nil]); first | done | rfl | (simp only [List.length_drop, List.length_take]; rfl)) ?_; (with_reducible refine (eponymref16_digits.calls k t173 2 t176 _ A9.out).mono ?_); rintro e w41 ⟨rfl, hb⟩; refine ⟨_, rfl, ?_⟩; have n0_ := Aside0.mk (blk_below (g := gb168) (o := .cells #[.int .i64 a0_0, .int .i64 a0_1] 31 (0, 0)) (by (with_reducible repeat (first | refine blk_drewN ?_ _ | refine blk_drew ?_ | refine blk_alloc ?_ _)); exact BK168.out) hb); have n1_ := Aside0.mk (below_step (by repeat (first | (with_reducible first | exact HB.out | apply below_alloc | apply pw_below_drewN | apply below_drew1 | refine below_set ?_ GE168.out) | exact HB.out)) hb); clear BK168; clear HB; have BK168 := n0_; have HB := n1_; clear n0_ n1_; (try clear hb); (try clear hb2); (try clear hk); (try clear hi)) | ((with_reducible refine gate_callee (f := 44) rfl ?_); refine goesL_ (some 33) rfl rfl Tryd.func44 (by kernel_rfl) rfl #[.int .i64 t170] rfl (by (try simp only [List.map_toArray, List.map_cons, List.map_nil]); first | done | rfl | (simp only [List.length_drop, List.length_take]; rfl)) ?_; (with_reducible refine (eponymref16_clock.calls k t170 t177 _ A12.out).mono ?_); rintro e w42 ⟨rfl, hb⟩; refine ⟨_, rfl, ?_⟩; have n0_ := Aside0.mk (blk_below (g := gb168) (o := .cells #[.int .i64 a0_0, .int .i64 a0_1] 31 (0, 0)) (by (with_reducible repeat (first | refine blk_drewN ?_ _ | refine blk_drew ?_ | refine blk_alloc ?_ _)); exact BK168.out) hb); have n1_ := Aside0.mk (below_step (by repeat (first | (with_reducible first | exact HB.out | apply below_alloc | apply pw_below_drewN | apply below_drew1 | refine below_set ?_ GE168.out) | exact HB.out)) hb); clear BK168; clear HB; have BK168 := n0_; have HB := n1_; clear n0_ n1_; (try clear hb); (try clear hb2); (try clear hk); (try clear hi); have hcz43_0 : w42.cell? ⟨gb168, 0, none⟩ = some (.int .i64 a0_0) := (blk_cell BK168.out 0).trans rfl; have hcz43_1 : w42.cell? ⟨gb168, 1, none⟩ = some (.int .i64 a0_1) := (blk_cell BK168.out 1).trans rfl; have hfz43_0 := blk_frozen BK168.out 0; have hfz43_1 := blk_frozen BK168.out 1))
                  go_ret
                  exact ⟨by first | rfl | (simp [errW_none, errW_some] <;> rfl) | (simp [*, errW_none, errW_some] <;> rfl), by repeat (first | (with_reducible first | exact HB.out | apply below_alloc | apply pw_below_drewN | apply below_drew1 | refine below_set ?_ GE168.out) | exact HB.out)⟩
                · rw [if_neg c35] at H
                  exact absurd H (by simp)
            · rw [if_neg c13] at H
              exact absurd H (by simp)
          · rw [if_neg c11] at H
            exact absurd H (by simp)
        · rw [if_neg c10] at H
          exact absurd H (by simp)
      · rw [if_neg c8] at H
        exact absurd H (by simp)
    · rw [if_neg c7] at H
      exact absurd H (by simp)
  · rw [if_neg c5] at H
    exact absurd H (by simp)

/-! ### eponymref16_Week: function 22 -/
def eponymref16_Week.f (a0 : Int) : Option (Int) := if (Int.tmod a0 7) < 0 then (some (Int.tmod (wrap64 ((wrap64 ((Int.tmod a0 7) + 7)) + 3)) 7)) else (some (Int.tmod (wrap64 ((Int.tmod a0 7) + 3)) 7))
set_option maxHeartbeats 8000000 in
set_option maxRecDepth 100000 in
theorem eponymref16_Week.calls (a0 : Int) (r : Int) (w : World) (h : eponymref16_Week.f a0 = some r) :
    Calls Tryd.prog 22 #[.int .i64 a0] w fun e w' => e = .returned (.int .i64 r) ∧ Drawn0 w w' := by
  have H : (if (Int.tmod a0 7) < 0 then (some (Int.tmod (wrap64 ((wrap64 ((Int.tmod a0 7) + 7)) + 3)) 7)) else (some (Int.tmod (wrap64 ((Int.tmod a0 7) + 3)) 7))) = some r := h
  clear h
  by_cases c2 : (Int.tmod a0 7) < 0
  · rw [if_pos c2] at H
    have c2b0 : decide ((Int.tmod a0 7) < 0) = true := decide_eq_true c2
    clear c2
    obtain rfl := Option.some.inj H
    go_enter Tryd.func22, Tryd.ntmps22
    go_wp2
    go_ret
    exact ⟨by first | rfl | (simp; done) | (simp [*]; done), by repeat (first | exact Drawn0.refl _ | apply Drawn0.step)⟩
  · rw [if_neg c2] at H
    have c2b0 : decide ((Int.tmod a0 7) < 0) = false := decide_eq_false c2
    clear c2
    obtain rfl := Option.some.inj H
    go_enter Tryd.func22, Tryd.ntmps22
    go_wp2
    go_ret
    exact ⟨by first | rfl | (simp; done) | (simp [*]; done), by repeat (first | exact Drawn0.refl _ | apply Drawn0.step)⟩

end Go.Proofs.YtlgdenihddkjaaaDoor.PSt
