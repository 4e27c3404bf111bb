/- AsnOrder in plain Lean: the printed law answers true. -/
import Derived.Test.YtanbnlobbgfidaaDoorPAsx3
namespace Go.Proofs.YtanbnlobbgfidaaDoor
set_option linter.unusedSimpArgs false
set_option linter.unusedVariables false
open Go.RowKit Go.Proofs.YtanbnlobbgfidaaDoorW.PrintWords

theorem or2_f (k : Nat) (a b : Int) : PAs.cmp_Or_int.f (k + 3) [a, b] = some (if a ≠ 0 then a else b) := by
  have e0 : rd [a, b] 0 = a := rfl
  have e1 : rd [a, b] 1 = b := rfl
  have w1 : wrap64 1 = 1 := by unfold wrap64; omega
  have w2 : wrap64 2 = 2 := by unfold wrap64; omega
  unfold PAs.cmp_Or_int.f
  simp only [PAs.cmp_Or_int.l0, List.length_cons, List.length_nil]
  by_cases ha : a = 0
  · subst ha
    by_cases hb : b = 0
    · subst hb
      simp [e0, e1, w1, w2]
    · simp [e0, e1, w1, hb]
  · simp [e0, ha]
theorem cmpU_f (a b : Int) : PAs.cmp_Compare_uint32.f a b = some (cmp3 a b) := by
  unfold PAs.cmp_Compare_uint32.f PAs.cmp_isNaN_uint32.f cmp3
  simp only [bne_self_eq_false, Option.bind_some, Bool.false_eq_true, if_false]
  split
  · rfl
  · rename_i h
    by_cases h2 : a > b
    · rw [if_pos h2, if_pos (show b < a from h2)]
    · rw [if_neg h2, if_neg (show ¬ b < a from h2)]
theorem compare_f (k : Nat) (a b c d : Int) : PAs.asn_Compare.f (k + 3) a b c d = some (spanCmp (a, b) (c, d)) := by
  unfold PAs.asn_Compare.f spanCmp
  by_cases h : a = c ∧ b = d
  · obtain ⟨rfl, rfl⟩ := h
    simp
  · have h1 : (a == c && b == d) = false := by
      rw [Bool.eq_false_iff]; intro h2; simp at h2; exact h h2
    rw [if_neg (by rw [h1]; decide), if_neg (fun e => h (by injection e with e1 e2; exact ⟨e1, e2⟩)), cmpU_f, cmpU_f]
    simp only [Option.bind_some]
    rw [or2_f]
    rfl
theorem holds_f (a b c d : Int) : PAs.asn_Holds.f a b c d = some (decide (a ≤ c ∧ d ≤ b)) := by
  unfold PAs.asn_Holds.f
  split <;> rename_i h <;> simp [h]
theorem spanCmp_is (x y : Int × Int) : (spanCmp x y = -1 ∧ (x.1 < y.1 ∨ x.1 = y.1 ∧ y.2 < x.2)) ∨ (spanCmp x y = 0 ∧ x = y) ∨ (spanCmp x y = 1 ∧ (y.1 < x.1 ∨ x.1 = y.1 ∧ x.2 < y.2)) := by
  obtain ⟨a, b⟩ := x
  obtain ⟨c, d⟩ := y
  unfold spanCmp cmp3
  simp only [Prod.mk.injEq]
  split
  · omega
  · split <;> (try split) <;> (try split) <;> (try split) <;> omega
theorem asnOrder_f (a0 a1 b0 b1 c0 c1 : Int) : PAs.eponymlaw15_AsnOrder.f 10 a0 a1 b0 b1 c0 c1 = some true := by
  have hab := spanCmp_is (a0, a1) (b0, b1)
  have hba := spanCmp_is (b0, b1) (a0, a1)
  have hbc := spanCmp_is (b0, b1) (c0, c1)
  have hac := spanCmp_is (a0, a1) (c0, c1)
  unfold PAs.eponymlaw15_AsnOrder.f PAs.eponymlaw15_awake.f
  simp only [Option.bind_some, if_true]
  have guard : PAs.eponymlaw15_AsnOrder.j0 10 true a0 a1 b0 b1 c0 c1 = some true := by simp [PAs.eponymlaw15_AsnOrder.j0]
  split
  · exact guard
  · split
    · exact guard
    · by_cases hc : c0 > c1
      · simp only [hc, decide_true]; exact guard
      · simp only [hc, decide_false]
        rename_i ha hb
        simp only [PAs.eponymlaw15_AsnOrder.j0, PAs.eponymlaw15_AsnOrder.j1, Bool.false_eq_true, if_false, show (9 : Nat) = 6 + 3 from rfl, compare_f, holds_f, Option.bind_some]
        simp only [Prod.mk.injEq] at hab hba hbc hac
        generalize spanCmp (a0, a1) (b0, b1) = x at *
        generalize spanCmp (b0, b1) (a0, a1) = x' at *
        generalize spanCmp (b0, b1) (c0, c1) = y at *
        generalize spanCmp (a0, a1) (c0, c1) = z at *
        have hx : x' = wrap64 (-x) := by unfold wrap64; omega
        rw [if_pos hx]
        have hg : ((x == 0) != (a0 == b0 && a1 == b1)) = false := by
          by_cases h : a0 = b0 ∧ a1 = b1
          · obtain ⟨rfl, rfl⟩ := h
            have : x = 0 := by omega
            simp [this]
          · have h1 : (a0 == b0 && a1 == b1) = false := by
              rw [Bool.eq_false_iff]; intro h2; simp at h2; exact h h2
            have h2 : (x == 0) = false := by rw [beq_eq_false_iff_ne]; omega
            rw [h1, h2]; rfl
        have hJ : (if a0 ≤ b0 then (if (decide (a0 ≤ b0 ∧ b1 ≤ a1) != decide (b1 ≤ a1)) = true then some false else if decide (a0 ≤ b0 ∧ b1 ≤ a1) = true then some (decide (x ≤ 0)) else some true) else (if (decide (a0 ≤ b0 ∧ b1 ≤ a1) != false) = true then some false else if decide (a0 ≤ b0 ∧ b1 ≤ a1) = true then some (decide (x ≤ 0)) else some true)) = some true := by
          by_cases h1 : a0 ≤ b0
          · by_cases h2 : b1 ≤ a1
            · have h3 : x ≤ 0 := by omega
              simp [h1, h2, h3]
            · simp [h1, h2]
          · simp [h1]
        rw [hg]
        simp only [Bool.false_eq_true, if_false, hJ]
        split
        · split
          · have hz : ¬ z > 0 := by omega
            simp [hz]
          · rfl
        · rfl
end Go.Proofs.YtanbnlobbgfidaaDoor
