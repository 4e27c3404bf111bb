/- What the document tells is told: awake. -/
import Derived.Test.YtpjjkejppgehaaaGreatDoorHp
namespace Go.Proofs.YtpjjkejppgehaaaGreatDoor
set_option linter.unusedSimpArgs false
set_option linter.unusedVariables false
open Go.RowKit

def s0 : ByteArray := ⟨#[71, 69, 84, 32, 47, 104, 101, 108, 112, 32, 72, 84, 84, 80, 47, 49, 46, 49, 13, 10, 72, 111, 115, 116, 58, 32, 97, 13, 10, 13, 10]⟩
theorem all_at (s : ByteArray) (f : UInt8 → Bool) (a b : Nat) (h : (List.range s.size).all (fun i => (decide (a ≤ i ∧ i < b)).not || f (s.data.toList.getD i 0)) = true) : ∀ i, a ≤ i → i < b → ∀ g : i < s.size, f s[i] = true := by
  intro i h1 h2 g
  have := List.all_eq_true.1 h i (by simpa using g)
  have e : s.data.toList.getD i 0 = s[i] := by
    have g' : i < s.data.toList.length := by simpa using g
    simp only [List.getD, List.getElem?_eq_getElem g', Option.getD_some]
    rfl
  rw [e] at this
  simpa [h1, h2] using this
theorem req0 : ReqAt s0 3 9 1 where
  h1 := by decide
  h2 := by decide
  h3 := by decide
  h4 := by decide
  meth := all_at s0 (isSort 8) 0 3 (by decide +kernel)
  sp := fun _ => rfl
  targ := all_at s0 (isSort 4) 4 9 (by decide +kernel)
  vers := fun i hi h1 h2 => by
    have hi8 : i < 8 := hi
    rcases (by omega : i = 0 ∨ i = 1 ∨ i = 2 ∨ i = 3 ∨ i = 4 ∨ i = 5 ∨ i = 6 ∨ i = 7) with rfl | rfl | rfl | rfl | rfl | rfl | rfl | rfl <;> rfl
  minor := fun h => Or.inl ⟨rfl, rfl⟩
  cr := fun _ => rfl
  lf := fun _ => rfl
theorem hdr0 : HdrAt s0 20 24 26 27 where
  h1 := by decide
  h2 := by decide
  h3 := by decide
  h4 := by decide
  name := all_at s0 (isSort 1) 20 24 (by decide +kernel)
  colon := fun _ => rfl
  gap := fun i h1 h2 h => by
    obtain rfl : i = 25 := by omega
    exact Or.inl rfl
  nogap := fun _ => ⟨(by decide : (97 : Nat) ≠ 32), (by decide : (97 : Nat) ≠ 9)⟩
  value := all_at s0 (isSort 2) 26 27 (by decide +kernel)
  cr := fun _ => rfl
  lf := fun _ => rfl
theorem name0 : smallB (s0.extract 20 24) = ⟨#[104, 111, 115, 116]⟩ := by kernel_rfl
theorem targ0 : s0.extract 4 9 = ⟨#[47, 104, 101, 108, 112]⟩ := by kernel_rfl
theorem parse0 (w : World) : Calls Tryz.prog 14 #[.string s0] w fun e w' => ∃ (a b : ByteArray) (g cap : Nat), e = .returned (.tuple #[.agg #[.string a, .string ⟨#[47, 104, 101, 108, 112]⟩, .int .i64 1, .slice (some ⟨g, 0, none⟩) 1 cap], .nilIface]) ∧ w'.cell? ⟨g, 0, none⟩ = some (.string ⟨#[104, 111, 115, 116]⟩) ∧ Below w.heap.size w w' := by
  refine Calls.mono (parse_good s0 3 9 1 [(24, 26, 27)] 29 (by decide) req0 (by decide) ⟨hdr0, rfl⟩ (fun _ => rfl) (fun _ => rfl) (by decide) w) ?_
  rintro e w' ⟨v, M, rfl, ho, hM, hb⟩
  obtain ⟨g, cap, rfl, _, _⟩ := ho.form (by decide)
  have hc := ho.cellAt 0 (by decide)
  have hv : (hv s0 (9 + 11) [(24, 26, 27)])[0]? = some (.string (smallB (s0.extract 20 24))) := rfl
  rw [hv, name0] at hc
  have ht : s0.extract (3 + 1) 9 = ⟨#[47, 104, 101, 108, 112]⟩ := targ0
  exact ⟨s0.extract 0 3, ⟨#[]⟩, g, cap, by rw [ht]; rfl, hc, hb⟩
set_option maxHeartbeats 4000000 in
theorem awake_any (w : World) : Calls Tryz.prog 5 #[] w fun e w' => e = .returned (.bool true) ∧ Below w.heap.size w w' := by
  have H := Lib.hid (parse0 w)
  unfold s0 at H
  go_enter Tryz.func5, Tryz.ntmps5
  go_wp2_with (go_at_call 14; (with_reducible refine Calls.mono H.out ?_); rintro e w1 ⟨a, b, g, cap, rfl, hc, hb⟩; have HB := Lib.hid hb; have hc2 := cell_in ((Below.refl _ _).alloc (Nat.le_refl _) (.cells #[.string a, .string ⟨#[47, 104, 101, 108, 112]⟩, .int .i64 1, .slice (some ⟨g, 0, none⟩) 1 cap] 39)) hc; clear hb hc)
  go_ret
  exact ⟨by simp, HB.out.alloc HB.out.size _⟩
end Go.Proofs.YtpjjkejppgehaaaGreatDoor
