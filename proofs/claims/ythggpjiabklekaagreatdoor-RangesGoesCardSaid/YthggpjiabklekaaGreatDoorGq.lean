/- What ranges.All yields is as many runes as the table has; what the document's Right, Find and Count tell. -/
import Derived.Test.YthggpjiabklekaaGreatDoorGp
import Derived.Test.YthggpjiabklekaaGreatDoorPn
namespace Go.Proofs.YthggpjiabklekaaGreatDoor.PRg
set_option linter.unusedSimpArgs false
set_option linter.unusedVariables false
open Go.RowKit Go.Proofs.YthggpjiabklekaaGreatDoorW.PrintWords Go.Proofs.YthggpjiabklekaaGreatDoorW.PrintLast Go.Proofs.YthggpjiabklekaaGreatDoorW.PrintMore

theorem w64_inG (x : Int) (h1 : -9000000000000000000 ≤ x) (h2 : x ≤ 9000000000000000000) : wrap64 x = x := by rw [wrap64]; omega
theorem rgs_consG (x : S28) (l : List S28) : rgs (x :: l) = (x.f0, x.f1, x.f2) :: rgs l := rfl
theorem may_boundsG {x : S28} (h : mayB (x.f0, x.f1, x.f2) = true) : 0 ≤ x.f0 ∧ x.f0 ≤ x.f1 ∧ x.f1 ≤ 1114111 ∧ 0 ≤ x.f2 ∧ x.f2 ≤ 999999 := of_decide_eq_true h
def sumLG : List S28 → Int
  | [] => 0
  | x :: r => (x.f1 - x.f0 + 1) + sumLG r
theorem cnt_sumG : ∀ (l : List S28) (la acc : Int), Tab la (rgs l) → 0 ≤ acc → acc + 1114112 * (l.length : Int) ≤ 8000000000000000000 → cntL acc l = acc + sumLG l
  | [], la, acc, _, _, _ => by simp [cntL, sumLG]
  | x :: r, la, acc, h, h0, h1 => by
    obtain ⟨t1, t2, t3⟩ := h
    have b := may_boundsG t1
    simp only [List.length_cons] at h1
    rw [cntL, w64_inG x.f1 (by omega) (by omega), w64_inG x.f0 (by omega) (by omega), w64_inG (x.f1 - x.f0) (by omega) (by omega), w64_inG (x.f1 - x.f0 + 1) (by omega) (by omega), w64_inG (acc + (x.f1 - x.f0 + 1)) (by omega) (by omega),
      cnt_sumG r x.f1 _ t3 (by omega) (by omega), sumLG]
    omega
theorem count_fG (l : List S28) (hl : l.length ≤ 2000) (k : Nat) (hk : l.length < k) : ranges_Count.f k l = some (cntL 0 l) := by
  have h := count_loop l hl l.length 0 k 0 (by omega) hk
  rw [List.drop_zero] at h
  exact h
theorem rfind_fG (l : List S28) (hl : l.length ≤ 2000) (a : Int) (k : Nat) (hk : l.length < k) : eponymref03_Find.f k l a = some (findS (rgs l) a) := by
  have h := find_loop l hl a l.length 0 k (by omega) hk
  rw [List.drop_zero] at h
  exact h
theorem right_notG (l : List S28) (hl : l.length ≤ 60) (hT : ¬ Tab (-1) (rgs l)) : eponymlaw03_Right.f 400 l = some false := by
  obtain ⟨c1, c2, hc, hct⟩ := check_loop l (by omega) l.length 0 400 (by omega) (by omega)
  rw [List.drop_zero] at hct
  unfold eponymlaw03_Right.f eponymref03_Check.f
  rw [if_neg (by omega), show (0 : Int) = ((0 : Nat) : Int) from rfl, hc, Option.bind_some]
  have : ¬ c2 = 0 := fun h => hT (hct.1 h)
  simp [this]
theorem right_yesG (l : List S28) (hl : l.length ≤ 60) (hT : Tab (-1) (rgs l)) : eponymlaw03_Right.f 400 l = some true := by
  obtain ⟨c1, c2, hc, hct⟩ := check_loop l (by omega) l.length 0 400 (by omega) (by omega)
  rw [List.drop_zero] at hct
  unfold eponymlaw03_Right.f eponymref03_Check.f
  rw [if_neg (by omega), show (0 : Int) = ((0 : Nat) : Int) from rfl, hc, Option.bind_some]
  have : c2 = 0 := hct.2 hT
  simp [this]
theorem goes_sum : ∀ (l : List S28) (la : Int), Tab la (rgs l) → ((goesL (rgs l)).length : Int) = sumLG l
  | [], _, _ => rfl
  | x :: r, la, hT => by
    obtain ⟨h1, h2, h3⟩ := hT
    have b := may_boundsG h1
    have ih := goes_sum r x.f1 h3
    rw [rgs_consG, goesL, List.length_append, runsL_length, sumLG, ← ih]
    dsimp only
    omega
/-- The table's count. -/
theorem goes_count (l : List S28) (hl : l.length ≤ 60) (hT : Tab (-1) (rgs l)) (k : Nat) (hk : l.length < k) : ranges_Count.f k l = some ((goesL (rgs l)).length : Int) := by
  rw [count_fG l (by omega) k hk, cnt_sumG l (-1) 0 hT (by omega) (by omega), goes_sum l _ hT, Int.zero_add]
theorem goes_most (l : List S28) (hl : l.length ≤ 60) (hT : Tab (-1) (rgs l)) : (goesL (rgs l)).length ≤ 70000000 := by
  have h : ∀ (l : List S28) (la : Int), Tab la (rgs l) → sumLG l ≤ 1114112 * (l.length : Int) := by
    intro l
    induction l with
    | nil => intro _ _; exact Int.le_refl _
    | cons x r ih =>
      intro la hT
      obtain ⟨h1, h2, h3⟩ := hT
      have b := may_boundsG h1
      have := ih x.f1 h3
      rw [sumLG]
      simp only [List.length_cons]
      omega
  have h1 := h l _ hT
  have h2 := goes_sum l _ hT
  omega
end Go.Proofs.YthggpjiabklekaaGreatDoor.PRg
