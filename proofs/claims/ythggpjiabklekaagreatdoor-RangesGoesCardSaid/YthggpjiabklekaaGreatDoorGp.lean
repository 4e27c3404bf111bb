/- What ranges.All yields, plain. -/
import Derived.Test.YthggpjiabklekaaGreatDoorFd
namespace Go.Proofs.YthggpjiabklekaaGreatDoor
set_option linter.unusedSimpArgs false
set_option linter.unusedVariables false

/-- The runes from lo on, n of them, with their value. -/
def runsL (v : Int) : Int → Nat → List (Int × Int)
  | _, 0 => []
  | lo, n + 1 => (lo, v) :: runsL v (lo + 1) n
/-- All runes of all rows. -/
def goesL : List Rg → List (Int × Int)
  | [] => []
  | x :: r => runsL x.2.2 x.1 (x.2.1 - x.1 + 1).toNat ++ goesL r
theorem runsL_length (v : Int) : ∀ (n : Nat) (lo : Int), (runsL v lo n).length = n
  | 0, _ => rfl
  | n + 1, lo => by rw [runsL, List.length_cons, runsL_length v n]
theorem runsL_mem (v : Int) : ∀ (n : Nat) (lo : Int) (y : Int × Int), y ∈ runsL v lo n → lo ≤ y.1 ∧ y.1 < lo + n ∧ y.2 = v
  | 0, lo, y, h => by cases h
  | n + 1, lo, y, h => by
    rw [runsL] at h
    rcases List.mem_cons.1 h with rfl | h
    · exact ⟨Int.le_refl _, by show lo < _; omega, rfl⟩
    · obtain ⟨h1, h2, h3⟩ := runsL_mem v n (lo + 1) y h
      exact ⟨by omega, by omega, h3⟩
/-- What is yielded lies in a row, with the row's value. -/
theorem goesL_mem : ∀ (p : List Rg) (la : Int), Tab la p → ∀ y ∈ goesL p, ∃ x ∈ p, x.1 ≤ y.1 ∧ y.1 ≤ x.2.1 ∧ y.2 = x.2.2
  | [], _, _, y, h => by cases h
  | x :: r, la, hT, y, h => by
    obtain ⟨h1, h2, h3⟩ := hT
    have hle := tab_le h1
    rw [goesL] at h
    rcases List.mem_append.1 h with h | h
    · obtain ⟨g1, g2, g3⟩ := runsL_mem _ _ _ y h
      exact ⟨x, List.mem_cons_self, g1, by omega, g3⟩
    · obtain ⟨z, hz, hh⟩ := goesL_mem r _ h3 y h
      exact ⟨z, List.mem_cons_of_mem _ hz, hh⟩
/-- A table says of a rune of a row the row's value. -/
theorem findS_row : ∀ (p : List Rg) (la : Int), Tab la p → ∀ x ∈ p, ∀ r, x.1 ≤ r → r ≤ x.2.1 → findS p r = (x.2.2, true)
  | [], _, _, x, hx, _, _, _ => by cases hx
  | y :: q, la, hT, x, hx, r, h1, h2 => by
    obtain ⟨t1, t2, t3⟩ := hT
    rcases List.mem_cons.1 hx with rfl | hx
    · unfold findS
      rw [List.find?_cons_of_pos (by simp [h1, h2])]
    · have hg := tab_ge q _ t3 x hx
      have hn : ¬ (y.1 ≤ r ∧ r ≤ y.2.1) := by omega
      have ih := findS_row q _ t3 x hx r h1 h2
      unfold findS at ih ⊢
      rw [List.find?_cons_of_neg (by simpa using hn)]
      exact ih
/-- What is yielded is what the table says. -/
theorem goesL_find (p : List Rg) (hT : Tab (-1) p) (y : Int × Int) (h : y ∈ goesL p) : findS p y.1 = (y.2, true) := by
  obtain ⟨x, hx, h1, h2, h3⟩ := goesL_mem p _ hT y h
  rw [findS_row p _ hT x hx y.1 h1 h2, h3]
theorem runsL_rise (v : Int) : ∀ (n : Nat) (lo : Int), (runsL v lo n).Pairwise fun a b => a.1 < b.1
  | 0, _ => List.Pairwise.nil
  | n + 1, lo => by
    rw [runsL, List.pairwise_cons]
    refine ⟨fun b hb => ?_, runsL_rise v n (lo + 1)⟩
    have := runsL_mem v n (lo + 1) b hb
    show lo < b.1
    omega
/-- It rises. -/
theorem goesL_rise : ∀ (p : List Rg) (la : Int), Tab la p → (goesL p).Pairwise fun a b => a.1 < b.1
  | [], _, _ => List.Pairwise.nil
  | x :: r, la, hT => by
    obtain ⟨h1, h2, h3⟩ := hT
    have hle := tab_le h1
    rw [goesL, List.pairwise_append]
    refine ⟨runsL_rise _ _ _, goesL_rise r _ h3, fun a ha b hb => ?_⟩
    obtain ⟨g1, g2, -⟩ := runsL_mem _ _ _ a ha
    obtain ⟨z, hz, k1, k2, -⟩ := goesL_mem r _ h3 b hb
    have := tab_ge r _ h3 z hz
    omega
end Go.Proofs.YthggpjiabklekaaGreatDoor
