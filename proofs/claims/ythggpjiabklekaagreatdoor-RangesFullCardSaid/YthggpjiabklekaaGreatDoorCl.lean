/- slices.Clone of ranges. -/
import Derived.Test.YthggpjiabklekaaGreatDoorPl
import Derived.Laws.AppendOwn
import Derived.Laws.OwnMore
import Derived.WalkSpells
namespace Go.Proofs.YthggpjiabklekaaGreatDoor
set_option linter.unusedSimpArgs false
set_option linter.unusedVariables false
open Go.RowKit Go.Lib Go.Sort

theorem cells3_one : ∀ (l : List Rg), ∀ u ∈ cells3 l, u.oneCell' = true
  | [], u, hu => by cases hu
  | x :: r, u, hu => by
    simp only [cells3, List.mem_cons] at hu
    rcases hu with rfl | rfl | rfl | hu
    · rfl
    · rfl
    · rfl
    · exact cells3_one r u hu
theorem lies_cells {w : World} {ad : Addr} : ∀ (p : List Rg), (∀ j (hj : j < p.length), w.cell? (ad.add (j * 3)) = some (.int .i32 p[j].1) ∧ w.cell? (ad.add (j * 3 + 1)) = some (.int .i32 p[j].2.1) ∧ w.cell? (ad.add (j * 3 + 2)) = some (.int .i64 p[j].2.2)) → ∀ j u, (cells3 p)[j]? = some u → w.cell? (ad.add j) = some u := by
  intro p h j u hu
  have hj : j < (cells3 p).length := (List.getElem?_eq_some_iff.1 hu).1
  rw [cells3_length] at hj
  have hq : j / 3 < p.length := by omega
  obtain ⟨c1, c2, c3⟩ := cells3_at p (j / 3) hq
  obtain ⟨h1, h2, h3⟩ := h (j / 3) hq
  rcases (by omega : j = j / 3 * 3 ∨ j = j / 3 * 3 + 1 ∨ j = j / 3 * 3 + 2) with e | e | e
  · rw [← e] at c1 h1; rw [c1] at hu; rw [h1, ← hu]
  · rw [← e] at c2 h2; rw [c2] at hu; rw [h2, ← hu]
  · rw [← e] at c3 h3; rw [c3] at hu; rw [h3, ← hu]
set_option maxRecDepth 20000 in
theorem clone_nil (c : Nat) (w : World) : Calls Tryz.prog 40 #[.slice none 0 c] w fun e w' => e = .returned (.slice none 0 0) ∧ w' = w := by
  have hq := fun (x : World) a n c => Lib.run_eql_slice_nil (P := Tryz.prog) x 22 28 a n c 0 0 Tryz.underlying22
  go_enter Tryz.func40, Tryz.ntmps40
  go_wp2
  go_ret
  exact ⟨rfl, rfl⟩
set_option maxRecDepth 20000 in
theorem clone_row (ad : Addr) (c : Nat) (l : List Rg) (w : World) (hl : l.length ≤ 1000000) (hc : l.length ≤ c) (h : ∀ j u, (cells3 l)[j]? = some u → w.cell? (ad.add j) = some u) :
    Calls Tryz.prog 40 #[.slice (some ad) l.length c] w fun e w' => ∃ v', e = .returned v' ∧ w'.ownsRow w.heap.size 28 3 v' l.length (cells3 l) ∧ Below w.heap.size w w' := by
  obtain ⟨i0, hi, hz0, hz1, hz2⟩ := info_parts infoR28
  have H := Lib.hid h
  have HC := Lib.hid hc
  clear h hc
  have hq := fun (x : World) a n c => Lib.run_eql_slice_nil (P := Tryz.prog) x 22 28 a n c 0 0 Tryz.underlying22
  go_enter Tryz.func40, Tryz.ntmps40
  go_wp2_with (at_builtin; refine wpList_append_own _ rfl _ _ 22 rfl w.heap.size 28 i0 (.agg #[.int .i32 0, .int .i32 0, .int .i64 0]) 3 16 Tryz.underlying22 hi hz0 hz1 hz2 rfl (by decide) (.slice (some ⟨w.heap.size, 0, none⟩) 0 0) 0 [] rfl (World.ownsRow_lit w #[] 0 (Nat.le_refl _) (by decide) rfl) ad l.length c (cells3 l) rfl (cells3_length l) (fun j u hj => cell_in ((Below.refl w.heap.size w).alloc (Nat.le_refl _) _) (H.out j u hj)) (cells3_one l) (by simp only [maxLen]; omega) (by omega) (by simp) ?_; intro v' w1 hown hg _; have HO := Lib.hid hown; have HB := Lib.hid (((Below.refl w.heap.size w).alloc (Nat.le_refl _) (.cells #[] 28)).grown hg (by simp) (by intro k hk; simp [Value.ownBlock] at hk; omega)); clear hown hg)
  go_ret
  exact ⟨_, rfl, by simpa using HO.out, HB.out⟩
theorem clone_any (A : Option Addr) (c : Nat) (p : List Rg) (w : World) (hl : p.length ≤ 1000000) (hc : p.length ≤ c) (hA : Lies w A p) :
    Calls Tryz.prog 40 #[.slice A p.length c] w fun e w' => ∃ v', e = .returned v' ∧ w'.ownsRow w.heap.size 28 3 v' p.length (cells3 p) ∧ Below w.heap.size w w' := by
  by_cases h0 : p = []
  · subst h0
    cases A with
    | none =>
      refine (clone_nil c w).mono ?_
      rintro e w' ⟨rfl, rfl⟩
      exact ⟨_, rfl, World.ownsRow_nil _ _ _ _, Below.refl _ _⟩
    | some ad => exact clone_row ad c [] w (by simp) (by simp) (fun j u h => by simp [cells3] at h)
  · obtain ⟨ad, rfl, h⟩ := hA (List.length_pos_iff.2 h0)
    exact clone_row ad c p w hl hc (lies_cells p h)
end Go.Proofs.YthggpjiabklekaaGreatDoor
