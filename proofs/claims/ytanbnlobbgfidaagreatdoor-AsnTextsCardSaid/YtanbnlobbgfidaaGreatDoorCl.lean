/- slices.Clone of spans. -/
import Derived.Test.YtanbnlobbgfidaaGreatDoorCo
import Derived.Laws.AppendOwn
import Derived.Laws.OwnMore
import Derived.WalkSpells
namespace Go.Proofs.YtanbnlobbgfidaaGreatDoor
set_option linter.unusedSimpArgs false
set_option linter.unusedVariables false
open Go.RowKit Go.Lib Go.Sort

/-- The cells of spans in a row. -/
def flat (l : List (Int × Int)) : List Value := l.flatMap encSpan
theorem flat_length (l : List (Int × Int)) : (flat l).length = l.length * 2 := by
  unfold flat
  induction l with
  | nil => rfl
  | cons x r ih => simp [List.flatMap_cons, encSpan] at ih ⊢; omega
theorem flat_one (l : List (Int × Int)) : ∀ u ∈ flat l, u.oneCell' = true := by
  intro u hu
  unfold flat at hu
  obtain ⟨x, _, hx⟩ := List.mem_flatMap.1 hu
  simp [encSpan] at hx
  rcases hx with rfl | rfl <;> rfl
theorem flat_append (a b : List (Int × Int)) : flat (a ++ b) = flat a ++ flat b := by unfold flat; simp
/-- A value that reads as spans. -/
def Reads (w : World) (v : Value) (l : List (Int × Int)) : Prop :=
  (∃ c, v = .slice none 0 c ∧ l = []) ∨ ∃ ad c, v = .slice (some ad) l.length c ∧ l.length ≤ c ∧ ∀ j u, (flat l)[j]? = some u → w.cell? (ad.add j) = some u
theorem Reads.below {w w' : World} {v : Value} {l : List (Int × Int)} (h : Reads w v l) (hb : Below w.heap.size w w') : Reads w' v l := by
  rcases h with h | ⟨ad, c, h1, h2, h3⟩
  · exact .inl h
  · exact .inr ⟨ad, c, h1, h2, fun j u hj => cell_in hb (h3 j u hj)⟩
theorem infoSpan : (Tryz.prog.info? 28).map (fun i => (i.zero, i.size, i.bytes)) = some (some (.agg #[.int .u32 0, .int .u32 0]), 2, 8) := by kernel_rfl

set_option maxRecDepth 20000 in
theorem clone_nil (c : Nat) (w : World) : Calls Tryz.prog 21 #[.slice none 0 c] w fun e w' => e = .returned (.slice none 0 0) ∧ w' = w := by
  have hq := fun (x : World) a n c => Lib.run_eql_slice_nil (P := Tryz.prog) x 22 28 a n c 0 0 Tryz.underlying22
  go_enter Tryz.func21, Tryz.ntmps21
  go_wp2
  go_ret
  exact ⟨rfl, rfl⟩
set_option maxRecDepth 20000 in
theorem clone_row (ad : Addr) (c : Nat) (l : List (Int × Int)) (w : World) (hl : l.length ≤ 1000000) (hc : l.length ≤ c) (h : ∀ j u, (flat l)[j]? = some u → w.cell? (ad.add j) = some u) :
    Calls Tryz.prog 21 #[.slice (some ad) l.length c] w fun e w' => ∃ v', e = .returned v' ∧ w'.ownsRow w.heap.size 28 2 v' l.length (flat l) ∧ Below w.heap.size w w' := by
  obtain ⟨i0, hi, hz0, hz1, hz2⟩ := info_parts infoSpan
  have H := Lib.hid h
  have HC := Lib.hid hc
  clear h hc
  have hq := fun (x : World) a n c => Lib.run_eql_slice_nil (P := Tryz.prog) x 22 28 a n c 0 0 Tryz.underlying22
  go_enter Tryz.func21, Tryz.ntmps21
  go_wp2_with (at_builtin; refine wpList_append_own _ rfl _ _ 22 rfl w.heap.size 28 i0 (.agg #[.int .u32 0, .int .u32 0]) 2 8 Tryz.underlying22 hi hz0 hz1 hz2 rfl (by decide) (.slice (some ⟨w.heap.size, 0, none⟩) 0 0) 0 [] rfl (World.ownsRow_lit w #[] 0 (Nat.le_refl _) (by decide) rfl) ad l.length c (flat l) rfl (flat_length l) (fun j u hj => cell_in ((Below.refl w.heap.size w).alloc (Nat.le_refl _) _) (H.out j u hj)) (flat_one l) (by simp only [maxLen]; omega) (by omega) (by simp) ?_; intro v' w1 hown hg _; have HO := Lib.hid hown; have HB := Lib.hid (((Below.refl w.heap.size w).alloc (Nat.le_refl _) (.cells #[] 28)).grown hg (by simp) (by intro k hk; simp [Value.ownBlock] at hk; omega)); clear hown hg)
  go_ret
  exact ⟨_, rfl, by simpa using HO.out, HB.out⟩
theorem clone_any (v : Value) (l : List (Int × Int)) (w : World) (hl : l.length ≤ 1000000) (h : Reads w v l) :
    Calls Tryz.prog 21 #[v] w fun e w' => ∃ v', e = .returned v' ∧ w'.ownsRow w.heap.size 28 2 v' l.length (flat l) ∧ Below w.heap.size w w' := by
  rcases h with ⟨c, rfl, rfl⟩ | ⟨ad, c, rfl, hc, h⟩
  · refine (clone_nil c w).mono ?_
    rintro e w' ⟨rfl, rfl⟩
    exact ⟨_, rfl, World.ownsRow_nil _ _ _ _, Below.refl _ _⟩
  · exact clone_row ad c l w hl hc h
end Go.Proofs.YtanbnlobbgfidaaGreatDoor
