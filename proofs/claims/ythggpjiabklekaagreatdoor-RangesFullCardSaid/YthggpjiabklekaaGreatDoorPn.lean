/- RangesFinds: the law, plain. -/
import Derived.Test.YthggpjiabklekaaGreatDoorPRgx2
namespace Go.Proofs.YthggpjiabklekaaGreatDoor.PRg
set_option linter.unusedSimpArgs false
set_option linter.unusedVariables false
open Go.RowKit Go.Proofs.YthggpjiabklekaaGreatDoorW.PrintWords Go.Proofs.YthggpjiabklekaaGreatDoorW.PrintLast Go.Proofs.YthggpjiabklekaaGreatDoorW.PrintMore

theorem rd_at (l : List S28) (i : Nat) (h : i < l.length) : rd_T28 l (i : Int) = l[i] := by unfold rd_T28; rw [Int.toNat_natCast, List.getD_eq_getElem?_getD, List.getElem?_eq_getElem h]; rfl
theorem w64_nat (i : Nat) (h : i ≤ 1000000) : wrap64 (i : Int) = i := by rw [wrap64]; omega
theorem w64_succ (i : Nat) (h : i ≤ 999999) : wrap64 ((i : Int) + 1) = ((i + 1 : Nat) : Int) := by rw [← w64_nat (i + 1) (by omega)]; rfl
theorem w64_pred (i : Nat) (h : i ≤ 1000000) (h0 : 0 < i) : wrap64 ((i : Int) - 1) = ((i - 1 : Nat) : Int) := by
  have e : (i : Int) - 1 = ((i - 1 : Nat) : Int) := by omega
  rw [e, w64_nat (i - 1) (by omega)]
theorem may_eq (a b v : Int) : eponymref03_May.f a b v = some (mayB (a, b, v)) := by
  unfold eponymref03_May.f mayB
  split
  · split
    · split
      · split
        · congr 1; rw [decide_eq_decide]; dsimp only; omega
        · congr 1; symm; rw [decide_eq_false_iff_not]; dsimp only; omega
      · congr 1; symm; rw [decide_eq_false_iff_not]; dsimp only; omega
    · congr 1; symm; rw [decide_eq_false_iff_not]; dsimp only; omega
  · congr 1; symm; rw [decide_eq_false_iff_not]; dsimp only; omega
def prevL (l : List S28) (i : Nat) : Int := if i = 0 then -1 else (l.getD (i - 1) z28).f1
theorem prev_succ (l : List S28) (i : Nat) (h : i < l.length) : prevL l (i + 1) = l[i].f1 := by
  unfold prevL
  rw [if_neg (by omega), Nat.add_sub_cancel, List.getD_eq_getElem?_getD, List.getElem?_eq_getElem h]; rfl
theorem rgs_drop (l : List S28) (i : Nat) (h : i < l.length) : rgs (l.drop i) = (l[i].f0, l[i].f1, l[i].f2) :: rgs (l.drop (i + 1)) := by
  rw [List.drop_eq_getElem_cons h]; rfl
theorem check_loop (l : List S28) (hl : l.length ≤ 2000) : ∀ (n i k : Nat), i + n = l.length → n < k → ∃ c1 c2, eponymref03_Check.l0 k l (i : Int) = some (c1, c2) ∧ (c2 = 0 ↔ Tab (prevL l i) (rgs (l.drop i)))
  | 0, i, k, hi, hk => by
    obtain ⟨k, rfl⟩ : ∃ k', k = k' + 1 := ⟨k - 1, by omega⟩
    refine ⟨0, 0, ?_, ?_⟩
    · rw [eponymref03_Check.l0, if_neg (by omega)]
    · rw [List.drop_eq_nil_of_le (by omega)]; simp [rgs, Tab]
  | n + 1, i, k, hi, hk => by
    obtain ⟨k, rfl⟩ : ∃ k', k = k' + 1 := ⟨k - 1, by omega⟩
    have hil : i < l.length := by omega
    obtain ⟨c1, c2, ih, ihc⟩ := check_loop l hl n (i + 1) k (by omega) (by omega)
    rw [eponymref03_Check.l0, if_pos (by omega), if_pos (by omega), rd_at l i hil, may_eq, Option.bind_some, rgs_drop l i hil, Tab]
    rw [prev_succ l i hil] at ihc
    dsimp only
    by_cases hm : mayB (l[i].f0, l[i].f1, l[i].f2) = true
    · rw [if_pos hm, w64_succ i (by omega)]
      have hm0 : 0 ≤ l[i].f0 := by have := of_decide_eq_true hm; exact this.1
      by_cases h0 : i = 0
      · subst h0
        rw [if_neg (by omega)]
        refine ⟨c1, c2, ih, ihc.trans ?_⟩
        unfold prevL
        rw [if_pos rfl]
        exact ⟨fun h => ⟨hm, by omega, h⟩, fun h => h.2.2⟩
      · rw [if_pos (by omega), w64_pred i (by omega) (by omega), if_pos (by omega), if_pos (by omega), rd_at l (i - 1) (by omega)]
        have hp : prevL l i = l[i - 1].f1 := by
          have h := prev_succ l (i - 1) (by omega)
          rwa [Nat.sub_add_cancel (by omega)] at h
        rw [hp]
        by_cases hc : l[i].f0 ≤ l[i - 1].f1
        · rw [if_pos hc]
          refine ⟨_, _, rfl, ?_⟩
          constructor
          · intro h; exact absurd h (by decide)
          · intro h; have := h.2.1; omega
        · rw [if_neg hc]
          exact ⟨c1, c2, ih, ihc.trans ⟨fun h => ⟨hm, by omega, h⟩, fun h => h.2.2⟩⟩
    · rw [if_neg hm]
      refine ⟨_, _, rfl, ?_⟩
      constructor
      · intro h; exact absurd h (by decide)
      · intro h; exact absurd h.1 hm
theorem find_loop (l : List S28) (hl : l.length ≤ 2000) (a : Int) : ∀ (n i k : Nat), i + n = l.length → n < k → eponymref03_Find.l0 k l a (i : Int) = some (findS (rgs (l.drop i)) a)
  | 0, i, k, hi, hk => by
    obtain ⟨k, rfl⟩ : ∃ k', k = k' + 1 := ⟨k - 1, by omega⟩
    rw [eponymref03_Find.l0, if_neg (by omega), List.drop_eq_nil_of_le (by omega)]
    rfl
  | n + 1, i, k, hi, hk => by
    obtain ⟨k, rfl⟩ : ∃ k', k = k' + 1 := ⟨k - 1, by omega⟩
    have hil : i < l.length := by omega
    have ih := find_loop l hl a n (i + 1) k (by omega) (by omega)
    rw [eponymref03_Find.l0, if_pos (by omega), if_pos (by omega), rd_at l i hil, rgs_drop l i hil, w64_succ i (by omega), ih]
    unfold findS
    by_cases h1 : l[i].f0 ≤ a
    · rw [if_pos h1]
      by_cases h2 : a ≤ l[i].f1
      · rw [if_pos h2, List.find?_cons_of_pos (by simp [h1, h2])]
      · rw [if_neg h2, List.find?_cons_of_neg (by simp [h2])]
    · rw [if_neg h1, List.find?_cons_of_neg (by simp [h1])]
def cntL : Int → List S28 → Int
  | acc, [] => acc
  | acc, x :: r => cntL (wrap64 (acc + (wrap64 ((wrap64 ((wrap64 x.f1) - (wrap64 x.f0))) + 1)))) r
theorem count_loop (l : List S28) (hl : l.length ≤ 2000) : ∀ (n i k : Nat) (acc : Int), i + n = l.length → n < k → ranges_Count.l0 k acc l (l.length : Int) (i : Int) = some (cntL acc (l.drop i))
  | 0, i, k, acc, hi, hk => by
    obtain ⟨k, rfl⟩ : ∃ k', k = k' + 1 := ⟨k - 1, by omega⟩
    rw [ranges_Count.l0, if_neg (by omega), List.drop_eq_nil_of_le (by omega)]
    rfl
  | n + 1, i, k, acc, hi, hk => by
    obtain ⟨k, rfl⟩ : ∃ k', k = k' + 1 := ⟨k - 1, by omega⟩
    have hil : i < l.length := by omega
    rw [ranges_Count.l0, if_pos (by omega), if_pos (by omega), if_pos (by omega), rd_at l i hil, w64_succ i (by omega), count_loop l hl n (i + 1) k _ (by omega) (by omega), List.drop_eq_getElem_cons hil]
    rfl
theorem law_loop (l : List S28) (hl : l.length ≤ 2000) (v : Int) (b : Bool) : ∀ (n i k : Nat) (acc : Int), i + n = l.length → n + l.length + 1 < k → cntL acc (l.drop i) = cntL 0 l → eponymlaw03_RangesFinds.l0 k l v b v b acc (i : Int) = some true
  | 0, i, k, acc, hi, hk, hc => by
    obtain ⟨k, rfl⟩ : ∃ k', k = k' + 1 := ⟨k - 1, by omega⟩
    rw [List.drop_eq_nil_of_le (by omega), cntL] at hc
    have h := count_loop l hl l.length 0 k 0 (by omega) (by omega)
    rw [List.drop_zero, ← hc] at h
    rw [eponymlaw03_RangesFinds.l0, if_neg (by omega), if_pos rfl, if_pos (by simp)]
    unfold ranges_Count.f
    rw [show (0 : Int) = ((0 : Nat) : Int) from rfl] at *
    rw [h]
    simp
  | n + 1, i, k, acc, hi, hk, hc => by
    obtain ⟨k, rfl⟩ : ∃ k', k = k' + 1 := ⟨k - 1, by omega⟩
    have hil : i < l.length := by omega
    rw [List.drop_eq_getElem_cons hil, cntL] at hc
    rw [eponymlaw03_RangesFinds.l0, if_pos (by omega), if_pos (by omega), rd_at l i hil, w64_succ i (by omega)]
    exact law_loop l hl v b n (i + 1) k _ (by omega) (by omega) hc
theorem finds_f (l : List S28) (a : Int) : eponymlaw03_RangesFinds.f 400 l a = some true := by
  unfold eponymlaw03_RangesFinds.f eponymlaw03_awake.f
  rw [Option.bind_some, if_pos rfl]
  by_cases hl : (l.length : Int) > 60
  · rw [if_pos hl, eponymlaw03_RangesFinds.j0, if_pos rfl]
  · rw [if_neg hl]
    obtain ⟨c1, c2, hc, hct⟩ := check_loop l (by omega) l.length 0 400 (by omega) (by omega)
    rw [List.drop_zero] at hct
    unfold eponymlaw03_Right.f eponymref03_Check.f
    rw [if_neg (by omega), show (0 : Int) = ((0 : Nat) : Int) from rfl, hc, Option.bind_some, Option.bind_some]
    by_cases h2 : c2 = 0
    · have hT := hct.1 h2
      have ht : tableB (rgs l) = true := (tab_iff _).2 hT
      have hfr := find_loop l (by omega) a l.length 0 399 (by omega) (by omega)
      rw [List.drop_zero] at hfr
      rw [show (!(c2 == ((0 : Nat) : Int))) = false by simp [h2], eponymlaw03_RangesFinds.j0, if_neg (by simp)]
      unfold ranges_Find.f eponymref03_Find.f
      rw [if_pos ⟨ht, by omega⟩, Option.bind_some, show (0 : Int) = ((0 : Nat) : Int) from rfl, hfr, Option.bind_some]
      exact law_loop l (by omega) _ _ l.length 0 399 _ (by omega) (by omega) (by rw [List.drop_zero]; rfl)
    · rw [show (!(c2 == ((0 : Nat) : Int))) = true by simp [h2], eponymlaw03_RangesFinds.j0, if_pos rfl]
end Go.Proofs.YthggpjiabklekaaGreatDoor.PRg
