/- ranges.Find of a table. -/
import Derived.Test.YthggpjiabklekaaGreatDoorKr
import Derived.Test.YthggpjiabklekaaGreatDoorSe
namespace Go.Proofs.YthggpjiabklekaaGreatDoor
set_option linter.unusedSimpArgs false
set_option linter.unusedVariables false
open Go.RowKit Go.Lib Go.Sort

/-- A table: no range is at fault. -/
def tableB (p : List Rg) : Bool := (faultsL (-1) p 0).isEmpty
/-- What a table says of a rune. -/
def findS (p : List Rg) (r : Int) : Int × Bool :=
  match p.find? (fun x => decide (x.1 ≤ r ∧ r ≤ x.2.1)) with
  | some x => (x.2.2, true)
  | none => (0, false)
def z3 : Rg := (0, 0, 0)
/-- How many ranges end ahead of r. -/
def posS (p : List Rg) (r : Int) : Nat := (List.range p.length).countP (fun i => !decide (r ≤ (p.getD i z3).2.1))
theorem posS_le (p : List Rg) (r : Int) : posS p r ≤ p.length := by
  unfold posS
  refine Nat.le_trans List.countP_le_length ?_
  simp
/-- The ranges of a table: each may be, each begins behind the one ahead. -/
def Tab : Int → List Rg → Prop
  | _, [] => True
  | la, x :: r => mayB x = true ∧ la < x.1 ∧ Tab x.2.1 r
theorem tab_of : ∀ (p : List Rg) (la : Int) (i : Nat), faultsL la p i = [] ↔ Tab la p
  | [], _, _ => by simp [faultsL, Tab]
  | x :: r, la, i => by
    rw [faultsL, List.append_eq_nil_iff, tab_of r x.2.1 (i + 1), Tab]
    cases hm : mayB x with
    | false => simp
    | true =>
      by_cases h : x.1 ≤ la
      · simp [h]; omega
      · simp [h]; omega
theorem tab_iff (p : List Rg) : tableB p = true ↔ Tab (-1) p := by
  unfold tableB
  rw [List.isEmpty_iff, tab_of]
theorem tab_le {x : Rg} (h : mayB x = true) : x.1 ≤ x.2.1 := by
  unfold mayB at h
  rw [decide_eq_true_eq] at h
  exact h.2.1
theorem tab_ge : ∀ (p : List Rg) (la : Int), Tab la p → ∀ x ∈ p, la < x.1 ∧ x.1 ≤ x.2.1
  | [], _, _, x, hx => by cases hx
  | y :: r, la, h, x, hx => by
    obtain ⟨h1, h2, h3⟩ := h
    rcases List.mem_cons.1 hx with rfl | hx
    · exact ⟨h2, tab_le h1⟩
    · have := tab_ge r y.2.1 h3 x hx
      have := tab_le h1
      omega
/-- The ends of a table's ranges rise. -/
theorem tab_rise : ∀ (p : List Rg) (la : Int), Tab la p → ∀ a b (ha : a < b) (hb : b < p.length), (p[a]'(by omega)).2.1 < p[b].1
  | [], _, _, a, b, ha, hb => by simp at hb
  | y :: r, la, h, a, b, ha, hb => by
    obtain ⟨h1, h2, h3⟩ := h
    obtain ⟨b, rfl⟩ : ∃ b', b = b' + 1 := ⟨b - 1, by omega⟩
    cases a with
    | zero => exact (tab_ge r y.2.1 h3 _ (List.getElem_mem (by simpa using hb))).1
    | succ a => exact tab_rise r y.2.1 h3 a b (by omega) (by simpa using hb)
theorem getD_at (p : List Rg) (i : Nat) (h : i < p.length) : p.getD i z3 = p[i] := by rw [List.getD_eq_getElem?_getD, List.getElem?_eq_getElem h]; rfl
theorem tab_mono (p : List Rg) (hT : Tab (-1) p) (r : Int) : ∀ a b, a ≤ b → b < p.length → r ≤ (p.getD a z3).2.1 → r ≤ (p.getD b z3).2.1 := by
  intro a b hab hb h
  rw [getD_at p b hb]
  rw [getD_at p a (by omega)] at h
  by_cases e : a = b
  · subst e; exact h
  · have h1 := tab_rise p (-1) hT a b (by omega) hb
    have h2 := (tab_ge p (-1) hT p[b] (List.getElem_mem hb)).2
    omega
theorem count_at (f : Nat → Bool) : ∀ (n : Nat), (∀ a b, a ≤ b → b < n → f a = true → f b = true) → ∀ i, i < n → (f i = false ↔ i < (List.range n).countP (fun i => !f i))
  | 0, _, i, hi => by omega
  | n + 1, hm, i, hi => by
    have ih := count_at f n (fun a b h1 h2 => hm a b h1 (by omega))
    rw [List.range_succ, List.countP_append]
    have hc : (List.range n).countP (fun i => !f i) ≤ n := by
      refine Nat.le_trans List.countP_le_length ?_
      simp
    cases hf : f n with
    | true =>
      have e : [n].countP (fun i => !f i) = 0 := by simp [hf]
      rw [e, Nat.add_zero]
      by_cases hin : i < n
      · exact ih i hin
      · obtain rfl : i = n := by omega
        rw [hf]
        simp
        omega
    | false =>
      have e : [n].countP (fun i => !f i) = 1 := by simp [hf]
      have hall : (List.range n).countP (fun i => !f i) = n := by
        have : (List.range n).countP (fun i => !f i) = (List.range n).length := by
          rw [List.countP_eq_length]
          intro a ha
          rw [List.mem_range] at ha
          cases hfa : f a with
          | false => rfl
          | true =>
            have := hm a n (by omega) (by omega) hfa
            rw [hf] at this
            cases this
        rw [this, List.length_range]
      rw [e, hall]
      have : f i = false := by
        cases hfi : f i with
        | false => rfl
        | true =>
          have := hm i n (by omega) (by omega) hfi
          rw [hf] at this
          cases this
      simp [this]
      omega
theorem find_none (p : List Rg) (r : Int) (h : ∀ x ∈ p, ¬ (x.1 ≤ r ∧ r ≤ x.2.1)) : findS p r = (0, false) := by
  unfold findS
  have : p.find? (fun x => decide (x.1 ≤ r ∧ r ≤ x.2.1)) = none := by
    rw [List.find?_eq_none]
    intro x hx
    simpa using h x hx
  rw [this]
theorem find_pos (p : List Rg) (hT : Tab (-1) p) (r : Int) (k : Nat) (hk : posS p r = k) : (k = p.length → findS p r = (0, false)) ∧ ∀ h : k < p.length, (p[k].1 > r → findS p r = (0, false)) ∧ (¬ p[k].1 > r → findS p r = (p[k].2.2, true)) := by
  have hc : ∀ i (hi : i < p.length), ¬ r ≤ p[i].2.1 ↔ i < k := by
    intro i hi
    have := count_at (fun i => decide (r ≤ (p.getD i z3).2.1)) p.length (fun a b h1 h2 h3 => by
      rw [decide_eq_true_eq] at h3 ⊢
      exact tab_mono p hT r a b h1 h2 h3) i hi
    rw [decide_eq_false_iff_not, getD_at p i hi] at this
    rw [this, ← hk]
    rfl
  refine ⟨fun e => find_none p r ?_, fun h => ⟨fun hg => find_none p r ?_, fun hg => ?_⟩⟩
  · intro x hx ⟨_, h2⟩
    obtain ⟨i, hi, rfl⟩ := List.getElem_of_mem hx
    exact (hc i hi).2 (by omega) h2
  · intro x hx ⟨h1, h2⟩
    obtain ⟨i, hi, rfl⟩ := List.getElem_of_mem hx
    by_cases hik : i < k
    · exact (hc i hi).2 hik h2
    · by_cases e : i = k
      · subst e; omega
      · have h3 := tab_rise p (-1) hT k i (by omega) hi
        have h4 := (tab_ge p (-1) hT p[k] (List.getElem_mem h)).2
        omega
  · have hin : r ≤ p[k].2.1 := by
      refine Classical.byContradiction fun hn => ?_
      have := (hc k h).1 hn
      omega
    unfold findS
    have hf : p.find? (fun x => decide (x.1 ≤ r ∧ r ≤ x.2.1)) = some p[k] := by
      rw [List.find?_eq_some_iff_getElem]
      refine ⟨by simp; omega, k, h, rfl, fun j hj => ?_⟩
      have := (hc j (by omega)).2 hj
      simp
      omega
    rw [hf]
theorem find_cl (ad : Addr) (c i len : Nat) (y n : Int) (ba bx : Nat) (x : World) (hi : i < len) (hl : len ≤ 1000000) (h0 : x.cell? ⟨ba, 0, none⟩ = some (.slice (some ad) len c)) (h1 : x.cell? ⟨bx, 0, none⟩ = some (.int .i32 n))
    (h2 : x.cell? (ad.add (i * 3 + 1)) = some (.int .i32 y)) :
    Calls Tryz.prog 28 #[.int .i64 i, .pointer (some ⟨ba, 0, none⟩), .pointer (some ⟨bx, 0, none⟩)] x fun e w' => e = .returned (.bool (decide (n ≤ y))) ∧ ∃ q, w' = x.drewN q := by
  have h2' : x.cell? ((ad.add (i * 3)).add 1) = some (.int .i32 y) := by rw [Addr.add_add]; exact h2
  have h2'' : x.cell? { block := (ad.add (i * 3)).block, off := (ad.add (i * 3)).off + 1 } = some (.int .i32 y) := h2'
  go_enter Tryz.func28, Tryz.ntmps28
  go_wp2
  go_quiet (fail)
  go_wp2
  go_ret
  exact ⟨by simp, nq, rfl⟩
end Go.Proofs.YthggpjiabklekaaGreatDoor
