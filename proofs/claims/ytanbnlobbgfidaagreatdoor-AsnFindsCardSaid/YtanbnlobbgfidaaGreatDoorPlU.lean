/- What asn.Union and asn.Gaps do, in plain Lean. -/
import Derived.Test.YtanbnlobbgfidaaGreatDoorUn
namespace Go.Proofs.YtanbnlobbgfidaaGreatDoor
set_option linter.unusedSimpArgs false
set_option linter.unusedVariables false
open Go.Sort

abbrev Sp := Int × Int
/-- Has one of the spans a number? -/
def Has (l : List Sp) (n : Int) : Prop := ∃ x ∈ l, x.1 ≤ n ∧ n ≤ x.2
def RightS (l : List Sp) : Prop := ∀ x ∈ l, x.1 ≤ x.2
/-- A row. -/
def RowS (l : List Sp) : Prop := l.Pairwise (fun a b => a.2 < b.1) ∧ RightS l
/-- A row of which no two spans could be one. -/
def GoodS (l : List Sp) : Prop := l.Pairwise (fun a b => a.2 + 1 < b.1) ∧ RightS l
theorem GoodS.row {l : List Sp} (h : GoodS l) : RowS l := ⟨h.1.imp (fun h => by omega), h.2⟩
theorem has_append (a b : List Sp) (n : Int) : Has (a ++ b) n ↔ Has a n ∨ Has b n := by
  unfold Has
  constructor
  · rintro ⟨x, hx, h⟩
    rcases List.mem_append.1 hx with hx | hx
    · exact .inl ⟨x, hx, h⟩
    · exact .inr ⟨x, hx, h⟩
  · rintro (⟨x, hx, h⟩ | ⟨x, hx, h⟩)
    · exact ⟨x, List.mem_append_left _ hx, h⟩
    · exact ⟨x, List.mem_append_right _ hx, h⟩
theorem has_one (x : Sp) (n : Int) : Has [x] n ↔ x.1 ≤ n ∧ n ≤ x.2 := by
  unfold Has
  simp
theorem has_cons (x : Sp) (l : List Sp) (n : Int) : Has (x :: l) n ↔ (x.1 ≤ n ∧ n ≤ x.2) ∨ Has l n := by
  rw [show x :: l = [x] ++ l from rfl, has_append, has_one]
theorem has_nil (n : Int) : ¬ Has [] n := by rintro ⟨x, hx, -⟩; cases hx

theorem right_append {a b : List Sp} : RightS (a ++ b) ↔ RightS a ∧ RightS b := by
  unfold RightS
  constructor
  · intro h
    exact ⟨fun x hx => h x (List.mem_append_left _ hx), fun x hx => h x (List.mem_append_right _ hx)⟩
  · rintro ⟨h1, h2⟩ x hx
    rcases List.mem_append.1 hx with hx | hx
    · exact h1 x hx
    · exact h2 x hx
/-- One span more, that begins not ahead of the last one. -/
theorem join_good (out : List Sp) (x : Sp) (h : GoodS out) (hle : ∀ y ∈ out, y.1 ≤ x.1) :
    GoodS (joinS out x) ∧ (∀ n, Has (joinS out x) n ↔ Has out n ∨ (x.1 ≤ n ∧ n ≤ x.2)) ∧ (∀ y ∈ joinS out x, y.1 ≤ x.1) := by
  unfold joinS
  by_cases hb : x.1 > x.2
  · rw [if_pos hb]
    refine ⟨h, fun n => ?_, hle⟩
    constructor
    · exact .inl
    · rintro (h | h)
      · exact h
      · omega
  · rw [if_neg hb]
    rcases List.eq_nil_or_concat out with rfl | ⟨ini, y, hc⟩
    · refine ⟨⟨by simp, fun z hz => by rw [List.mem_singleton.1 hz]; omega⟩, fun n => ?_, fun z hz => by rw [List.mem_singleton.1 hz]; exact Int.le_refl _⟩
      show Has [x] n ↔ _
      rw [has_one]
      constructor
      · exact .inr
      · rintro (h | h)
        · exact absurd h (has_nil n)
        · exact h
    · rw [List.concat_eq_append] at hc
      subst hc
      rw [List.getLast?_concat]
      simp only
      have hy := hle y (by simp)
      obtain ⟨hp, hr⟩ := h
      rw [List.pairwise_append] at hp
      obtain ⟨hp1, -, hp2⟩ := hp
      rw [right_append] at hr
      have hyr := hr.2 y (by simp)
      by_cases hj : x.1 ≤ y.2 + 1
      · rw [if_pos hj, List.dropLast_concat]
        refine ⟨⟨?_, ?_⟩, fun n => ?_, fun z hz => ?_⟩
        · rw [List.pairwise_append]
          exact ⟨hp1, by simp, fun a ha b hb => by rw [List.mem_singleton.1 hb]; exact hp2 a ha y (by simp)⟩
        · rw [right_append]
          exact ⟨hr.1, fun z hz => by rw [List.mem_singleton.1 hz]; simp only; omega⟩
        · rw [has_append, has_append, has_one, has_one]
          simp only
          constructor
          · rintro (h | h)
            · exact .inl (.inl h)
            · by_cases h2 : n ≤ y.2
              · exact .inl (.inr ⟨h.1, h2⟩)
              · exact .inr (by omega)
          · rintro ((h | h) | h)
            · exact .inl h
            · exact .inr (by omega)
            · exact .inr (by omega)
        · rcases List.mem_append.1 hz with hz | hz
          · exact hle z (List.mem_append_left _ hz)
          · rw [List.mem_singleton.1 hz]; exact hy
      · rw [if_neg hj]
        refine ⟨⟨?_, ?_⟩, fun n => ?_, fun z hz => ?_⟩
        · rw [List.pairwise_append]
          refine ⟨by rw [List.pairwise_append]; exact ⟨hp1, by simp, hp2⟩, by simp, fun a ha b hb => ?_⟩
          rw [List.mem_singleton.1 hb]
          rcases List.mem_append.1 ha with ha | ha
          · have := hp2 a ha y (by simp)
            omega
          · rw [List.mem_singleton.1 ha]; omega
        · rw [right_append]
          exact ⟨by rw [right_append]; exact hr, fun z hz => by rw [List.mem_singleton.1 hz]; omega⟩
        · rw [has_append, has_one]
        · rcases List.mem_append.1 hz with hz | hz
          · exact hle z hz
          · rw [List.mem_singleton.1 hz]; exact Int.le_refl _
theorem fold_good : ∀ (ls out : List Sp), GoodS out → ls.Pairwise (fun a b => a.1 ≤ b.1) → (∀ y ∈ out, ∀ x ∈ ls, y.1 ≤ x.1) →
    GoodS (ls.foldl joinS out) ∧ ∀ n, Has (ls.foldl joinS out) n ↔ Has out n ∨ Has ls n
  | [], out, h, _, _ => ⟨h, fun n => ⟨.inl, fun h => h.resolve_right (has_nil n)⟩⟩
  | x :: r, out, h, hs, hle => by
    obtain ⟨h1, h2, h3⟩ := join_good out x h (fun y hy => hle y hy x (List.mem_cons_self ..))
    obtain ⟨hs1, hs2⟩ := List.pairwise_cons.1 hs
    obtain ⟨g1, g2⟩ := fold_good r (joinS out x) h1 hs2 (fun y hy z hz => Int.le_trans (h3 y hy) (hs1 z hz))
    refine ⟨g1, fun n => ?_⟩
    rw [List.foldl_cons, g2, h2, has_cons]
    constructor
    · rintro ((h | h) | h)
      · exact .inl h
      · exact .inr (.inl h)
      · exact .inr (.inr h)
    · rintro (h | h | h)
      · exact .inl (.inl h)
      · exact .inl (.inr h)
      · exact .inr h
theorem spanLe_is (x y : Sp) : spanLe x y = decide (x.1 < y.1 ∨ x.1 = y.1 ∧ y.2 ≤ x.2) := by
  unfold spanLe
  rw [spanCmp_lt]
  rw [Bool.eq_iff_iff]
  simp
  omega
theorem sorted_le (l : List Sp) : (l.mergeSort spanLe).Pairwise (fun a b => a.1 ≤ b.1) := by
  have h := List.pairwise_mergeSort (le := spanLe) (fun a b c h1 h2 => by rw [spanLe_is] at *; simp at *; omega) (fun a b => by rw [spanLe_is, spanLe_is]; simp; omega) l
  exact h.imp (fun h => by rw [spanLe_is] at h; simp at h; omega)
theorem union_good (l : List Sp) : GoodS (unionS l) ∧ ∀ n, Has (unionS l) n ↔ Has l n := by
  obtain ⟨h1, h2⟩ := fold_good (l.mergeSort spanLe) [] ⟨List.Pairwise.nil, fun x hx => by cases hx⟩ (sorted_le l) (fun y hy => by cases hy)
  refine ⟨h1, fun n => ?_⟩
  unfold unionS
  rw [h2]
  have e : Has (l.mergeSort spanLe) n ↔ Has l n := by
    unfold Has
    constructor <;> (rintro ⟨x, hx, h⟩; exact ⟨x, by simpa [List.mem_mergeSort] using hx, h⟩)
  rw [e]
  exact ⟨fun h => h.resolve_left (has_nil n), .inr⟩
theorem union_u32 {l : List Sp} (h : U32s l) : U32s (unionS l) := by
  unfold unionS
  exact U32s.fold (fun z hz => h z (List.mem_mergeSort.1 hz)) [] (fun z hz => by cases hz)
theorem union_len (l : List Sp) : (unionS l).length ≤ l.length := by
  unfold unionS
  have := fold_len (l.mergeSort spanLe) []
  rw [List.length_mergeSort] at this
  simpa using this

/-- Two such rows that have the same numbers are one. -/
theorem good_unique : ∀ (a b : List Sp), GoodS a → GoodS b → (∀ n, Has a n ↔ Has b n) → a = b
  | [], [], _, _, _ => rfl
  | [], y :: s, _, hb, h => by
    have hy := hb.2 y (List.mem_cons_self ..)
    exact absurd ((h y.1).2 ⟨y, List.mem_cons_self .., Int.le_refl _, hy⟩) (has_nil _)
  | x :: r, [], ha, _, h => by
    have hx := ha.2 x (List.mem_cons_self ..)
    exact absurd ((h x.1).1 ⟨x, List.mem_cons_self .., Int.le_refl _, hx⟩) (has_nil _)
  | x :: r, y :: s, ha, hb, h => by
    obtain ⟨ha1, ha2⟩ := List.pairwise_cons.1 ha.1
    obtain ⟨hb1, hb2⟩ := List.pairwise_cons.1 hb.1
    have hx := ha.2 x (List.mem_cons_self ..)
    have hy := hb.2 y (List.mem_cons_self ..)
    have loa : ∀ n, Has (x :: r) n → x.1 ≤ n := by
      rintro n ⟨z, hz, h1, h2⟩
      rcases List.mem_cons.1 hz with rfl | hz
      · exact h1
      · have := ha1 z hz; omega
    have lob : ∀ n, Has (y :: s) n → y.1 ≤ n := by
      rintro n ⟨z, hz, h1, h2⟩
      rcases List.mem_cons.1 hz with rfl | hz
      · exact h1
      · have := hb1 z hz; omega
    have e1 : x.1 = y.1 := Int.le_antisymm (loa _ ((h y.1).2 ⟨y, List.mem_cons_self .., Int.le_refl _, hy⟩)) (lob _ ((h x.1).1 ⟨x, List.mem_cons_self .., Int.le_refl _, hx⟩))
    have na : ¬ Has (x :: r) (x.2 + 1) := by
      rintro ⟨z, hz, h1, h2⟩
      rcases List.mem_cons.1 hz with rfl | hz
      · omega
      · have := ha1 z hz; omega
    have nb : ¬ Has (y :: s) (y.2 + 1) := by
      rintro ⟨z, hz, h1, h2⟩
      rcases List.mem_cons.1 hz with rfl | hz
      · omega
      · have := hb1 z hz; omega
    have e2 : x.2 = y.2 := by
      rcases Int.lt_trichotomy x.2 y.2 with h1 | h1 | h1
      · exact absurd ((h (x.2 + 1)).2 ⟨y, List.mem_cons_self .., by omega, by omega⟩) na
      · exact h1
      · exact absurd ((h (y.2 + 1)).1 ⟨x, List.mem_cons_self .., by omega, by omega⟩) nb
    have e : x = y := Prod.ext e1 e2
    subst e
    congr 1
    refine good_unique r s ⟨ha2, fun z hz => ha.2 z (List.mem_cons_of_mem _ hz)⟩ ⟨hb2, fun z hz => hb.2 z (List.mem_cons_of_mem _ hz)⟩ (fun n => ?_)
    constructor
    · rintro ⟨z, hz, h1, h2⟩
      obtain ⟨u, hu, h3, h4⟩ := (h n).1 ⟨z, List.mem_cons_of_mem _ hz, h1, h2⟩
      rcases List.mem_cons.1 hu with rfl | hu
      · have := ha1 z hz; omega
      · exact ⟨u, hu, h3, h4⟩
    · rintro ⟨z, hz, h1, h2⟩
      obtain ⟨u, hu, h3, h4⟩ := (h n).2 ⟨z, List.mem_cons_of_mem _ hz, h1, h2⟩
      rcases List.mem_cons.1 hu with rfl | hu
      · have := hb1 z hz; omega
      · exact ⟨u, hu, h3, h4⟩

/-- asn.Gaps, from a number on. -/
def gapS (next : Int) : List Sp → List Sp
  | [] => if next ≤ 4294967295 then [(next, 4294967295)] else []
  | x :: r => if x.1 > next then (next, x.1 - 1) :: gapS (x.2 + 1) r else gapS (x.2 + 1) r
theorem gap_good : ∀ (l : List Sp) (next : Int), RowS l → (∀ x ∈ l, next ≤ x.1) → (∀ x ∈ l, x.2 ≤ 4294967295) → 0 ≤ next →
    GoodS (gapS next l) ∧ (∀ y ∈ gapS next l, next ≤ y.1 ∧ y.2 ≤ 4294967295) ∧ ∀ n, Has (gapS next l) n ↔ next ≤ n ∧ n ≤ 4294967295 ∧ ¬ Has l n
  | [], next, h, _, _, h0 => by
    unfold gapS
    by_cases hn : next ≤ 4294967295
    · rw [if_pos hn]
      refine ⟨⟨by simp, fun z hz => by rw [List.mem_singleton.1 hz]; exact hn⟩, fun y hy => by rw [List.mem_singleton.1 hy]; simp, fun n => ?_⟩
      rw [has_one]
      simp [has_nil]
    · rw [if_neg hn]
      refine ⟨⟨List.Pairwise.nil, (fun z hz => by cases hz)⟩, (fun y hy => by cases hy), fun n => ⟨fun h => absurd h (has_nil n), fun h => by omega⟩⟩
  | x :: r, next, h, hle, hhi, h0 => by
    obtain ⟨hp, hr⟩ := h
    obtain ⟨hp1, hp2⟩ := List.pairwise_cons.1 hp
    have hx := hr x (List.mem_cons_self ..)
    have hxl := hle x (List.mem_cons_self ..)
    have hxh := hhi x (List.mem_cons_self ..)
    obtain ⟨g1, g2, g3⟩ := gap_good r (x.2 + 1) ⟨hp2, fun z hz => hr z (List.mem_cons_of_mem _ hz)⟩ (fun z hz => by have := hp1 z hz; omega) (fun z hz => hhi z (List.mem_cons_of_mem _ hz)) (by omega)
    have hrn : ∀ n, n ≤ x.2 → ¬ Has r n := by
      rintro n hn ⟨z, hz, h1, h2⟩
      have := hp1 z hz
      omega
    unfold gapS
    by_cases hg : x.1 > next
    · rw [if_pos hg]
      refine ⟨⟨List.pairwise_cons.2 ⟨fun y hy => by have := (g2 y hy).1; simp only; omega, g1.1⟩, fun z hz => ?_⟩, fun y hy => ?_, fun n => ?_⟩
      · rcases List.mem_cons.1 hz with rfl | hz
        · simp only; omega
        · exact g1.2 z hz
      · rcases List.mem_cons.1 hy with rfl | hy
        · simp only; omega
        · have := g2 y hy; omega
      · rw [has_cons, g3, has_cons]
        simp only
        constructor
        · rintro (h | ⟨h1, h2, h3⟩)
          · refine ⟨h.1, by omega, ?_⟩
            rintro (h2 | h2)
            · omega
            · exact hrn n (by omega) h2
          · refine ⟨by omega, h2, ?_⟩
            rintro (h4 | h4)
            · omega
            · exact h3 h4
        · rintro ⟨h1, h2, h3⟩
          by_cases h4 : n < x.1
          · exact .inl (by omega)
          · refine .inr ⟨?_, h2, fun h5 => h3 (.inr h5)⟩
            by_cases h5 : x.2 < n
            · omega
            · exact absurd (.inl ⟨by omega, by omega⟩) h3
    · rw [if_neg hg]
      refine ⟨g1, fun y hy => by have := g2 y hy; omega, fun n => ?_⟩
      rw [g3, has_cons]
      constructor
      · rintro ⟨h1, h2, h3⟩
        refine ⟨by omega, h2, ?_⟩
        rintro (h4 | h4)
        · omega
        · exact h3 h4
      · rintro ⟨h1, h2, h3⟩
        refine ⟨?_, h2, fun h5 => h3 (.inr h5)⟩
        by_cases h5 : x.2 < n
        · omega
        · exact absurd (.inl ⟨by omega, by omega⟩) h3
/-- asn.Size. -/
def sizeS : List Sp → Int
  | [] => 0
  | x :: r => (x.2 - x.1 + 1) + sizeS r
theorem gap_size : ∀ (l : List Sp) (next : Int), RowS l → (∀ x ∈ l, next ≤ x.1) → (∀ x ∈ l, x.2 ≤ 4294967295) → next ≤ 4294967296 → sizeS (gapS next l) + sizeS l = 4294967296 - next
  | [], next, _, _, _, hn => by
    unfold gapS
    by_cases h : next ≤ 4294967295
    · rw [if_pos h]; simp [sizeS]; omega
    · rw [if_neg h]; simp [sizeS]; omega
  | x :: r, next, h, hle, hhi, hn => by
    obtain ⟨hp, hr⟩ := h
    obtain ⟨hp1, hp2⟩ := List.pairwise_cons.1 hp
    have hxl := hle x (List.mem_cons_self ..)
    have hxh := hhi x (List.mem_cons_self ..)
    have g := gap_size r (x.2 + 1) ⟨hp2, fun z hz => hr z (List.mem_cons_of_mem _ hz)⟩ (fun z hz => by have := hp1 z hz; omega) (fun z hz => hhi z (List.mem_cons_of_mem _ hz)) (by omega)
    unfold gapS
    by_cases hg : x.1 > next
    · rw [if_pos hg]; simp only [sizeS]; omega
    · rw [if_neg hg]; simp only [sizeS]; omega
theorem gap_len : ∀ (l : List Sp) (next : Int), (gapS next l).length ≤ l.length + 1
  | [], next => by unfold gapS; split <;> simp
  | x :: r, next => by
    unfold gapS
    have := gap_len r (x.2 + 1)
    split <;> simp <;> omega
/-- The gaps of the gaps are the union. -/
theorem gap_gap (l : List Sp) (h : RowS l) (hu : U32s l) : gapS 0 (gapS 0 l) = unionS l := by
  obtain ⟨g1, g2, g3⟩ := gap_good l 0 h (fun x hx => (hu x hx).1) (fun x hx => by have := (hu x hx).2.2.2; omega) (by omega)
  obtain ⟨q1, q2, q3⟩ := gap_good (gapS 0 l) 0 g1.row (fun x hx => (g2 x hx).1) (fun x hx => (g2 x hx).2) (by omega)
  obtain ⟨u1, u2⟩ := union_good l
  refine good_unique _ _ q1 u1 (fun n => ?_)
  rw [q3, g3, u2]
  constructor
  · rintro ⟨h1, h2, h3⟩
    refine Classical.byContradiction fun h4 => h3 ⟨h1, h2, h4⟩
  · rintro ⟨x, hx, h1, h2⟩
    have := hu x hx
    exact ⟨by omega, by omega, fun h3 => h3.2.2 ⟨x, hx, h1, h2⟩⟩
end Go.Proofs.YtanbnlobbgfidaaGreatDoor
