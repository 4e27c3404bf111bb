/- Plain: whether a pattern of bytes with asterisks means a text, and the laws that a search by going back, and a table, lean on. -/
namespace Globs

/-- Does a pattern of bytes, 42 a piece of any bytes, mean a text? -/
def gm : List UInt8 → List UInt8 → Bool
  | [], s => s.isEmpty
  | c :: p, s => if c = 42 then (List.range (s.length + 1)).any (fun j => gm p (s.drop j)) else
      match s with
      | [] => false
      | b :: t => b == c && gm p t

theorem gm_nil (s : List UInt8) : gm [] s = s.isEmpty := by simp [gm]
theorem gm_star (p s : List UInt8) : gm (42 :: p) s = true ↔ ∃ j, j ≤ s.length ∧ gm p (s.drop j) = true := by
  simp only [gm, if_true, List.any_eq_true, List.mem_range]
  constructor
  · rintro ⟨j, h, e⟩; exact ⟨j, by omega, e⟩
  · rintro ⟨j, h, e⟩; exact ⟨j, by omega, e⟩
theorem gm_lit (c : UInt8) (hc : c ≠ 42) (p : List UInt8) (b : UInt8) (t : List UInt8) : gm (c :: p) (b :: t) = (b == c && gm p t) := by simp [gm, hc]
theorem gm_lit_nil (c : UInt8) (hc : c ≠ 42) (p : List UInt8) : gm (c :: p) [] = false := by simp [gm, hc]

/-- All stars. -/
def stars (p : List UInt8) : Bool := p.all (· == 42)
theorem gm_empty (p : List UInt8) : gm p [] = stars p := by
  induction p with
  | nil => simp [gm, stars]
  | cons c p ih =>
    by_cases hc : c = 42
    · subst hc
      rw [Bool.eq_iff_iff, gm_star]
      simp only [stars, List.all_cons] at *
      simp [ih]
    · rw [gm_lit_nil c hc]; simp [stars, hc]

/-- A segment without stars ahead. -/
theorem gm_seg (g : List UInt8) (hg : ∀ x ∈ g, x ≠ 42) (q s : List UInt8) : gm (g ++ q) s = true ↔ g <+: s ∧ gm q (s.drop g.length) = true := by
  induction g generalizing s with
  | nil => simp
  | cons c g ih =>
    have hc : c ≠ 42 := hg c (by simp)
    have ih := fun s => ih (fun x hx => hg x (by simp [hx])) s
    cases s with
    | nil => simp [gm_lit_nil c hc]
    | cons b t =>
      rw [List.cons_append, gm_lit c hc, Bool.and_eq_true, ih, List.cons_prefix_cons]
      simp only [beq_iff_eq, List.length_cons, List.drop_succ_cons]
      constructor
      · rintro ⟨rfl, h1, h2⟩; exact ⟨⟨rfl, h1⟩, h2⟩
      · rintro ⟨⟨rfl, h1⟩, h2⟩; exact ⟨rfl, h1, h2⟩

/-- What is known at the loop's head. -/
structure Inv (p s : List UInt8) (i : Nat) (back : Int) (at_ k : Nat) : Prop where
  hi : i ≤ p.length
  hk : k ≤ s.length
  ha : at_ ≤ k
  no : back < 0 → back = -1 ∧ at_ = 0 ∧ gm p s = gm (p.drop i) (s.drop k)
  yes : 0 ≤ back → back.toNat < i ∧ i + at_ = back.toNat + 1 + k ∧ (p.drop (back.toNat + 1)).take (k - at_) = (s.drop at_).take (k - at_) ∧
    (∀ x ∈ (p.drop (back.toNat + 1)).take (k - at_), x ≠ 42) ∧ (gm p s = true ↔ ∃ j, at_ ≤ j ∧ j ≤ s.length ∧ gm (p.drop (back.toNat + 1)) (s.drop j) = true)

theorem Inv.start (p s : List UInt8) : Inv p s 0 (-1) 0 0 where
  hi := by omega
  hk := by omega
  ha := by omega
  no := fun _ => ⟨rfl, rfl, by simp⟩
  yes := fun h => by omega

theorem drop_seg (p : List UInt8) (b i : Nat) (n : Nat) (h : b + 1 + n = i) : p.drop (b + 1) = (p.drop (b + 1)).take n ++ p.drop i := by
  have := List.take_append_drop n (p.drop (b + 1))
  rw [List.drop_drop, h] at this
  exact this.symm

theorem Inv.star {p s : List UInt8} {i : Nat} {back : Int} {at_ k : Nat} (h : Inv p s i back at_ k) (hi : i < p.length) (hc : p[i] = 42) : Inv p s (i + 1) i k k := by
  have hd : p.drop i = 42 :: p.drop (i + 1) := by rw [List.drop_eq_getElem_cons hi, hc]
  refine ⟨by omega, h.hk, by omega, fun hb => by omega, fun _ => ?_⟩
  rw [Int.toNat_natCast]
  refine ⟨by omega, by omega, by simp, by simp, ?_⟩
  by_cases hb : back < 0
  · obtain ⟨_, _, e⟩ := h.no hb
    rw [e, hd, gm_star]
    constructor
    · rintro ⟨j, h1, h2⟩
      rw [List.drop_drop] at h2
      rw [List.length_drop] at h1
      exact ⟨k + j, by omega, by have := h.hk; omega, h2⟩
    · rintro ⟨j, h1, h2, h3⟩
      refine ⟨j - k, by rw [List.length_drop]; omega, ?_⟩
      rw [List.drop_drop, show k + (j - k) = j by omega]; exact h3
  · obtain ⟨h1, h2, h3, h4, h5⟩ := h.yes (by omega)
    have hak := h.ha
    have hkk := h.hk
    have hs := drop_seg p back.toNat i (k - at_) (by omega)
    have hl : ((p.drop (back.toNat + 1)).take (k - at_)).length = k - at_ := by rw [List.length_take, List.length_drop]; omega
    rw [h5]
    constructor
    · rintro ⟨j, g1, g2, g3⟩
      rw [hs, gm_seg _ h4] at g3
      obtain ⟨g3, g4⟩ := g3
      rw [hd, gm_star] at g4
      obtain ⟨m, g5, g6⟩ := g4
      rw [hl, List.drop_drop, List.drop_drop] at g6
      rw [hl, List.length_drop, List.length_drop] at g5
      have := g3.length_le
      rw [hl, List.length_drop] at this
      exact ⟨j + (k - at_) + m, by omega, by omega, by rw [show j + (k - at_) + m = j + ((k - at_) + m) by omega]; exact g6⟩
    · rintro ⟨j, g1, g2, g3⟩
      refine ⟨at_, by omega, by omega, ?_⟩
      rw [hs, gm_seg _ h4]
      refine ⟨by rw [h3]; exact List.take_prefix _ _, ?_⟩
      rw [hd, gm_star, hl]
      refine ⟨j - k, by rw [List.length_drop, List.length_drop]; omega, ?_⟩
      rw [List.drop_drop, List.drop_drop, show at_ + (k - at_ + (j - k)) = j by omega]
      exact g3

theorem take_snoc' (l : List UInt8) (n : Nat) (h : n < l.length) : l.take (n + 1) = l.take n ++ [l[n]] := by
  rw [List.take_succ_eq_append_getElem h]

theorem Inv.same {p s : List UInt8} {i : Nat} {back : Int} {at_ k : Nat} (h : Inv p s i back at_ k) (hi : i < p.length) (hk : k < s.length) (hn : p[i] ≠ 42) (hc : p[i] = s[k]) : Inv p s (i + 1) back at_ (k + 1) := by
  have ha := h.ha
  refine ⟨by omega, by omega, by omega, fun hb => ?_, fun hb => ?_⟩
  · obtain ⟨e1, e2, e⟩ := h.no hb
    refine ⟨e1, e2, ?_⟩
    rw [e, List.drop_eq_getElem_cons hi, List.drop_eq_getElem_cons hk, gm_lit _ hn, hc]
    simp
  · obtain ⟨h1, h2, h3, h4, h5⟩ := h.yes hb
    have e1 : k + 1 - at_ = (k - at_) + 1 := by omega
    have l1 : k - at_ < (p.drop (back.toNat + 1)).length := by rw [List.length_drop]; omega
    have l2 : k - at_ < (s.drop at_).length := by rw [List.length_drop]; omega
    have g1 : (p.drop (back.toNat + 1))[k - at_] = p[i] := by rw [List.getElem_drop]; congr 1; omega
    have g2 : (s.drop at_)[k - at_] = s[k] := by rw [List.getElem_drop]; congr 1; omega
    refine ⟨by omega, by omega, ?_, ?_, h5⟩
    · rw [e1, take_snoc' _ _ l1, take_snoc' _ _ l2, h3, g1, g2, hc]
    · rw [e1, take_snoc' _ _ l1, g1]
      intro x hx
      rcases List.mem_append.1 hx with hx | hx
      · exact h4 x hx
      · rw [List.mem_singleton] at hx; rw [hx]; exact hn

theorem Inv.none_ {p s : List UInt8} {i : Nat} {back : Int} {at_ k : Nat} (h : Inv p s i back at_ k) (hb : back < 0) (hk : k < s.length) (hn : ∀ h : i < p.length, p[i] ≠ 42 ∧ p[i] ≠ s[k]) : gm p s = false := by
  obtain ⟨_, _, e⟩ := h.no hb
  rw [e, List.drop_eq_getElem_cons hk]
  by_cases hi : i < p.length
  · obtain ⟨n1, n2⟩ := hn hi
    rw [List.drop_eq_getElem_cons hi, gm_lit _ n1]
    have : (s[k] == p[i]) = false := by rw [beq_eq_false_iff_ne]; exact fun h => n2 h.symm
    rw [this]; rfl
  · rw [List.drop_eq_nil_of_le (by omega), gm_nil]; rfl

theorem Inv.back_ {p s : List UInt8} {i : Nat} {back : Int} {at_ k : Nat} (h : Inv p s i back at_ k) (hb : 0 ≤ back) (hk : k < s.length) (hn : ∀ h : i < p.length, p[i] ≠ 42 ∧ p[i] ≠ s[k]) :
    Inv p s (back.toNat + 1) back (at_ + 1) (at_ + 1) := by
  obtain ⟨h1, h2, h3, h4, h5⟩ := h.yes hb
  have hak := h.ha
  have hii := h.hi
  refine ⟨by omega, by omega, by omega, fun hb => by omega, fun _ => ⟨by omega, by omega, by simp, by simp, ?_⟩⟩
  rw [h5]
  constructor
  · rintro ⟨j, g1, g2, g3⟩
    refine ⟨j, ?_, g2, g3⟩
    rcases Nat.lt_or_ge at_ j with g | g
    · exact g
    · exfalso
      obtain rfl : j = at_ := by omega
      have hs := drop_seg p back.toNat i (k - j) (by omega)
      have hl : ((p.drop (back.toNat + 1)).take (k - j)).length = k - j := by rw [List.length_take, List.length_drop]; omega
      rw [hs, gm_seg _ h4, hl, List.drop_drop, show j + (k - j) = k by omega, List.drop_eq_getElem_cons hk] at g3
      obtain ⟨_, g3⟩ := g3
      by_cases hi : i < p.length
      · obtain ⟨n1, n2⟩ := hn hi
        rw [List.drop_eq_getElem_cons hi, gm_lit _ n1, Bool.and_eq_true, beq_iff_eq] at g3
        exact n2 g3.1.symm
      · rw [List.drop_eq_nil_of_le (by omega), gm_nil] at g3; cases g3
  · rintro ⟨j, g1, g2, g3⟩
    exact ⟨j, by omega, g2, g3⟩

theorem Inv.done {p s : List UInt8} {i : Nat} {back : Int} {at_ k : Nat} (h : Inv p s i back at_ k) (hk : k = s.length) : stars (p.drop i) = gm p s := by
  subst hk
  by_cases hb : back < 0
  · obtain ⟨_, _, e⟩ := h.no hb
    rw [e, List.drop_eq_nil_of_le (Nat.le_refl s.length), gm_empty]
  · obtain ⟨h1, h2, h3, h4, h5⟩ := h.yes (by omega)
    have hak := h.ha
    have hii := h.hi
    have hs := drop_seg p back.toNat i (s.length - at_) (by omega)
    have hl : ((p.drop (back.toNat + 1)).take (s.length - at_)).length = s.length - at_ := by rw [List.length_take, List.length_drop]; omega
    rw [Bool.eq_iff_iff, h5]
    constructor
    · intro g
      refine ⟨at_, by omega, by omega, ?_⟩
      rw [hs, gm_seg _ h4]
      refine ⟨by rw [h3]; exact List.take_prefix _ _, ?_⟩
      rw [hl, List.drop_drop, show at_ + (s.length - at_) = s.length by omega, List.drop_eq_nil_of_le (Nat.le_refl s.length), gm_empty]; exact g
    · rintro ⟨j, g1, g2, g3⟩
      rw [hs, gm_seg _ h4] at g3
      obtain ⟨g3, g4⟩ := g3
      have := g3.length_le
      rw [hl, List.length_drop] at this
      rw [hl, List.drop_drop, show j + (s.length - at_) = s.length by omega, List.drop_eq_nil_of_le (Nat.le_refl s.length), gm_empty] at g4
      exact g4

/-! The rows of the reference: a byte more behind the pattern. -/
theorem gm_snoc_star (p s : List UInt8) : gm (p ++ [42]) s = true ↔ ∃ j, j ≤ s.length ∧ gm p (s.take j) = true := by
  induction p generalizing s with
  | nil =>
    rw [List.nil_append, gm_star]
    constructor
    · rintro ⟨j, h, e⟩; exact ⟨0, by omega, by simp [gm]⟩
    · rintro ⟨j, h, e⟩; exact ⟨s.length, by omega, by simp [gm]⟩
  | cons c p ih =>
    by_cases hc : c = 42
    · subst hc
      rw [List.cons_append, gm_star]
      constructor
      · rintro ⟨j, h, e⟩
        obtain ⟨i, h2, e2⟩ := (ih _).1 e
        rw [List.length_drop] at h2
        refine ⟨j + i, by omega, ?_⟩
        rw [gm_star]
        refine ⟨j, by rw [List.length_take]; omega, ?_⟩
        rw [List.drop_take, show j + i - j = i by omega]; exact e2
      · rintro ⟨j, h, e⟩
        rw [gm_star] at e
        obtain ⟨i, h2, e2⟩ := e
        rw [List.length_take] at h2
        refine ⟨i, by omega, (ih _).2 ⟨j - i, by rw [List.length_drop]; omega, ?_⟩⟩
        rw [List.drop_take] at e2; exact e2
    · cases s with
      | nil => 
        rw [List.cons_append, gm_lit_nil c hc]
        simp [gm_lit_nil c hc]
      | cons b t =>
        rw [List.cons_append, gm_lit c hc, Bool.and_eq_true, ih]
        constructor
        · rintro ⟨h1, j, h2, h3⟩
          exact ⟨j + 1, by simp; omega, by rw [List.take_succ_cons, gm_lit c hc, h1, h3]; rfl⟩
        · rintro ⟨j, h2, h3⟩
          cases j with
          | zero => rw [List.take_zero, gm_lit_nil c hc] at h3; cases h3
          | succ j => 
            rw [List.take_succ_cons, gm_lit c hc, Bool.and_eq_true] at h3
            exact ⟨h3.1, j, by simp at h2; omega, h3.2⟩

theorem gm_snoc_lit (c : UInt8) (hc : c ≠ 42) (p s : List UInt8) (b : UInt8) : gm (p ++ [c]) (s ++ [b]) = (gm p s && b == c) := by
  induction p generalizing s with
  | nil =>
    cases s with
    | nil => rw [List.nil_append, List.nil_append, gm_lit c hc]; simp [gm]
    | cons x t => rw [List.nil_append, List.cons_append, gm_lit c hc, gm_nil, gm_nil]; simp
  | cons d p ih =>
    by_cases hd : d = 42
    · subst hd
      rw [Bool.eq_iff_iff, List.cons_append, gm_star, Bool.and_eq_true, gm_star]
      constructor
      · rintro ⟨j, h, e⟩
        rw [List.length_append, List.length_singleton] at h
        rcases Nat.lt_or_ge s.length j with h2 | h2
        · exfalso
          rw [List.drop_eq_nil_of_le (by simp; omega), gm_empty] at e
          simp [stars, hc] at e
        · rw [List.drop_append_of_le_length h2, ih, Bool.and_eq_true] at e
          exact ⟨⟨j, h2, e.1⟩, e.2⟩
      · rintro ⟨⟨j, h, e⟩, e2⟩
        refine ⟨j, by simp; omega, ?_⟩
        rw [List.drop_append_of_le_length h, ih, e, e2]; rfl
    · cases s with
      | nil =>
        rw [List.cons_append, List.nil_append, gm_lit d hd, gm_lit_nil d hd]
        have : gm (p ++ [c]) [] = false := by rw [gm_empty]; simp [stars, hc]
        rw [this]; simp
      | cons x t => rw [List.cons_append, List.cons_append, gm_lit d hd, gm_lit d hd, ih, Bool.and_assoc]

theorem gm_snoc_lit_nil (c : UInt8) (hc : c ≠ 42) (p : List UInt8) : gm (p ++ [c]) [] = false := by
  rw [gm_empty]; simp [stars, hc]
end Globs
