/- MatchGlobs: of any two texts of at most 40 bytes match.Glob and the document's table say the same. The pure half. -/
import Derived.Test.YtgdnagncjlajnaaDoorPAllx4
import Derived.Test.YtgdnagncjlajnaaDoorGlob
namespace Go.Proofs.YtgdnagncjlajnaaDoor.Pure
open Go.RowKit Go.Proofs.YtgdnagncjlajnaaDoor.PAll Go.Proofs.YtgdnagncjlajnaaDoorW.PrintWords Go.Proofs.YtgdnagncjlajnaaDoorW.PrintLast Globs

theorem w64 {n : Int} (h0 : -9223372036854775808 ≤ n) (h1 : n ≤ 9223372036854775807) : wrap64 n = n := by unfold wrap64; omega
theorem bt_list (s : ByteArray) (i : Nat) (h : i < s.data.toList.length) : bt s (i : Int) = ((s.data.toList[i]).toNat : Int) := by
  have h' : i < s.size := by simpa using h
  unfold bt
  rw [dif_pos (by simpa using h')]
  simp
  rfl
theorem bt_eq42 (s : ByteArray) (i : Nat) (h : i < s.data.toList.length) : (bt s (i : Int) == 42) = decide (s.data.toList[i] = 42) := by
  rw [bt_list s i h, Bool.eq_iff_iff]
  simp only [beq_iff_eq, decide_eq_true_eq]
  constructor
  · intro e; apply UInt8.toNat.inj; show _ = 42; omega
  · intro e; rw [e]; rfl
theorem bt_eq (s t : ByteArray) (i k : Nat) (h : i < s.data.toList.length) (h2 : k < t.data.toList.length) : (bt s (i : Int) == bt t (k : Int)) = decide (s.data.toList[i] = t.data.toList[k]) := by
  rw [bt_list s i h, bt_list t k h2, Bool.eq_iff_iff]
  simp only [beq_iff_eq, decide_eq_true_eq]
  constructor
  · intro e; apply UInt8.toNat.inj; omega
  · intro e; rw [e]
theorem size_len (s : ByteArray) : s.size = s.data.toList.length := by simp

theorem dw_nil (p : UInt8 → Bool) (l : List UInt8) : l.dropWhile p = [] ↔ ∀ x ∈ l, p x = true := by
  induction l with
  | nil => simp
  | cons a l ih =>
    rw [List.dropWhile_cons]
    cases h : p a with
    | true => simp [ih, h]
    | false => simp [h]
theorem dw_head (p : UInt8 → Bool) (l : List UInt8) (x : UInt8) (r : List UInt8) (h : l.dropWhile p = x :: r) : p x = false := by
  induction l with
  | nil => cases h
  | cons a l ih =>
    rw [List.dropWhile_cons] at h
    cases ha : p a with
    | true => rw [ha] at h; exact ih h
    | false =>
      rw [ha] at h
      injection h with h _
      rw [← h]; exact ha
theorem trim_nil (l : List UInt8) : (Lib.trimB l 42 == []) = stars l := by
  rw [Bool.eq_iff_iff, beq_iff_eq]
  unfold Lib.trimB Lib.trimLeftB Lib.trimRightB stars
  rw [dw_nil, List.all_eq_true]
  constructor
  · intro h x hx
    cases hn : l.reverse.dropWhile (· == 42) with
    | nil =>
      rw [dw_nil] at hn
      exact hn x (by simpa using hx)
    | cons y r =>
      have h1 := dw_head _ _ _ _ hn
      have h2 := h y (by rw [hn]; simp)
      rw [h1] at h2; cases h2
  · intro h x hx
    have := List.mem_reverse.1 hx
    exact h x (by simpa using (List.dropWhile_sublist _).mem this)

theorem trim_star (s : ByteArray) (i : Nat) (hs : s.size ≤ 1000000) :
    ∃ t, strings_Trim.f (s.extract (i : Int).toNat s.size) (⟨#[42]⟩ : ByteArray) = some t ∧ (t.toList == ([] : List UInt8)) = stars (s.data.toList.drop i) := by
  refine ⟨⟨(Lib.trimB (s.extract i s.size).data.toList 42).toArray⟩, ?_, ?_⟩
  · unfold strings_Trim.f
    rw [if_pos (show (⟨#[42]⟩ : ByteArray).size = 1 from rfl), if_pos (by decide), if_pos (by rw [Int.toNat_natCast]; simp; omega)]
    rfl
  · rw [Lib.toList_data, Lib.extract_to_end]
    exact trim_nil _

theorem glob_ev (x0 x1 : ByteArray) (h0 : x0.size ≤ 1000000) (h1 : x1.size ≤ 1000000) (i : Nat) (back : Int) (at_ k : Nat) (h : Inv x0.data.toList x1.data.toList i back at_ k) :
    Ev (fun K => match_Glob.l0 K x0 x1 (i : Int) back (at_ : Int) (k : Int)) (gm x0.data.toList x1.data.toList) := by
  have e0 := size_len x0
  have e1 := size_len x1
  have hi := h.hi
  have hk := h.hk
  have ha := h.ha
  refine Ev.step (fun K => by rw [match_Glob.l0]) ?_
  by_cases c1 : k < x1.size
  · have hk1 : k < x1.data.toList.length := by omega
    simp only [show ((k : Int) < (x1.size : Int)) from by omega, if_true]
    -- what follows a star
    have star : ∀ hi1 : i < x0.data.toList.length, x0.data.toList[i] = 42 → Ev (fun K => match_Glob.j1 K x0 x1 (i : Int) back (at_ : Int) (k : Int) true) (gm x0.data.toList x1.data.toList) := by
      intro hi1 hc
      refine Ev.step (fun K => by rw [match_Glob.j1]) ?_
      simp only [if_true]
      rw [w64 (by omega) (by omega)]
      have := glob_ev x0 x1 h0 h1 (i + 1) i k k (h.star hi1 hc)
      exact this
    -- what follows where the pattern goes on otherwise
    have other : (∀ h : i < x0.data.toList.length, x0.data.toList[i] ≠ 42 ∧ x0.data.toList[i] ≠ x1.data.toList[k]) → Ev (fun K => match_Glob.j2 K x0 x1 (i : Int) back (at_ : Int) (k : Int) false) (gm x0.data.toList x1.data.toList) := by
      intro hn
      refine Ev.step (fun K => by rw [match_Glob.j2]) ?_
      simp only [Bool.false_eq_true, if_false]
      by_cases hb : back < 0
      · simp only [hb, if_true]
        rw [h.none_ hb hk1 hn]
        exact Ev.now _
      · simp only [hb, if_false]
        have hy := h.yes (by omega)
        rw [w64 (by omega) (by omega), w64 (by omega) (by omega)]
        have := glob_ev x0 x1 h0 h1 (back.toNat + 1) back (at_ + 1) (at_ + 1) (h.back_ (by omega) hk1 hn)
        rw [show ((back.toNat + 1 : Nat) : Int) = back + 1 by omega] at this
        exact this
    by_cases c2 : i < x0.size
    · have hi1 : i < x0.data.toList.length := by omega
      simp only [show ((i : Int) < (x0.size : Int)) from by omega, show (0 ≤ (i : Int)) from by omega, if_true]
      rw [bt_eq42 x0 i hi1]
      by_cases c3 : x0.data.toList[i] = 42
      · simp only [c3, decide_true]
        exact star hi1 c3
      · simp only [c3, decide_false]
        refine Ev.step (fun K => by rw [match_Glob.j1]) ?_
        simp only [Bool.false_eq_true, if_false, show ((i : Int) < (x0.size : Int)) from by omega, show (0 ≤ (i : Int)) from by omega, show (0 ≤ (k : Int)) from by omega, show ((k : Int) < (x1.size : Int)) from by omega, if_true]
        rw [bt_eq x0 x1 i k hi1 hk1]
        by_cases c4 : x0.data.toList[i] = x1.data.toList[k]
        · simp only [c4, decide_true]
          refine Ev.step (fun K => by rw [match_Glob.j2]) ?_
          simp only [if_true]
          rw [w64 (by omega) (by omega), w64 (by omega) (by omega)]
          exact glob_ev x0 x1 h0 h1 (i + 1) back at_ (k + 1) (h.same hi1 hk1 c3 c4)
        · simp only [c4, decide_false]
          exact other fun _ => ⟨c3, c4⟩
    · simp only [show ¬ ((i : Int) < (x0.size : Int)) from by omega, if_false]
      refine Ev.step (fun K => by rw [match_Glob.j1]) ?_
      simp only [Bool.false_eq_true, if_false, show ¬ ((i : Int) < (x0.size : Int)) from by omega]
      exact other fun h => absurd h (by omega)
  · simp only [show ¬ ((k : Int) < (x1.size : Int)) from by omega, if_false, show (0 ≤ (i : Int)) from by omega, show ((i : Int) ≤ (x0.size : Int)) from by omega, if_true]
    obtain ⟨t, ht, hs⟩ := trim_star x0 i h0
    rw [ht]
    simp only [Option.bind_some]
    rw [hs, h.done (by omega)]
    exact Ev.now _
termination_by (x1.size - at_, x1.size - k, x0.size - i)
decreasing_by
  all_goals simp only [Prod.lex_def, true_and]
  all_goals omega

/-! ### The document's table -/
/-- The row behind the first i bytes of a pattern. -/
def rowIs (p s : List UInt8) (i : Nat) (l : List Bool) (n : Nat) : Prop := l.length = s.length + 1 ∧ ∀ j, j < n → l.getD j false = gm (p.take i) (s.take j)
theorem rd_nat (l : List Bool) (j : Nat) : rdOf false l (j : Int) = l.getD j false := by unfold rdOf; rw [Int.toNat_natCast]
theorem set_row (l : List Bool) (k : Nat) (b : Bool) (j : Nat) (hk : k < l.length) : (l.set k b).getD j false = if j = k then b else l.getD j false := by
  simp only [List.getD_eq_getElem?_getD, List.getElem?_set]
  by_cases h : k = j
  · subst h; simp [hk]
  · have h' : ¬ j = k := fun e => h e.symm
    rw [if_neg h, if_neg h']
theorem row_next {p s : List UInt8} {i k : Nat} {l : List Bool} {b : Bool} (h : rowIs p s i l k) (hk : k ≤ s.length) (hb : b = gm (p.take i) (s.take k)) : rowIs p s i (l.set k b) (k + 1) := by
  refine ⟨by rw [List.length_set]; exact h.1, fun j hj => ?_⟩
  rw [set_row _ _ _ _ (by have := h.1; omega)]
  by_cases e : j = k
  · subst e; rw [if_pos rfl, hb]
  · rw [if_neg e]; exact h.2 j (by omega)
/-- A star more. -/
theorem star_zero (p s : List UInt8) (i : Nat) (hi : i < p.length) (hc : p[i] = 42) : gm (p.take (i + 1)) (s.take 0) = gm (p.take i) (s.take 0) := by
  rw [take_snoc' _ _ hi, hc, Bool.eq_iff_iff, gm_snoc_star]
  constructor
  · rintro ⟨j, _, e⟩; simpa using e
  · intro e; exact ⟨0, by simp, by simpa using e⟩
theorem star_succ (p s : List UInt8) (i k : Nat) (hi : i < p.length) (hk : k < s.length) (hc : p[i] = 42) : gm (p.take (i + 1)) (s.take (k + 1)) = (gm (p.take i) (s.take (k + 1)) || gm (p.take (i + 1)) (s.take k)) := by
  rw [take_snoc' _ _ hi, hc, Bool.eq_iff_iff, gm_snoc_star, Bool.or_eq_true, gm_snoc_star]
  constructor
  · rintro ⟨j, hj, e⟩
    rw [List.length_take] at hj
    rw [List.take_take] at e
    by_cases h : j = k + 1
    · left; rw [show min j (k + 1) = k + 1 by omega] at e; exact e
    · right; exact ⟨j, by rw [List.length_take]; omega, by rw [List.take_take, show min j k = j by omega]; rw [show min j (k + 1) = j by omega] at e; exact e⟩
  · rintro (e | ⟨j, hj, e⟩)
    · exact ⟨k + 1, by rw [List.length_take]; omega, by rw [List.take_take, Nat.min_self]; exact e⟩
    · rw [List.length_take] at hj
      rw [List.take_take] at e
      exact ⟨j, by rw [List.length_take]; omega, by rw [List.take_take, show min j (k + 1) = min j k by omega]; exact e⟩
/-- Another byte more. -/
theorem lit_zero (p s : List UInt8) (i : Nat) (hi : i < p.length) (hc : p[i] ≠ 42) : gm (p.take (i + 1)) (s.take 0) = false := by
  rw [take_snoc' _ _ hi]; exact gm_snoc_lit_nil _ hc _
theorem lit_succ (p s : List UInt8) (i k : Nat) (hi : i < p.length) (hk : k < s.length) (hc : p[i] ≠ 42) : gm (p.take (i + 1)) (s.take (k + 1)) = (gm (p.take i) (s.take k) && s[k] == p[i]) := by
  rw [take_snoc' _ _ hi, take_snoc' _ _ hk]; exact gm_snoc_lit _ hc _ _ _

section
variable (x0 x1 : ByteArray) (h0 : x0.size ≤ 1000000) (h1 : x1.size ≤ 1000000)
include h0 h1
theorem ref_row (i : Nat) (hi : i < x0.size) (x5 : List Bool) (hx : rowIs x0.data.toList x1.data.toList i x5 (x1.size + 1))
    (F : List Bool → Bool) (next : ∀ x7, rowIs x0.data.toList x1.data.toList (i + 1) x7 (x1.size + 1) → Ev (fun K => eponymref18_Glob.l0 K x0 x1 x7 ((i + 1 : Nat) : Int)) (F x7)) (r : Bool) (hF : ∀ x7, F x7 = r)
    (k : Nat) (hk : k ≤ x1.size + 1) (x7 : List Bool) (hx7 : rowIs x0.data.toList x1.data.toList (i + 1) x7 k) :
    Ev (fun K => eponymref18_Glob.l1 K x0 x1 x5 (i : Int) x7 (k : Int)) r := by
  have e0 := size_len x0
  have e1 := size_len x1
  have l5 := hx.1
  have l7 := hx7.1
  refine Ev.step (fun K => by rw [eponymref18_Glob.l1]) ?_
  by_cases c1 : k ≤ x1.size
  · have hi1 : i < x0.data.toList.length := by omega
    simp only [show ((k : Int) ≤ (x1.size : Int)) from by omega, show (0 ≤ (i : Int)) from by omega, show ((i : Int) < (x0.size : Int)) from by omega, show (0 ≤ (k : Int)) from by omega, show ((k : Int) < (x5.length : Int)) from by omega, show ((k : Int) < (x7.length : Int)) from by omega, if_true, Int.toNat_natCast]
    rw [w64 (n := (k : Int) + 1) (by omega) (by omega)]
    have on : ∀ b, b = gm (x0.data.toList.take (i + 1)) (x1.data.toList.take k) → Ev (fun K => eponymref18_Glob.l1 K x0 x1 x5 (i : Int) (x7.set k b) ((k : Int) + 1)) r := fun b hb =>
      ref_row i hi x5 hx F next r hF (k + 1) (by omega) (x7.set k b) (row_next hx7 (by omega) hb)
    by_cases c2 : x0.data.toList[i] = 42
    · have hb : bt x0 (i : Int) = 42 := by have := bt_eq42 x0 i hi1; simpa [c2] using this
      simp only [hb, if_true]
      rw [rd_nat, hx.2 k (by omega)]
      cases k with
      | zero =>
        have e2 := star_zero _ x1.data.toList i hi1 c2
        cases e3 : gm (x0.data.toList.take i) (x1.data.toList.take 0) with
        | true => simp only [if_true]; exact on true (by rw [e2, e3])
        | false => simp; exact on false (by rw [e2, e3])
      | succ k =>
        have e2 := star_succ _ x1.data.toList i k hi1 (by omega) c2
        cases e3 : gm (x0.data.toList.take i) (x1.data.toList.take (k + 1)) with
        | true => simp only [if_true]; exact on true (by rw [e2, e3]; rfl)
        | false =>
          simp only [Bool.false_eq_true, if_false, show (((k + 1 : Nat) : Int) > 0) from by omega, if_true]
          rw [w64 (by omega) (by omega), show ((k + 1 : Nat) : Int) - 1 = (k : Int) by omega]
          simp only [show (0 ≤ (k : Int)) from by omega, show ((k : Int) < (x7.length : Int)) from by omega, if_true]
          rw [rd_nat, hx7.2 k (by omega)]
          exact on _ (by rw [e2, e3]; rfl)
    · have hb : ¬ bt x0 (i : Int) = 42 := by
        intro e
        have := bt_eq42 x0 i hi1
        rw [e, decide_eq_false c2] at this
        cases this
      simp only [hb, if_false]
      cases k with
      | zero => simp; exact on false (lit_zero _ _ i hi1 c2).symm
      | succ k =>
        have hk1 : k < x1.data.toList.length := by omega
        have e2 := lit_succ _ x1.data.toList i k hi1 hk1 c2
        simp only [show (((k + 1 : Nat) : Int) > 0) from by omega, if_true]
        rw [w64 (by omega) (by omega), show ((k + 1 : Nat) : Int) - 1 = (k : Int) by omega]
        simp only [show (0 ≤ (k : Int)) from by omega, show ((k : Int) < (x5.length : Int)) from by omega, show ((k : Int) < (x1.size : Int)) from by omega, if_true]
        rw [rd_nat, hx.2 k (by omega)]
        cases e3 : gm (x0.data.toList.take i) (x1.data.toList.take k) with
        | true =>
          simp only [if_true]
          refine on _ ?_
          rw [bt_eq x1 x0 k i hk1 hi1, e2, e3, Bool.true_and, Bool.eq_iff_iff]
          simp
        | false =>
          simp only [Bool.false_eq_true, if_false]
          exact on false (by rw [e2, e3]; rfl)
  · simp only [show ¬ ((k : Int) ≤ (x1.size : Int)) from by omega, if_false]
    rw [w64 (by omega) (by omega)]
    obtain rfl : k = x1.size + 1 := by omega
    have := next x7 hx7
    rw [hF] at this
    exact this
termination_by x1.size + 1 - k

theorem ref_ev (d : Nat) : ∀ i, i + d = x0.size → ∀ x5, rowIs x0.data.toList x1.data.toList i x5 (x1.size + 1) →
    Ev (fun K => eponymref18_Glob.l0 K x0 x1 x5 (i : Int)) (gm x0.data.toList x1.data.toList) := by
  have e0 := size_len x0
  have e1 := size_len x1
  induction d with
  | zero =>
    intro i hi x5 hx
    have l5 := hx.1
    refine Ev.step (fun K => by rw [eponymref18_Glob.l0]) ?_
    simp only [show ¬ ((i : Int) < (x0.size : Int)) from by omega, if_false, show (0 ≤ (x1.size : Int)) from by omega, show ((x1.size : Int) < (x5.length : Int)) from by omega, if_true]
    rw [rd_nat, hx.2 x1.size (by omega), List.take_of_length_le (by omega), List.take_of_length_le (by omega)]
    exact Ev.now _
  | succ d ih =>
    intro i hi x5 hx
    refine Ev.step (fun K => by rw [eponymref18_Glob.l0]) ?_
    rw [w64 (n := (x1.size : Int) + 1) (by omega) (by omega)]
    simp only [show ((i : Int) < (x0.size : Int)) from by omega, show (0 ≤ (x1.size : Int) + 1) from by omega, show ((x1.size : Int) + 1).toNat ≤ 281474976710656 from by omega, if_true]
    refine ref_row x0 x1 h0 h1 i (by omega) x5 hx (fun _ => gm x0.data.toList x1.data.toList) (fun x7 h7 => ih (i + 1) (by omega) x7 h7) _ (fun _ => rfl) 0 (by omega) _ ⟨by simp, fun j hj => by omega⟩

theorem refglob_ev : Ev (fun K => eponymref18_Glob.f K x0 x1) (gm x0.data.toList x1.data.toList) := by
  have e1 := size_len x1
  unfold eponymref18_Glob.f
  rw [w64 (by omega) (by omega)]
  simp only [show (0 ≤ (x1.size : Int) + 1) from by omega, show ((x1.size : Int) + 1).toNat ≤ 281474976710656 from by omega, if_true, Option.bind_some, List.length_replicate]
  simp only [show (0 : Int) < ((((x1.size : Int) + 1).toNat : Nat) : Int) from by omega, if_true]
  refine ref_ev x0 x1 h0 h1 x0.size 0 (by omega) _ ⟨by simp, fun j hj => ?_⟩
  rw [show (0 : Int).toNat = 0 from rfl, set_row _ _ _ _ (by simp)]
  cases j with
  | zero => simp [gm]
  | succ j =>
    rw [if_neg (by omega), List.take_zero, gm_nil]
    have : (x1.data.toList.take (j + 1)).isEmpty = false := by
      cases hl : x1.data.toList with
      | nil =>
        have : x1.size = 0 := by rw [e1, hl]; rfl
        omega
      | cons b t => rfl
    rw [this]
    simp [List.getD_eq_getElem?_getD, List.getElem?_replicate]
    split <;> rfl
end

theorem awake_ev : Ev (fun K => eponymlaw18_awake.f K) true := Ev.of (fun k => eponymlaw18_awake.mono k) (k := 60) (by decide +kernel)
theorem MatchGlobs : eponymlaw18_MatchGlobs.Pure := by
  intro a0 a1 _ _
  refine Ev.rounds ?_
  unfold eponymlaw18_MatchGlobs.f
  refine Ev.bind awake_ev ?_
  simp only [if_true]
  have fin : Ev (fun K => eponymlaw18_MatchGlobs.j0 K a0 a1 true) true := by
    refine Ev.step (fun K => by rw [eponymlaw18_MatchGlobs.j0]) ?_
    simp only [if_true]
    exact Ev.now _
  by_cases c1 : a0.size ≤ 40
  · simp only [show ¬ ((a0.size : Int) > 40) from by omega, if_false]
    by_cases c2 : a1.size ≤ 40
    · simp only [show ¬ ((a1.size : Int) > 40) from by omega, decide_false]
      refine Ev.step (fun K => by rw [eponymlaw18_MatchGlobs.j0]) ?_
      simp only [Bool.false_eq_true, if_false]
      refine Ev.bind (glob_ev a0 a1 (by omega) (by omega) 0 (-1) 0 0 (Inv.start _ _)) ?_
      refine Ev.bind (refglob_ev a0 a1 (by omega) (by omega)) ?_
      simp only [beq_self_eq_true]
      exact Ev.now _
    · simp only [show ((a1.size : Int) > 40) from by omega, decide_true]
      exact fin
  · simp only [show ((a0.size : Int) > 40) from by omega, if_true]
    exact fin
end Go.Proofs.YtgdnagncjlajnaaDoor.Pure
