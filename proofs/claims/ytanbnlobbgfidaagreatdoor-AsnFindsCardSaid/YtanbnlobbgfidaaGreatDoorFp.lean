/- AsnFinds in plain Lean, and the law for all that comes in. -/
import Derived.Test.YtanbnlobbgfidaaGreatDoorFs
import Derived.Test.YtanbnlobbgfidaaGreatDoorPuG
namespace Go.Proofs.YtanbnlobbgfidaaGreatDoor
set_option linter.unusedSimpArgs false
set_option linter.unusedVariables false
open Go.RowKit Go.Lib Go.Proofs.YtanbnlobbgfidaaGreatDoorW.PrintWords Go.Proofs.YtanbnlobbgfidaaGreatDoor.PAu

theorem getD_at (p : List (Int × Int)) (i : Nat) (h : i < p.length) : p.getD i (0, 0) = p[i] := by
  rw [List.getD_eq_getElem?_getD, List.getElem?_eq_getElem h]
  rfl
theorem w_succ (j : Nat) (h : j ≤ 1000000) : wrap64 ((j : Int) + 1) = ((j + 1 : Nat) : Int) := by rw [w64 _ (by omega) (by omega)]; rfl
theorem w_pred (j : Nat) (h : j ≤ 1000000) (h0 : 0 < j) : wrap64 ((j : Int) - 1) = ((j - 1 : Nat) : Int) := by rw [w64 _ (by omega) (by omega)]; omega
/-- The document's Check, of any list. -/
theorem refCheck_loop (l : List SS) (hl : l.length ≤ 1000000) (i : Nat) (x : Option (Int × Nat)) (hb : badIs (ps l) i x) : ∀ (d j k : Nat), j + d = i → l.length - j < k → eponymref15_Check.l0 k l (j : Int) = some (errAt x, errNo x)
  | d, j, k, hj, hk => by
    obtain ⟨k, rfl⟩ : ∃ m, k = m + 1 := ⟨k - 1, by omega⟩
    obtain ⟨hi, hok, hx⟩ := hb
    rw [ps_length] at hi
    by_cases hjl : j < l.length
    · have hj6 : j ≤ 1000000 := by omega
      simp only [eponymref15_Check.l0]
      rw [if_pos (by omega), if_pos (by omega), rd_at l j hjl]
      match d, hj with
      | 0, hj =>
        obtain rfl : j = i := by omega
        rcases hx with ⟨hx, -⟩ | ⟨hlt, ⟨hgt, rfl⟩ | ⟨hle, hpos, hor, rfl⟩⟩
        · rw [ps_length] at hx; omega
        · rw [ps_get l j hjl] at hgt
          simp only at hgt
          rw [if_pos hgt]
          rfl
        · rw [ps_get l j hjl] at hle hor
          rw [ps_get l (j - 1) (by omega)] at hor
          simp only at hle hor
          rw [if_neg (by omega), if_pos (by omega), w_pred j hj6 hpos, if_pos (by omega), if_pos (by omega), rd_at l (j - 1) (by omega), if_pos hor]
          rfl
      | d + 1, hj =>
        have ih := refCheck_loop l hl i x ⟨by rw [ps_length]; exact hi, hok, hx⟩ d (j + 1) k (by omega) (by omega)
        obtain ⟨g1, g2⟩ := hok j (by omega) (by rw [ps_length]; exact hjl)
        rw [ps_get l j hjl] at g1 g2
        simp only at g1 g2
        rw [if_neg (by omega), w_succ j hj6]
        by_cases h0 : (j : Int) > 0
        · have g3 := g2 (by omega)
          rw [ps_get l (j - 1) (by omega)] at g3
          simp only at g3
          rw [if_pos h0, w_pred j hj6 (by omega), if_pos (by omega), if_pos (by omega), rd_at l (j - 1) (by omega), if_neg (by omega)]
          exact ih
        · rw [if_neg h0]
          exact ih
    · rcases hx with ⟨hx, rfl⟩ | ⟨hlt, -⟩
      · simp only [eponymref15_Check.l0]
        rw [if_neg (by omega)]
        rfl
      · rw [ps_length] at hlt; omega
theorem refCheck_f (l : List SS) (hl : l.length ≤ 1000000) (i : Nat) (x : Option (Int × Nat)) (hb : badIs (ps l) i x) : eponymref15_Check.f (l.length + 1) l = some (errAt x, errNo x) := by
  unfold eponymref15_Check.f
  exact refCheck_loop l hl i x hb i 0 _ (by omega) (by omega)
theorem row_of_bad (p : List (Int × Int)) (i : Nat) (hb : badIs p i none) : RowS p := by
  obtain ⟨hi, hok, ⟨rfl, -⟩ | ⟨h, ⟨-, h2⟩ | ⟨-, -, -, h2⟩⟩⟩ := hb
  · exact adj_pair p (fun j hj => (hok j hj hj).1) (fun j hj => by have := (hok (j + 1) hj hj).2 (by omega); simpa using this)
  · cases h2
  · cases h2
theorem errNo_some (p : List (Int × Int)) (i : Nat) (y : Int × Nat) (hb : badIs p i (some y)) : ¬ errNo (some y) = 0 := by
  obtain ⟨-, -, ⟨-, h⟩ | ⟨h, ⟨-, h2⟩ | ⟨-, -, -, h2⟩⟩⟩ := hb
  · cases h
  · injection h2 with h2; subst h2; simp [errNo]
  · injection h2 with h2; subst h2; simp [errNo]

/-! ### The row -/
theorem row_lt {p : List (Int × Int)} (h : RowS p) (i j : Nat) (hij : i < j) (hj : j < p.length) : (p.getD i (0, 0)).2 < (p.getD j (0, 0)).1 := by
  rw [getD_at p i (by omega), getD_at p j hj]
  exact List.pairwise_iff_getElem.1 h.1 i j (by omega) hj hij
theorem row_le {p : List (Int × Int)} (h : RowS p) (i : Nat) (hi : i < p.length) : (p.getD i (0, 0)).1 ≤ (p.getD i (0, 0)).2 := by
  rw [getD_at p i hi]
  exact h.2 _ (List.getElem_mem _)
theorem row_mono {p : List (Int × Int)} (h : RowS p) (n : Int) : ∀ a b, a ≤ b → b < p.length → n ≤ (p.getD a (0, 0)).2 → n ≤ (p.getD b (0, 0)).2 := fun a b h1 h2 h3 => by
  by_cases hab : a = b
  · subst hab; exact h3
  · have := row_lt h a b (by omega) h2
    have := row_le h b h2
    omega
theorem count_lt (k : Nat) : ∀ m, (List.range m).countP (fun i => decide (i < k)) = min k m
  | 0 => by simp
  | m + 1 => by
    rw [List.range_succ, List.countP_append, count_lt k m]
    by_cases h : m < k
    · simp [h]; omega
    · simp [h]; omega
/-- How many spans end ahead of n: where the first one stands that doesn't. -/
theorem posS_is {p : List (Int × Int)} (h : RowS p) (n : Int) : (∀ j, j < posS p n → (p.getD j (0, 0)).2 < n) ∧ (∀ j, posS p n ≤ j → j < p.length → n ≤ (p.getD j (0, 0)).2) := by
  have key : ∃ k, k ≤ p.length ∧ (∀ j, j < k → (p.getD j (0, 0)).2 < n) ∧ (∀ j, k ≤ j → j < p.length → n ≤ (p.getD j (0, 0)).2) := by
    rcases first_bad (fun j => (p.getD j (0, 0)).2 < n) p.length with h1 | ⟨i, h1, h2, h3⟩
    · exact ⟨p.length, Nat.le_refl _, h1, fun j h2 h3 => by omega⟩
    · exact ⟨i, by omega, h3, fun j h4 h5 => row_mono h n i j h4 h5 (by omega)⟩
  obtain ⟨k, hk, h1, h2⟩ := key
  have e : posS p n = k := by
    unfold posS
    rw [List.countP_congr (q := fun i => decide (i < k)) ?_, count_lt]
    · omega
    · intro i hi
      have hi : i < p.length := by simpa using hi
      by_cases hik : i < k
      · have := h1 i hik
        rw [decide_eq_false (show ¬ n ≤ (p.getD i (0, 0)).2 by omega), decide_eq_true hik]
        rfl
      · have := h2 i (by omega) hi
        rw [decide_eq_true this, decide_eq_false hik]
        rfl
  rw [e]
  exact ⟨h1, h2⟩
theorem want_lo {p : List (Int × Int)} (n : Int) : ∀ k, (∀ j, j < k → (p.getD j (0, 0)).2 < n) → wantS p n k = -1
  | 0, _ => rfl
  | k + 1, h => by
    have := h k (by omega)
    simp only [wantS]
    rw [if_neg (by omega)]
    exact want_lo n k (fun j hj => h j (by omega))
/-- The search finds what the law's loop finds. -/
theorem want_find {p : List (Int × Int)} (h : RowS p) (n : Int) : wantS p n p.length = findS p n := by
  obtain ⟨h1, h2⟩ := posS_is h n
  have hk := posS_le p n
  unfold findS
  generalize posS p n = k at h1 h2 hk
  have hlo := want_lo n k h1
  by_cases hke : k = p.length
  · rw [if_pos hke, ← hke]
    exact hlo
  · rw [if_neg hke]
    have hx := h2 k (Nat.le_refl _) (by omega)
    have step : ∀ d, k + 1 + d ≤ p.length → wantS p n (k + 1 + d) = if (p.getD k (0, 0)).1 > n then -1 else (k : Int) := by
      intro d
      induction d with
      | zero =>
        intro hd
        show wantS p n (k + 1) = _
        simp only [wantS]
        by_cases hg : (p.getD k (0, 0)).1 > n
        · rw [if_pos hg, if_neg (by omega)]
          exact hlo
        · rw [if_neg hg, if_pos ⟨by omega, hx⟩]
      | succ d ih =>
        intro hd
        have hgt := row_lt h k (k + 1 + d) (by omega) (by omega)
        show wantS p n (k + 1 + d + 1) = _
        simp only [wantS]
        rw [if_neg (by omega)]
        exact ih (by omega)
    have := step (p.length - k - 1) (by omega)
    rw [show k + 1 + (p.length - k - 1) = p.length by omega] at this
    exact this
theorem sum_size : ∀ (p : List (Int × Int)) (k : Nat), k ≤ p.length → sumS p k + sizeS (p.drop k) = sizeS p
  | p, 0, _ => by simp [sumS]
  | p, k + 1, h => by
    have ih := sum_size p k (by omega)
    rw [List.drop_eq_getElem_cons (by omega : k < p.length)] at ih
    simp only [sizeS] at ih
    simp only [sumS]
    rw [getD_at p k (by omega)]
    omega
theorem sum_ge {p : List (Int × Int)} (h : RowS p) : ∀ k, k ≤ p.length → 0 ≤ sumS p k
  | 0, _ => Int.le_refl _
  | k + 1, hk => by
    have := sum_ge h k (by omega)
    have := row_le h k (by omega)
    simp only [sumS]
    omega

theorem finds_any (A : Option Addr) (c : Nat) (l : List SS) (n : Int) (w : World) (hI : AInv w) (hr0 : Kd.C k28 w A l.length l) (hc0 : l.length ≤ c) (hx0 : ∀ x ∈ l, 0 ≤ x.f0 ∧ x.f0 < 4294967296 ∧ 0 ≤ x.f1 ∧ x.f1 < 4294967296) :
    Calls Tryz.prog 6 #[.slice A l.length c, .int .u32 n] w fun e w' => e = .returned (.bool true) ∧ Below w.heap.size w w' := by
  by_cases h60 : 60 < l.length
  · exact finds_long A c l.length n w h60 (awake_any w hI)
  · have hU : U32s (ps l) := fun x hx => by obtain ⟨y, hy, rfl⟩ := ps_mem.1 hx; exact hx0 y hy
    have hL : Lies w A (ps l) := fun hp => by
      rcases reads_of hr0 hc0 with ⟨_, _, h2⟩ | ⟨ad, c', h1, h2, h3⟩
      · have h2 : ps l = [] := h2
        rw [h2] at hp; exact absurd hp (by simp)
      · injection h1 with h1
        exact ⟨ad, h1, fun j hj => ⟨h3 _ _ (flat_fst _ j hj), h3 _ _ (flat_snd _ j hj)⟩⟩
    obtain ⟨i, x, hb⟩ := bad_ex (ps l)
    have h6 : ∀ y, Below w.heap.size w y → Calls Tryz.prog 17 #[.slice A l.length c] y fun e w' => e = .returned (.tuple #[.int .i64 (errAt x), .int .i64 (errNo x)]) ∧ Below y.heap.size y w' := fun y hy =>
      (eponymref15_Check.calls (l.length + 1) A c l _ _ y (Kd.C_below hr0 hy) hc0 (refCheck_f l (by omega) i x hb)).mono (by rintro e w' ⟨rfl, hd⟩; exact ⟨rfl, Go.Proofs.YtanbnlobbgfidaaGreatDoorW.PrintWords.Drawn0.below hd⟩)
    have h7 : ∀ y, Below w.heap.size w y → Calls Tryz.prog 19 #[.slice A l.length c] y fun e w' => ∃ v, e = .returned v ∧ FltIs w' v x ∧ Below y.heap.size y w' := fun y hy => by
      have := check_at A c (ps l) y (hI.below hy) (by rw [ps_length]; omega) (hL.below hy) i x hb
      rw [ps_length] at this
      exact this
    have h8 : ∀ y v, Below w.heap.size w y → FltIs y v x → Calls Tryz.prog 18 #[v, .int .i64 (errAt x), .int .i64 (errNo x)] y fun e w' => e = .returned (.bool true) ∧ Below y.heap.size y w' := fun y v hy hf => is_same v x y hf (hI.below hy).is
    cases x with
    | some z => exact finds_bad A c l.length n w h60 (some z) (errNo_some _ i z hb) (awake_any w hI) h6 h7 h8
    | none =>
      have hR := row_of_bad _ i hb
      have gs := gap_size (ps l) 0 hR (fun x hx => (hU x hx).1) (fun x hx => by have := (hU x hx).2.2.2; omega) (by omega)
      obtain ⟨g1, -, -⟩ := gap_good (ps l) 0 hR (fun x hx => (hU x hx).1) (fun x hx => by have := (hU x hx).2.2.2; omega) (by omega)
      have sz0 := size_ge _ g1.2
      have hsz : sizeS (ps l) ≤ 4294967296 := by omega
      have hs : ∀ k, k ≤ (ps l).length → 0 ≤ sumS (ps l) k ∧ sumS (ps l) k ≤ 9000000000000000000 := fun k hk => by
        have h1 := sum_size (ps l) k hk
        have h2 := size_ge ((ps l).drop k) (fun x hx => hR.2 x (List.mem_of_mem_drop hx))
        exact ⟨sum_ge hR k hk, by omega⟩
      have hse : sumS (ps l) (ps l).length = sizeS (ps l) := by
        have := sum_size (ps l) (ps l).length (Nat.le_refl _)
        rw [List.drop_length] at this
        simpa [sizeS] using this
      have C := finds_row A c (ps l) n w (by rw [ps_length]; exact h60) hL hU hR.2 hs (awake_any w hI)
        (by rw [ps_length]; exact h6) (by rw [ps_length]; exact h7) (by exact h8)
        (fun y hy => by
          rw [want_find hR]
          exact find_any A c (ps l) n y (by rw [ps_length]; omega) (hL.below hy) (row_mono hR n))
        (fun y hy => by
          rw [hse, ps_length]
          exact asn_Size.calls (l.length + 1) A c l _ y (Kd.C_below hr0 hy) hc0 (size_f l (by omega) hU hR.2 (by omega) _ (by omega)))
      rw [ps_length] at C
      exact C
end Go.Proofs.YtanbnlobbgfidaaGreatDoor
