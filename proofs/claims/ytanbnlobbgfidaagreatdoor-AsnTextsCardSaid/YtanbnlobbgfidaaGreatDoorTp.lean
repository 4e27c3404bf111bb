/- AsnTexts in plain Lean: what a span's text is, and that it is read back. -/
import Derived.Test.YtanbnlobbgfidaaGreatDoorFu
import Derived.Test.YtanbnlobbgfidaaGreatDoorPa
import Derived.Test.YtanbnlobbgfidaaGreatDoorPAtx1
namespace Go.Proofs.YtanbnlobbgfidaaGreatDoor
set_option linter.unusedSimpArgs false
set_option linter.unusedVariables false
open Go.RowKit Go.Proofs.YtanbnlobbgfidaaGreatDoorW.PrintWords

/-- A number's value. -/
def dec : Nat → List UInt8 → Nat
  | acc, [] => acc
  | acc, c :: r => dec (acc * 10 + (c.toNat - 48)) r
def p10 : Nat → Nat
  | 0 => 1
  | n + 1 => 10 * p10 n
theorem p10_pos : ∀ n, 1 ≤ p10 n
  | 0 => Nat.le_refl _
  | n + 1 => by have := p10_pos n; show 1 ≤ 10 * p10 n; omega
theorem p10_le (n m : Nat) (h : n ≤ m) : p10 n ≤ p10 m := by
  induction m with
  | zero => obtain rfl : n = 0 := by omega
            exact Nat.le_refl _
  | succ m ih =>
    rcases Nat.lt_or_ge m n with h2 | h2
    · obtain rfl : n = m + 1 := by omega
      exact Nat.le_refl _
    · have := ih h2
      show p10 n ≤ 10 * p10 m
      omega
theorem p10_9 : p10 9 = 1000000000 := by decide
theorem p10_10 : p10 10 = 10000000000 := by decide
theorem dec_ge : ∀ (l : List UInt8) (acc : Nat), acc * p10 l.length ≤ dec acc l
  | [], acc => by show acc * 1 ≤ acc; omega
  | c :: r, acc => by
    have h := dec_ge r (acc * 10 + (c.toNat - 48))
    show acc * (10 * p10 r.length) ≤ dec (acc * 10 + (c.toNat - 48)) r
    refine Nat.le_trans ?_ h
    rw [← Nat.mul_assoc]
    exact Nat.mul_le_mul_right _ (by omega)
theorem uintM_dec (M : Nat) (hM : M < 1844674407370955162) : ∀ (l : List UInt8) (acc : Nat), acc ≤ M → (∀ c ∈ l, 48 ≤ c.toNat ∧ c.toNat ≤ 57) → Lib.parseUintM M acc l = if M < dec acc l then .range else .ok (dec acc l)
  | [], acc, h, _ => by
    show Lib.NumEnd.ok acc = if M < acc then Lib.NumEnd.range else Lib.NumEnd.ok acc
    rw [if_neg (by omega)]
  | c :: r, acc, h, hd => by
    show _ = if M < dec (acc * 10 + (c.toNat - 48)) r then Lib.NumEnd.range else Lib.NumEnd.ok (dec (acc * 10 + (c.toNat - 48)) r)
    unfold Lib.parseUintM
    rw [if_pos (hd c (List.mem_cons_self ..)), if_neg (by omega)]
    by_cases h2 : M < acc * 10 + (c.toNat - 48)
    · rw [if_pos h2, if_pos]
      have := dec_ge r (acc * 10 + (c.toNat - 48))
      have h10 := p10_pos r.length
      have := Nat.le_mul_of_pos_right (acc * 10 + (c.toNat - 48)) h10
      omega
    · rw [if_neg h2]
      exact uintM_dec M hM r _ (by omega) (fun d hx => hd d (List.mem_cons_of_mem _ hx))
theorem digit_iff (c : UInt8) : (decide (c < 48) || decide (57 < c)) = false ↔ 48 ≤ c.toNat ∧ c.toNat ≤ 57 := by
  rw [Bool.or_eq_false_iff, decide_eq_false_iff_not, decide_eq_false_iff_not, UInt8.lt_iff_toNat_lt, UInt8.lt_iff_toNat_lt]
  show ¬ c.toNat < 48 ∧ ¬ 57 < c.toNat ↔ _
  omega
theorem w64' (n : Int) (h1 : -9223372036854775808 ≤ n) (h2 : n ≤ 9223372036854775807) : wrap64 n = n := by unfold wrap64; omega
theorem occ_one (l : List UInt8) (c : UInt8) (i : Nat) : Lib.occAt l [c] i = decide (l[i]? = some c) := by
  unfold Lib.occAt
  cases h : l.drop i with
  | nil =>
    have : l[i]? = none := by rw [List.getElem?_eq_none_iff]; exact List.drop_eq_nil_iff.1 h
    rw [this]
    rfl
  | cons x r =>
    have : l[i]? = some x := by rw [← List.head?_drop, h]; rfl
    rw [this]
    show (c == x && true) = decide (some x = some c)
    rw [Bool.and_true, Bool.eq_iff_iff, beq_iff_eq, decide_eq_true_eq, Option.some.injEq]
    exact eq_comm
/-- What strings.Cut finds at one byte. -/
theorem cut_at (l : List UInt8) (c : UInt8) (p : Nat) (hp : p ≤ l.length) (hpre : ∀ j, j < p → l[j]? ≠ some c) (hat : p < l.length → l[p]? = some c) :
    Lib.cut l [c] = if p < l.length then (l.take p, l.drop (p + 1), true) else (l, [], false) := by
  unfold Lib.cut
  by_cases h : p < l.length
  · rw [Lib.index_first (i := p) hp (by rw [occ_one]; simpa using hat h) (fun j hj => by rw [occ_one]; simpa using hpre j hj), if_pos h, if_pos (by omega)]
    rfl
  · obtain rfl : p = l.length := by omega
    rw [Lib.index_none (fun j hj => by
      rw [occ_one, decide_eq_false_iff_not]
      intro e
      rcases Nat.lt_or_ge j l.length with h2 | h2
      · exact hpre j h2 e
      · rw [List.getElem?_eq_none h2] at e; cases e), if_neg h, if_neg (by omega)]

/-! ### The decimal text of a number -/
theorem dd_lt {u : Nat} (h : u < 10) : Lib.decDigits u = [UInt8.ofNat (48 + u)] := Lib.decDigits_one h
theorem dd_ge {u : Nat} (h : ¬ u < 10) : Lib.decDigits u = Lib.decDigits (u / 10) ++ [UInt8.ofNat (48 + u % 10)] := by rw [Lib.decDigits, dif_neg h]
theorem ofNat_digit {d : Nat} (h : d < 10) : (UInt8.ofNat (48 + d)).toNat = 48 + d := by
  rw [UInt8.toNat_ofNat']
  omega
theorem dd_digits (u : Nat) : ∀ c ∈ Lib.decDigits u, 48 ≤ c.toNat ∧ c.toNat ≤ 57 := by
  induction u using Nat.strongRecOn with
  | ind u ih =>
    intro c hc
    by_cases h : u < 10
    · rw [dd_lt h] at hc
      rw [List.mem_singleton.1 hc, ofNat_digit h]
      omega
    · rw [dd_ge h] at hc
      rcases List.mem_append.1 hc with hc | hc
      · exact ih (u / 10) (by omega) c hc
      · rw [List.mem_singleton.1 hc, ofNat_digit (by omega)]
        omega
theorem dd_ne (u : Nat) : Lib.decDigits u ≠ [] := by
  by_cases h : u < 10
  · rw [dd_lt h]; simp
  · rw [dd_ge h]; simp
theorem dec_append : ∀ (l : List UInt8) (acc : Nat) (c : UInt8), dec acc (l ++ [c]) = dec acc l * 10 + (c.toNat - 48)
  | [], _, _ => rfl
  | x :: r, acc, c => dec_append r _ c
theorem dd_dec (u : Nat) : dec 0 (Lib.decDigits u) = u := by
  induction u using Nat.strongRecOn with
  | ind u ih =>
    by_cases h : u < 10
    · rw [dd_lt h]
      show 0 * 10 + ((UInt8.ofNat (48 + u)).toNat - 48) = u
      rw [ofNat_digit h]
      omega
    · rw [dd_ge h, dec_append, ih (u / 10) (by omega), ofNat_digit (by omega)]
      omega
theorem dd_head (u : Nat) : ¬ ((Lib.decDigits u).head? = some 48 ∧ 1 < (Lib.decDigits u).length) := by
  have key : 0 < u → (Lib.decDigits u).head? ≠ some 48 := by
    induction u using Nat.strongRecOn with
    | ind u ih =>
      intro h0
      by_cases h : u < 10
      · rw [dd_lt h]
        simp only [List.head?_cons, ne_eq, Option.some.injEq]
        intro e
        have := congrArg UInt8.toNat e
        rw [ofNat_digit h] at this
        have h48 : (48 : UInt8).toNat = 48 := rfl
        omega
      · rw [dd_ge h, List.head?_append]
        have h1 := ih (u / 10) (by omega) (by omega)
        cases hh : (Lib.decDigits (u / 10)).head? with
        | none => exact absurd (List.head?_eq_none_iff.1 hh) (dd_ne _)
        | some x => rw [hh] at h1; simpa using h1
  rintro ⟨h1, h2⟩
  by_cases h0 : 0 < u
  · exact key h0 h1
  · obtain rfl : u = 0 := by omega
    rw [dd_lt (by omega)] at h2
    simp at h2
theorem numS_dd (u : Nat) (h : u < 4294967296) : numS (Lib.decDigits u) = ((u : Int), none) := by
  unfold numS
  have hbad : badAt (Lib.decDigits u) = none := by
    unfold badAt
    rw [List.findIdx?_eq_none_iff]
    intro c hc
    exact (digit_iff c).2 (dd_digits u c hc)
  rw [if_neg (dd_ne u), hbad]
  simp only
  rw [if_neg (dd_head u)]
  unfold Lib.parseUintB
  have hM : (2 ^ 32 - 1 : Nat) = 4294967295 := by decide
  rw [if_neg (dd_ne u), hM, uintM_dec 4294967295 (by decide) _ 0 (by omega) (dd_digits u), dd_dec, if_neg (by omega)]
theorem dd_no45 (u j : Nat) : (Lib.decDigits u)[j]? ≠ some 45 := by
  intro e
  have := dd_digits u 45 (List.mem_of_getElem? e)
  have h45 : (45 : UInt8).toNat = 45 := rfl
  omega
/-- The text is read back. -/
theorem parse_text (a b : Nat) (ha : a < 4294967296) (hb : b < 4294967296) : if a > b then parseS (textS a b) = ((0, 0), some (0, 16)) else parseS (textS a b) = (((a : Int), (b : Int)), none) := by
  unfold textS
  by_cases h1 : a > b
  · rw [if_pos h1, if_pos h1]
    rfl
  · rw [if_neg h1, if_neg h1]
    by_cases h2 : a = b
    · rw [if_pos h2]
      subst h2
      have hc := cut_at (Lib.decDigits a) 45 (Lib.decDigits a).length (Nat.le_refl _) (fun j _ => dd_no45 a j) (fun h => by omega)
      rw [if_neg (by omega)] at hc
      unfold parseS
      rw [hc]
      simp only
      rw [numS_dd a ha]
      simp
    · rw [if_neg h2]
      have hc := cut_at (Lib.decDigits a ++ [45] ++ Lib.decDigits b) 45 (Lib.decDigits a).length (by simp)
        (fun j hj => by rw [List.append_assoc, List.getElem?_append_left hj]; exact dd_no45 a j)
        (fun h => by rw [List.append_assoc, List.getElem?_append_right (Nat.le_refl _)]; simp)
      rw [if_pos (by simp)] at hc
      have e1 : (Lib.decDigits a ++ [45] ++ Lib.decDigits b).take (Lib.decDigits a).length = Lib.decDigits a := by simp
      have e2 : (Lib.decDigits a ++ [45] ++ Lib.decDigits b).drop ((Lib.decDigits a).length + 1) = Lib.decDigits b := by
        have e3 : (Lib.decDigits a).length + 1 = (Lib.decDigits a ++ [45]).length := by simp
        rw [e3, List.drop_left]
      rw [e1, e2] at hc
      unfold parseS
      rw [hc]
      simp only
      rw [numS_dd a ha, numS_dd b hb]
      simp only
      rw [if_pos True.intro, if_neg (by omega)]

/-! ### The document's text -/
theorem nums_one (d : Nat) (h : d < 10) : strOfNums [((d : Int) % 256 + 48) % 256] = ⟨#[UInt8.ofNat (48 + d)]⟩ := by
  unfold strOfNums
  have e : (((d : Int) % 256 + 48) % 256).toNat = 48 + d := by omega
  rw [List.map_cons, List.map_nil, e]
theorem digits_loop (u : Nat) : ∀ (acc : List UInt8) (k : Nat), 0 < u → u + acc.length ≤ 5000000000 → 2 * u + 4 < k → PAt.eponymref03_Digits.l0 k (u : Int) 10 ⟨acc.toArray⟩ = some ⟨(Lib.decDigits u ++ acc).toArray⟩ := by
  induction u using Nat.strongRecOn with
  | ind u ih =>
    intro acc k h0 hs hk
    obtain ⟨k, rfl⟩ : ∃ m, k = m + 1 + 1 := ⟨k - 2, by omega⟩
    have e1 : Int.tmod (u : Int) 10 = ((u % 10 : Nat) : Int) := by rw [Int.tmod_eq_emod_of_nonneg (by omega)]; omega
    have e2 : wrap64 (Int.tdiv (u : Int) 10) = ((u / 10 : Nat) : Int) := by rw [Int.tdiv_eq_ediv_of_nonneg (by omega)]; unfold wrap64; omega
    simp only [PAt.eponymref03_Digits.l0, PAt.eponymref03_Digits.j1]
    rw [if_pos (by omega), if_pos True.intro, if_neg (by decide), e1, e2, if_pos (by omega)]
    simp only [Option.bind_some]
    rw [nums_one (u % 10) (by omega), if_pos (by simp [ByteArray.size]; omega), ByteArray.mk_append_mk]
    rw [show [UInt8.ofNat (48 + u % 10)] ++ acc = UInt8.ofNat (48 + u % 10) :: acc from rfl]
    by_cases h : u < 10
    · obtain ⟨k, rfl⟩ : ∃ m, k = m + 1 + 1 := ⟨k - 2, by omega⟩
      have e3 : u / 10 = 0 := by omega
      rw [e3]
      simp only [PAt.eponymref03_Digits.l0, PAt.eponymref03_Digits.j1]
      rw [if_neg (by decide), ByteArray.toList_eq]
      rw [if_neg (by simp), dd_lt h, show u % 10 = u by omega]
      rfl
    · rw [ih (u / 10) (by omega) _ k (by omega) (by simp; omega) (by omega), dd_ge h]
      simp
theorem digits_f (u k : Nat) (hu : u < 4294967296) (hk : 2 * u + 10 < k) : PAt.eponymref03_Digits.f k (u : Int) 10 = some ⟨(Lib.decDigits u).toArray⟩ := by
  unfold PAt.eponymref03_Digits.f
  by_cases h0 : 0 < u
  · have := digits_loop u [] k h0 (by simp; omega) (by omega)
    rw [List.append_nil] at this
    exact this
  · obtain rfl : u = 0 := by omega
    obtain ⟨k, rfl⟩ : ∃ m, k = m + 1 + 1 + 1 + 1 := ⟨k - 4, by omega⟩
    rw [dd_lt (by omega)]
    simp only [PAt.eponymref03_Digits.l0, PAt.eponymref03_Digits.j1]
    have e0 : wrap64 (Int.tdiv ((0 : Nat) : Int) 10) = 0 := by rw [show Int.tdiv ((0 : Nat) : Int) 10 = 0 from rfl]; unfold wrap64; omega
    have e1 : Int.tmod ((0 : Nat) : Int) 10 = ((0 : Nat) : Int) := by decide
    simp only [Option.bind_some, ByteArray.toList_eq, e0, e1]
    rw [if_neg (by decide), if_pos (by decide), if_neg (by decide), if_pos (by decide), nums_one 0 (by omega), if_pos (by decide), if_neg (by decide), if_neg (by decide)]
    rfl
theorem refText_f (a b k : Nat) (ha : a < 4294967296) (hb : b < 4294967296) (hk : 2 * a + 2 * b + 20 < k) : PAt.eponymref15_Text.f k (a : Int) (b : Int) = some ⟨(textS a b).toArray⟩ := by
  unfold PAt.eponymref15_Text.f textS
  have w1 : wrap64 (a : Int) = (a : Int) := by unfold wrap64; omega
  have w2 : wrap64 (b : Int) = (b : Int) := by unfold wrap64; omega
  have l1 : (Lib.decDigits a).length ≤ 20 := by rw [Lib.decDigits_length]; exact dec_len a ha
  have l2 : (Lib.decDigits b).length ≤ 20 := by rw [Lib.decDigits_length]; exact dec_len b hb
  by_cases h1 : a > b
  · rw [if_pos h1, if_pos (by omega)]
  · rw [if_neg h1, if_neg (by omega), w1, w2, digits_f a k ha (by omega), digits_f b k hb (by omega)]
    simp only [Option.bind_some]
    by_cases h2 : a = b
    · rw [if_pos h2, if_neg (by omega)]
    · rw [if_neg h2, if_pos (by omega), if_pos (by simp [ByteArray.size]; omega), if_pos (by rw [ByteArray.mk_append_mk]; simp [ByteArray.size]; omega), ByteArray.mk_append_mk, ByteArray.mk_append_mk]
end Go.Proofs.YtanbnlobbgfidaaGreatDoor
