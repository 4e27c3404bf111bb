/- The digits of a number, as the program and as the document write them. -/
import Derived.Test.YtlgdenihddkjaaaDoorExt
import Derived.Test.YtlgdenihddkjaaaDoorPStx4
import Derived.Test.YtlgdenihddkjaaaDoorPStx1
namespace Go.Proofs.YtlgdenihddkjaaaDoor
set_option linter.unusedSimpArgs false
set_option linter.unusedVariables false
open Go.RowKit Go.Lib

/-- So many digits. -/
def dg : Nat → Nat → List UInt8
  | 0, _ => []
  | w + 1, n => dg w (n / 10) ++ [UInt8.ofNat (48 + n % 10)]
theorem dg_length : ∀ w n, (dg w n).length = w
  | 0, _ => rfl
  | w + 1, n => by simp [dg, dg_length w]
theorem dg_zero : ∀ w, dg w 0 = List.replicate w 48
  | 0 => rfl
  | w + 1 => by
    rw [dg, dg_zero w, List.replicate_succ']
    rfl
theorem dec_small (n : Nat) (h : n < 10) : decDigits n = [UInt8.ofNat (48 + n)] := by rw [decDigits]; simp [h]
theorem dec_big (n : Nat) (h : ¬ n < 10) : decDigits n = decDigits (n / 10) ++ [UInt8.ofNat (48 + n % 10)] := by
  conv => lhs; rw [decDigits]
  simp [h]
theorem dec_pos (n : Nat) : 0 < (decDigits n).length := by
  by_cases h : n < 10
  · rw [dec_small n h]; simp
  · rw [dec_big n h]; simp
/-- The digits, behind as many noughts as are wanted. -/
theorem dec_dg : ∀ w n, n < 10 ^ (w + 1) → (decDigits n).length ≤ w + 1 ∧ List.replicate (w + 1 - (decDigits n).length) 48 ++ decDigits n = dg (w + 1) n
  | 0, n, h => by
    have h' : n < 10 := by simpa using h
    rw [dec_small n h']
    simp [dg, Nat.mod_eq_of_lt h']
  | w + 1, n, h => by
    by_cases h' : n < 10
    · rw [dec_small n h']
      refine ⟨by simp, ?_⟩
      have e : n / 10 = 0 := Nat.div_eq_of_lt h'
      rw [dg, e, dg_zero, Nat.mod_eq_of_lt h']
      simp
    · obtain ⟨l, e⟩ := dec_dg w (n / 10) (by rw [Nat.pow_succ] at h; omega)
      rw [dec_big n h']
      refine ⟨by simp; omega, ?_⟩
      rw [dg, ← e]
      simp

/-- A text of bytes. -/
def bs (l : List UInt8) : ByteArray := ⟨l.toArray⟩
theorem bs_size (l : List UInt8) : (bs l).size = l.length := by simp [bs, ByteArray.size]
theorem bs_append (a b : List UInt8) : bs a ++ bs b = bs (a ++ b) := by
  apply ByteArray.ext
  simp [bs]

/-- Padding. -/
theorem stamp_pad : ∀ (j k w : Nat) (l : List UInt8), w < 1000 → l.length + j = w → j < k → PSt.stamp_digits.l0 k w (bs l) = some (bs (List.replicate j 48 ++ l))
  | 0, k + 1, w, l, hw, h, hk => by
    rw [PSt.stamp_digits.l0, if_neg (by rw [bs_size]; omega)]
    simp
  | j + 1, k + 1, w, l, hw, h, hk => by
    rw [PSt.stamp_digits.l0, if_pos (by rw [bs_size]; omega), if_pos (by rw [bs_size]; omega)]
    have e : (⟨#[48]⟩ : ByteArray) ++ bs l = bs (48 :: l) := bs_append [48] l
    rw [e, stamp_pad j k w (48 :: l) hw (by simp; omega) (by omega)]
    rw [List.replicate_succ']
    simp
theorem ref_pad : ∀ (j k w : Nat) (l : List UInt8), w < 1000 → l.length + j = w → j < k → PSt.eponymref16_digits.l0 k w (bs l) = some (bs (List.replicate j 48 ++ l))
  | 0, k + 1, w, l, hw, h, hk => by
    rw [PSt.eponymref16_digits.l0, if_neg (by rw [bs_size]; omega)]
    simp
  | j + 1, k + 1, w, l, hw, h, hk => by
    rw [PSt.eponymref16_digits.l0, if_pos (by rw [bs_size]; omega), if_pos (by rw [bs_size]; omega)]
    have e : (⟨#[48]⟩ : ByteArray) ++ bs l = bs (48 :: l) := bs_append [48] l
    rw [e, ref_pad j k w (48 :: l) hw (by simp; omega) (by omega)]
    rw [List.replicate_succ']
    simp
/-- stamp.digits. -/
theorem stamp_digits_f (w n k : Nat) (hw : w < 100) (hn : n < 10 ^ (w + 1)) (h63 : n ≤ 9223372036854775807) (hk : w + 2 ≤ k) : PSt.stamp_digits.f k n ((w + 1 : Nat) : Int) = some (bs (dg (w + 1) n)) := by
  obtain ⟨h1, h2⟩ := dec_dg w n hn
  unfold PSt.stamp_digits.f PSt.strconv_Itoa.f
  rw [if_pos (by omega), Option.bind_some]
  have e : (⟨(itoa (n : Int)).toArray⟩ : ByteArray) = bs (decDigits n) := by
    unfold itoa
    rw [if_neg (by omega)]
    rfl
  rw [e, stamp_pad (w + 1 - (decDigits n).length) k (w + 1) (decDigits n) (by omega) (by omega) (by omega), h2]

theorem nums_dig (n : Nat) : strOfNums [(((n : Int) % 10) % 256 + 48) % 256] = bs [UInt8.ofNat (48 + n % 10)] := by
  have h : ((((n : Int) % 10) % 256 + 48) % 256).toNat = 48 + n % 10 := by omega
  unfold strOfNums bs
  simp only [List.map_cons, List.map_nil, h]
theorem bs_toList_cons (a : UInt8) (l : List UInt8) : ((bs (a :: l)).toList == ([] : List UInt8)) = false := by
  rw [Lib.toList_data]; simp [bs]
theorem bs_toList_nil : ((bs []).toList == ([] : List UInt8)) = true := by
  rw [Lib.toList_data]; rfl
theorem ref_step (n k : Nat) (l : List UInt8) (hl : l.length ≤ 1000) (hn : n ≤ 9223372036854775807) : PSt.eponymref03_Digits.j1 (k + 1) n 10 (bs l) true = PSt.eponymref03_Digits.l0 k ((n / 10 : Nat) : Int) 10 (bs (UInt8.ofNat (48 + n % 10) :: l)) := by
  have e1 : Int.tmod (n : Int) 10 = (n : Int) % 10 := Int.tmod_eq_emod_of_nonneg (by omega)
  have e2 : Int.tdiv (n : Int) 10 = (n : Int) / 10 := Int.tdiv_eq_ediv_of_nonneg (by omega)
  rw [PSt.eponymref03_Digits.j1, if_pos rfl, if_neg (by omega), e1, e2, if_pos (by omega), Option.bind_some, nums_dig]
  rw [if_pos (by rw [bs_size, bs_size]; simp; omega), bs_append]
  have e3 : wrap64 ((n : Int) / 10) = ((n / 10 : Nat) : Int) := by unfold wrap64; omega
  rw [e3]
  rfl
theorem ref_loop : ∀ (n k : Nat) (l : List UInt8), l ≠ [] → n ≤ 9000000000 → (if n = 0 then l.length ≤ 900 else (decDigits n).length + l.length ≤ 900) → 2 * n + 2 ≤ k → PSt.eponymref03_Digits.l0 k n 10 (bs l) = some (bs (if n = 0 then l else decDigits n ++ l)) := by
  intro n
  induction n using Nat.strongRecOn with
  | ind n ih =>
    intro k l hl h1 h2 hk
    obtain ⟨k, rfl⟩ : ∃ j, k = j + 1 := ⟨k - 1, by omega⟩
    rw [PSt.eponymref03_Digits.l0]
    obtain ⟨a, t, rfl⟩ : ∃ a t, l = a :: t := by cases l with | nil => exact (hl rfl).elim | cons a t => exact ⟨a, t, rfl⟩
    by_cases h0 : n = 0
    · subst h0
      rw [if_neg (by simp), bs_toList_cons]
      obtain ⟨k, rfl⟩ : ∃ j, k = j + 1 := ⟨k - 1, by omega⟩
      rw [PSt.eponymref03_Digits.j1, if_neg (by simp)]
      simp
    · rw [if_pos (by omega)]
      obtain ⟨k, rfl⟩ : ∃ j, k = j + 1 := ⟨k - 1, by omega⟩
      rw [if_neg h0] at h2
      rw [ref_step n k (a :: t) (by omega) (by omega)]
      have hd : n / 10 < n := by omega
      by_cases hs : n < 10
      · have e0 : n / 10 = 0 := by omega
        rw [dec_small n hs] at h2 ⊢
        have hz := ih (n / 10) hd k (UInt8.ofNat (48 + n % 10) :: a :: t) (by simp) (by omega) (by rw [if_pos e0]; simp at h2 ⊢; omega) (by omega)
        rw [hz, if_pos e0, if_neg h0]
        have e2 : n % 10 = n := by omega
        rw [e2]
        rfl
      · rw [dec_big n hs] at h2 ⊢
        have hz := ih (n / 10) hd k (UInt8.ofNat (48 + n % 10) :: a :: t) (by simp) (by omega) (by rw [if_neg (by omega)]; simp at h2 ⊢; omega) (by omega)
        rw [hz, if_neg (by omega), if_neg h0]
        simp
/-- eponymref03.Digits, at ten. -/
theorem refDigits_f (n k : Nat) (h1 : n ≤ 9000000000) (h2 : (decDigits n).length ≤ 800) (hk : 2 * n + 4 ≤ k) : PSt.eponymref03_Digits.f k n 10 = some (bs (decDigits n)) := by
  unfold PSt.eponymref03_Digits.f
  show PSt.eponymref03_Digits.l0 k n 10 (bs []) = _
  obtain ⟨k, rfl⟩ : ∃ j, k = j + 2 := ⟨k - 2, by omega⟩
  rw [PSt.eponymref03_Digits.l0]
  have hd : PSt.eponymref03_Digits.j1 (k + 1) (n : Int) 10 (bs []) true = some (bs (decDigits n)) := by
    rw [ref_step n k [] (by simp) (by omega)]
    by_cases hs : n < 10
    · have e0 : n / 10 = 0 := by omega
      rw [ref_loop (n / 10) k _ (by simp) (by omega) (by rw [if_pos e0]; simp) (by omega), if_pos e0, dec_small n hs]
      have e2 : n % 10 = n := by omega
      rw [e2]
    · rw [dec_big n hs] at h2
      rw [ref_loop (n / 10) k _ (by simp) (by omega) (by rw [if_neg (by omega)]; simp at h2 ⊢; omega) (by omega), if_neg (by omega), dec_big n hs]
  by_cases h0 : (n : Int) > 0
  · rw [if_pos h0, hd]
  · rw [if_neg h0, bs_toList_nil]
    exact hd
/-- eponymref16.digits. -/
theorem ref_digits_f (w n k : Nat) (hw : w < 100) (hn : n < 10 ^ (w + 1)) (h1 : n ≤ 9000000000) (hk : 2 * n + 200 ≤ k) : PSt.eponymref16_digits.f k n ((w + 1 : Nat) : Int) = some (bs (dg (w + 1) n)) := by
  obtain ⟨l1, l2⟩ := dec_dg w n hn
  unfold PSt.eponymref16_digits.f
  rw [refDigits_f n k h1 (by omega) (by omega), Option.bind_some]
  rw [ref_pad (w + 1 - (decDigits n).length) k (w + 1) (decDigits n) (by omega) (by omega) (by omega), l2]
end Go.Proofs.YtlgdenihddkjaaaDoor
