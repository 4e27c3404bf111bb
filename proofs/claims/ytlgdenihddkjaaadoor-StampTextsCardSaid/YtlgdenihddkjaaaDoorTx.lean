/- A stamp's text, as the program and as the document write it. -/
import Derived.Test.YtlgdenihddkjaaaDoorDg
import Derived.Test.YtlgdenihddkjaaaDoorDb
import Derived.Test.YtlgdenihddkjaaaDoorQb
import Derived.Test.YtlgdenihddkjaaaDoorPStx5
namespace Go.Proofs.YtlgdenihddkjaaaDoor
set_option linter.unusedSimpArgs false
set_option linter.unusedVariables false
open Go.RowKit Go.Lib Go.Proofs.YtlgdenihddkjaaaDoorW.PrintWords

theorem floor_86400 (a : Int) (h1 : -100000000000 ≤ a) (h2 : a ≤ 1000000000000) : PSt.stamp_floor.f a 86400 = some (a / 86400) := by
  unfold PSt.stamp_floor.f
  rw [if_neg (by omega)]
  by_cases h : 0 ≤ a
  · rw [tm_nn h, td_nn h, if_neg (by omega), w64 (by omega) (by omega)]
  · rw [tm_neg (by omega), td_neg (by omega)]
    split
    · simp (disch := omega) only [w64]; congr 1; omega
    · simp (disch := omega) only [w64]; congr 1; omega

/-- Hour, minute and second of a second of a day. -/
def clockL (c : Nat) : List UInt8 := dg 2 (c / 3600) ++ [58] ++ dg 2 (c / 60 % 60) ++ [58] ++ dg 2 (c % 60)
theorem clockL_length (c : Nat) : (clockL c).length = 8 := by simp [clockL, dg_length]
theorem sd2 (n k : Nat) (z : Int) (hz : z = n) (hn : n < 100) (hk : 3 ≤ k) : PSt.stamp_digits.f k z 2 = some (bs (dg 2 n)) := by
  subst hz; exact stamp_digits_f 1 n k (by omega) (by omega) (by omega) (by omega)
theorem sd4 (n k : Nat) (z : Int) (hz : z = n) (hn : n < 10000) (hk : 5 ≤ k) : PSt.stamp_digits.f k z 4 = some (bs (dg 4 n)) := by
  subst hz; exact stamp_digits_f 3 n k (by omega) (by omega) (by omega) (by omega)
theorem sd9 (n k : Nat) (z : Int) (hz : z = n) (hn : n < 1000000000) (hk : 10 ≤ k) : PSt.stamp_digits.f k z 9 = some (bs (dg 9 n)) := by
  subst hz; exact stamp_digits_f 8 n k (by omega) (by omega) (by omega) (by omega)
theorem rd2 (n k : Nat) (z : Int) (hz : z = n) (hn : n < 100) (hk : 1000 ≤ k) : PSt.eponymref16_digits.f k z 2 = some (bs (dg 2 n)) := by
  subst hz; exact ref_digits_f 1 n k (by omega) (by omega) (by omega) (by omega)
theorem rd4 (n k : Nat) (z : Int) (hz : z = n) (hn : n < 10000) (hk : 30000 ≤ k) : PSt.eponymref16_digits.f k z 4 = some (bs (dg 4 n)) := by
  subst hz; exact ref_digits_f 3 n k (by omega) (by omega) (by omega) (by omega)
theorem rd9 (n k : Nat) (z : Int) (hz : z = n) (hn : n < 1000000000) (hk : 3000000000 ≤ k) : PSt.eponymref16_digits.f k z 9 = some (bs (dg 9 n)) := by
  subst hz; exact ref_digits_f 8 n k (by omega) (by omega) (by omega) (by omega)

theorem parted_f (sec nan : Int) (k : Nat) (hk : 10 ≤ k) (h1 : -62167219200 ≤ sec) (h2 : sec ≤ 253402300799) (c : Nat) (hc : (c : Int) = sec - sec / 86400 * 86400) :
    PSt.stamp_parted.f k sec nan = some (sec / 86400, bs (clockL c)) := by
  have c0 : c < 86400 := by omega
  unfold PSt.stamp_parted.f
  rw [floor_86400 sec (by omega) (by omega), Option.bind_some]
  rw [w64 (n := sec / 86400 * 86400) (by omega) (by omega), w64 (n := sec - sec / 86400 * 86400) (by omega) (by omega), ← hc]
  have e1 : Int.tdiv (c : Int) 3600 = (c : Int) / 3600 := td_nn (by omega)
  have e2 : Int.tdiv (c : Int) 60 = (c : Int) / 60 := td_nn (by omega)
  have e3 : Int.tmod ((c : Int) / 60) 60 = (c : Int) / 60 % 60 := tm_nn (by omega)
  have e4 : Int.tmod (c : Int) 60 = (c : Int) % 60 := tm_nn (by omega)
  rw [e1, e2, w64 (n := (c : Int) / 3600) (by omega) (by omega), w64 (n := (c : Int) / 60) (by omega) (by omega), e3, e4]
  rw [sd2 (c / 3600) k ((c : Int) / 3600) (by omega) (by omega) (by omega), Option.bind_some]
  rw [if_pos (by rw [bs_size]; simp [dg_length])]
  rw [sd2 (c / 60 % 60) k ((c : Int) / 60 % 60) (by omega) (by omega) (by omega), Option.bind_some]
  have b1 : (⟨#[58]⟩ : ByteArray) = bs [58] := rfl
  rw [b1, bs_append]
  rw [if_pos (by rw [bs_size, bs_size]; simp [dg_length]), bs_append, if_pos (by rw [bs_size]; simp [dg_length])]
  rw [sd2 (c % 60) k ((c : Int) % 60) (by omega) (by omega) (by omega), Option.bind_some]
  rw [bs_append, if_pos (by rw [bs_size, bs_size]; simp [dg_length]), bs_append]
  rfl

theorem refClock_f (c k : Nat) (c0 : c < 86400) (hk : 1000 ≤ k) : PSt.eponymref16_clock.f k c = some (bs (clockL c)) := by
  unfold PSt.eponymref16_clock.f
  have e1 : Int.tdiv (c : Int) 3600 = (c : Int) / 3600 := td_nn (by omega)
  have e2 : Int.tdiv (c : Int) 60 = (c : Int) / 60 := td_nn (by omega)
  have e3 : Int.tmod ((c : Int) / 60) 60 = (c : Int) / 60 % 60 := tm_nn (by omega)
  have e4 : Int.tmod (c : Int) 60 = (c : Int) % 60 := tm_nn (by omega)
  rw [e1, e2, w64 (n := (c : Int) / 3600) (by omega) (by omega), w64 (n := (c : Int) / 60) (by omega) (by omega), e3, e4]
  rw [rd2 (c / 3600) k ((c : Int) / 3600) (by omega) (by omega) (by omega), Option.bind_some]
  rw [if_pos (by rw [bs_size]; simp [dg_length])]
  rw [rd2 (c / 60 % 60) k ((c : Int) / 60 % 60) (by omega) (by omega) (by omega), Option.bind_some]
  have b1 : (⟨#[58]⟩ : ByteArray) = bs [58] := rfl
  rw [b1, bs_append]
  rw [if_pos (by rw [bs_size, bs_size]; simp [dg_length]), bs_append, if_pos (by rw [bs_size]; simp [dg_length])]
  rw [rd2 (c % 60) k ((c : Int) % 60) (by omega) (by omega) (by omega), Option.bind_some]
  rw [bs_append, if_pos (by rw [bs_size, bs_size]; simp [dg_length]), bs_append]
  rfl

theorem trim_end (t : List UInt8) : trimRightB (t ++ [48]) 48 = trimRightB t 48 := by simp [trimRightB]
theorem trim_stay (t : List UInt8) (b : UInt8) (h : b ≠ 48) : trimRightB (t ++ [b]) 48 = t ++ [b] := by simp [trimRightB, h]
theorem bs_last (t : List UInt8) (b : UInt8) : bt (bs (t ++ [b])) (t.length : Int) = b.toNat := by
  unfold bt
  rw [dif_pos (by rw [bs_size]; simp)]
  show ((((t ++ [b]).toArray)[t.length]'(by simp)).toNat : Int) = _
  simp
theorem bs_cut (t : List UInt8) (b : UInt8) : (bs (t ++ [b])).extract 0 t.length = bs t := by
  apply ByteArray.ext
  simp [bs]
theorem refText_l0 (P : List UInt8) (hP : P.length ≤ 1000) : ∀ (n : Nat) (l : List UInt8) (k : Nat), l.length = n → n ≤ 1000 → (∃ b ∈ l, b ≠ 48) → n < k → PSt.eponymref16_Text.l0 k (bs P) (bs l) = some (bs (P ++ [46] ++ trimRightB l 48 ++ [90])) := by
  intro n
  induction n with
  | zero =>
    intro l k hl _ hx _
    obtain ⟨b, hb, -⟩ := hx
    have : l = [] := List.length_eq_zero_iff.1 hl
    subst this
    simp at hb
  | succ n ih =>
    intro l k hl hn hx hk
    obtain ⟨t, b, rfl⟩ : ∃ t b, l = t ++ [b] := ⟨l.dropLast, l.getLast (by intro h; simp [h] at hl), (List.dropLast_concat_getLast _).symm⟩
    obtain ⟨k, rfl⟩ : ∃ j, k = j + 1 := ⟨k - 1, by omega⟩
    have ht : t.length = n := by simpa using hl
    have hs : ((bs (t ++ [b])).size : Int) - 1 = (t.length : Int) := by rw [bs_size]; simp
    rw [PSt.eponymref16_Text.l0]
    rw [w64 (by omega) (by omega), hs, if_pos (by omega), if_pos (by rw [bs_size]; simp; omega), bs_last]
    by_cases hb : b = 48
    · subst hb
      rw [if_pos (by decide), if_pos (by rw [bs_size]; simp; omega)]
      rw [Int.toNat_natCast, bs_cut, ih t k ht (by omega) ?_ (by omega), trim_end]
      obtain ⟨x, hx1, hx2⟩ := hx
      rcases List.mem_append.1 hx1 with h | h
      · exact ⟨x, h, hx2⟩
      · simp at h; exact (hx2 h).elim
    · have hb' : ¬ ((b.toNat : Int) = 48) := fun h => hb (UInt8.toNat_inj.1 (show b.toNat = (48 : UInt8).toNat from by simpa using (by omega : b.toNat = 48)))
      rw [if_neg hb']
      have b1 : (⟨#[46]⟩ : ByteArray) = bs [46] := rfl
      have b2 : (⟨#[90]⟩ : ByteArray) = bs [90] := rfl
      rw [if_pos (by rw [bs_size]; omega), b1, b2, bs_append, if_pos (by rw [bs_size, bs_size]; simp; omega), bs_append, if_pos (by rw [bs_size]; simp; omega), bs_append, trim_stay _ _ hb]

theorem dig_ne : ∀ r : Fin 10, 0 < r.val → UInt8.ofNat (48 + r.val) ≠ 48 := by decide
theorem dg_some : ∀ w n, 0 < n → n < 10 ^ w → ∃ b ∈ dg w n, b ≠ 48
  | 0, n, h0, h => by simp at h; omega
  | w + 1, n, h0, h => by
    by_cases hr : n % 10 = 0
    · obtain ⟨b, hb, hx⟩ := dg_some w (n / 10) (by omega) (by rw [Nat.pow_succ] at h; omega)
      exact ⟨b, by rw [dg]; exact List.mem_append_left _ hb, hx⟩
    · exact ⟨UInt8.ofNat (48 + n % 10), by rw [dg]; simp, dig_ne ⟨n % 10, by omega⟩ (by show 0 < n % 10; omega)⟩
/-- A stamp's day and clock, and its whole text. -/
def dayL (y m d c : Nat) : List UInt8 := dg 4 y ++ [45] ++ dg 2 m ++ [45] ++ dg 2 d ++ [84] ++ clockL c
theorem dayL_length (y m d c : Nat) : (dayL y m d c).length = 19 := by simp [dayL, dg_length, clockL_length]
def fracT (n : Nat) : List UInt8 := if 0 < n then [46] ++ trimRightB (dg 9 n) 48 else []
def textL (y m d c n : Nat) : List UInt8 := dayL y m d c ++ fracT n ++ [90]

theorem cut_f (sec nan : Int) (h1 : -62167219200 ≤ sec) (h2 : sec ≤ 253402300799) : PSt.eponymref16_cut.f sec nan = some (sec / 86400, sec - sec / 86400 * 86400) := by
  unfold PSt.eponymref16_cut.f
  rw [w64 (n := sec + 62167219200) (by omega) (by omega), td_nn (a := sec + 62167219200) (by omega), tm_nn (a := sec + 62167219200) (by omega), w64 (n := (sec + 62167219200) / 86400) (by omega) (by omega), w64 (by omega) (by omega)]
  congr 2
  · omega
  · omega
theorem refText_f (sec : Int) (n K y m d c : Nat) (h1 : -62167219200 ≤ sec) (h2 : sec ≤ 253402300799) (hn : n < 1000000000) (hK : 3000000000 ≤ K) (hc : (c : Int) = sec - sec / 86400 * 86400)
    (hv : Cal.civil (sec / 86400) = ((y : Int), (m : Int), (d : Int))) (hy : y < 10000) (hm : m < 100) (hd : d < 100) : PSt.eponymref16_Text.f (K + 2) sec n = some (bs (textL y m d c n)) := by
  have hk := refCivil_k (sec / 86400) K (by omega)
  rw [hv] at hk
  generalize hk2 : K + 2 = k at hk ⊢
  have hkk : 3000000000 ≤ k := by omega
  clear hk2
  have c0 : c < 86400 := by omega
  unfold PSt.eponymref16_Text.f
  rw [cut_f sec n h1 h2, Option.bind_some]
  dsimp only
  rw [hk, Option.bind_some]
  dsimp only
  have b1 : (⟨#[45]⟩ : ByteArray) = bs [45] := rfl
  have b2 : (⟨#[84]⟩ : ByteArray) = bs [84] := rfl
  have b3 : (⟨#[90]⟩ : ByteArray) = bs [90] := rfl
  rw [rd4 y k y rfl hy (by omega), Option.bind_some, if_pos (by rw [bs_size]; simp [dg_length])]
  rw [rd2 m k m rfl hm (by omega), Option.bind_some, b1, b2, b3, bs_append, if_pos (by rw [bs_size, bs_size]; simp [dg_length]), bs_append, if_pos (by rw [bs_size]; simp [dg_length]), bs_append]
  rw [rd2 d k d rfl hd (by omega), Option.bind_some, if_pos (by rw [bs_size, bs_size]; simp [dg_length]), bs_append, if_pos (by rw [bs_size]; simp [dg_length]), bs_append]
  rw [← hc, refClock_f c k c0 (by omega), Option.bind_some, if_pos (by rw [bs_size, bs_size]; simp [dg_length, clockL_length]), bs_append]
  by_cases h0 : (n : Int) > 0
  · rw [if_pos h0, rd9 n k n rfl hn (by omega), Option.bind_some]
    rw [refText_l0 _ (by simp [dg_length, clockL_length]) 9 (dg 9 n) k (dg_length 9 n) (by omega) (dg_some 9 n (by omega) (by omega)) (by omega)]
    unfold textL fracT dayL
    rw [if_pos (by omega : 0 < n)]
    simp
  · rw [if_neg h0, if_pos (by rw [bs_size]; simp [dg_length, clockL_length]), bs_append]
    unfold textL fracT dayL
    rw [if_neg (by omega : ¬ 0 < n)]
    simp
/-- stamp.Text of a right stamp. -/
theorem text_any (sec : Int) (n y m d c : Nat) (h1 : -62167219200 ≤ sec) (h2 : sec ≤ 253402300799) (hn : n < 1000000000) (hc : (c : Int) = sec - sec / 86400 * 86400)
    (hv : Cal.civil (sec / 86400) = ((y : Int), (m : Int), (d : Int))) (hy : y < 10000) (hm : m < 100) (hd : d < 100) (w : World) (hG : PSt.GInv w) :
    Calls Tryd.prog 13 #[.agg #[.int .i64 sec, .int .i64 n]] w fun e w' => e = .returned (.string (bs (textL y m d c n))) ∧ Below w.heap.size w w' := by
  have hk : checkS sec n = none := by unfold checkS; rw [if_neg (by omega)]
  have hp := parted_f sec n 20 (by omega) h1 h2 c hc
  have hcv : PSt.stamp_Civil.f (sec / 86400) = some ((y : Int), (m : Int), (d : Int)) := by rw [civil_f, hv]
  by_cases h0 : (n : Int) = 0
  · have h := text_whole 20 sec n (sec / 86400) y m d _ _ _ _ w hG hk h0 hp hcv (sd4 y 20 y rfl hy (by omega)) (sd2 m 20 m rfl hm (by omega)) (sd2 d 20 d rfl hd (by omega))
      (by rw [bs_size, clockL_length]; omega) (by rw [bs_size, dg_length]; omega) (by rw [bs_size, dg_length]; omega) (by rw [bs_size, dg_length]; omega)
    have e : ((((((bs (dg 4 y) ++ ⟨#[45]⟩) ++ bs (dg 2 m)) ++ ⟨#[45]⟩) ++ bs (dg 2 d)) ++ ⟨#[84]⟩) ++ bs (clockL c)) ++ ⟨#[90]⟩ = bs (textL y m d c n) := by
      have b1 : (⟨#[45]⟩ : ByteArray) = bs [45] := rfl
      have b2 : (⟨#[84]⟩ : ByteArray) = bs [84] := rfl
      have b3 : (⟨#[90]⟩ : ByteArray) = bs [90] := rfl
      rw [b1, b2, b3]
      simp only [bs_append]
      unfold textL fracT dayL
      rw [if_neg (by omega : ¬ 0 < n)]
      simp
    rw [e] at h
    exact h
  · have hz : (trimRightB (bs (dg 9 n)).data.toList 48).length ≤ 100 := by
      have : (trimRightB (dg 9 n) 48).length ≤ (dg 9 n).length := by
        unfold trimRightB
        rw [List.length_reverse]
        have h := (List.dropWhile_sublist (l := (dg 9 n).reverse) (· == 48)).length_le
        rw [List.length_reverse] at h
        exact h
      rw [dg_length] at this
      simp only [bs, List.toList_toArray] at *
      omega
    have h := text_parts 20 sec n (sec / 86400) y m d _ _ _ _ _ w hG hk (by omega) hp hcv (sd4 y 20 y rfl hy (by omega)) (sd2 m 20 m rfl hm (by omega)) (sd2 d 20 d rfl hd (by omega)) (sd9 n 20 n rfl hn (by omega))
      (by rw [bs_size, clockL_length]; omega) (by rw [bs_size, dg_length]; omega) (by rw [bs_size, dg_length]; omega) (by rw [bs_size, dg_length]; omega) (by rw [bs_size, dg_length]; omega) hz
    have e : (((((((bs (dg 4 y) ++ ⟨#[45]⟩) ++ bs (dg 2 m)) ++ ⟨#[45]⟩) ++ bs (dg 2 d)) ++ ⟨#[84]⟩) ++ bs (clockL c)) ++ (⟨#[46]⟩ ++ ⟨(trimRightB (bs (dg 9 n)).data.toList 48).toArray⟩)) ++ ⟨#[90]⟩ = bs (textL y m d c n) := by
      have b1 : (⟨#[45]⟩ : ByteArray) = bs [45] := rfl
      have b2 : (⟨#[84]⟩ : ByteArray) = bs [84] := rfl
      have b3 : (⟨#[90]⟩ : ByteArray) = bs [90] := rfl
      have b4 : (⟨#[46]⟩ : ByteArray) = bs [46] := rfl
      have b5 : (⟨(trimRightB (bs (dg 9 n)).data.toList 48).toArray⟩ : ByteArray) = bs (trimRightB (dg 9 n) 48) := by simp [bs]
      rw [b1, b2, b3, b4, b5]
      simp only [bs_append]
      unfold textL fracT dayL
      rw [if_pos (by omega : 0 < n)]
      try simp
    rw [e] at h
    exact h
end Go.Proofs.YtlgdenihddkjaaaDoor
