/- The document's line of a row. -/
import Derived.Test.YthggpjiabklekaaGreatDoorPRgx5
import Derived.Test.YthggpjiabklekaaGreatDoorRq
namespace Go.Proofs.YthggpjiabklekaaGreatDoor.PRg
set_option linter.unusedSimpArgs false
set_option linter.unusedVariables false
open Go.RowKit Go.Lib Go.Proofs.YthggpjiabklekaaGreatDoorW.PrintWords Go.Proofs.YthggpjiabklekaaGreatDoorW.PrintLast Go.Proofs.YthggpjiabklekaaGreatDoorW.PrintMore

theorem bs_toList_cons (a : UInt8) (l : List UInt8) : ((bs (a :: l)).toList == ([] : List UInt8)) = false := by
  rw [Lib.toList_data]; simp [bs]
theorem bs_toList_nil : ((bs []).toList == ([] : List UInt8)) = true := by
  rw [Lib.toList_data]; rfl
theorem nums_dig (d : Nat) (h : d < 16) (x : Int) (hx : x = (hxU d : Nat)) : strOfNums [x % 256] = bs [UInt8.ofNat (hxU d)] := by
  have e : (x % 256).toNat = hxU d := by subst hx; unfold hxU; split <;> omega
  unfold strOfNums bs
  simp only [List.map_cons, List.map_nil, e]
/-- The two bases. -/
def Base (B : Nat) (Bi : Int) : Prop := (B = 10 ∧ Bi = 10) ∨ (B = 16 ∧ Bi = 16)
theorem ref_step {B : Nat} {Bi : Int} (hB : Base B Bi) (n k : Nat) (l : List UInt8) (hl : l.length ≤ 1000) (hn : n ≤ 9000000000) : eponymref03_Digits.j1 (k + 1) n Bi (bs l) true = eponymref03_Digits.l0 k ((n / B : Nat) : Int) Bi (bs (UInt8.ofNat (hxU (n % B)) :: l)) := by
  have e1 : Int.tmod (n : Int) Bi = ((n % B : Nat) : Int) := by
    rcases hB with ⟨rfl, rfl⟩ | ⟨rfl, rfl⟩
    · rw [Int.tmod_eq_emod_of_nonneg (by omega)]; omega
    · rw [Int.tmod_eq_emod_of_nonneg (by omega)]; omega
  have e2 : Int.tdiv (n : Int) Bi = ((n / B : Nat) : Int) := by
    rcases hB with ⟨rfl, rfl⟩ | ⟨rfl, rfl⟩
    · rw [Int.tdiv_eq_ediv_of_nonneg (by omega)]; omega
    · rw [Int.tdiv_eq_ediv_of_nonneg (by omega)]; omega
  have hd : n % B < 16 := by rcases hB with ⟨rfl, _⟩ | ⟨rfl, _⟩ <;> omega
  have hq : n / B ≤ 9000000000 := by rcases hB with ⟨rfl, _⟩ | ⟨rfl, _⟩ <;> omega
  have h0 : ¬ Bi = 0 := by rcases hB with ⟨_, rfl⟩ | ⟨_, rfl⟩ <;> omega
  have e3' : ∀ q : Nat, q ≤ 9000000000 → wrap64 (q : Int) = q := fun q h => by unfold wrap64; omega
  have e3 := e3' (n / B) hq
  rw [eponymref03_Digits.j1, if_pos rfl, if_neg h0, e1, e2, e3]
  generalize n % B = d at hd
  by_cases h10 : d < 10
  · have e : ((d : Int) % 256 + 48) = (hxU d : Nat) := by unfold hxU; rw [if_pos h10]; omega
    rw [if_pos (by omega), Option.bind_some, nums_dig d hd _ e, if_pos (by rw [bs_size, bs_size]; simp; omega), bs_append]
    rfl
  · have e : ((d : Int) % 256 + 55) = (hxU d : Nat) := by unfold hxU; rw [if_neg h10]; omega
    rw [if_neg (by omega), Option.bind_some, nums_dig d hd _ e, if_pos (by rw [bs_size, bs_size]; simp; omega), bs_append]
    rfl
/-- A way to write digits. -/
structure Digs (B : Nat) (D : Nat → List UInt8) : Prop where
  small : ∀ n, n < B → D n = [UInt8.ofNat (hxU n)]
  big : ∀ n, ¬ n < B → D n = D (n / B) ++ [UInt8.ofNat (hxU (n % B))]
theorem digs_dec : Digs 10 decDigits where
  small n h := by rw [dec_small n h]; unfold hxU; rw [if_pos h]
  big n h := by rw [dec_big n h]; unfold hxU; rw [if_pos (Nat.mod_lt _ (by omega))]
theorem digs_hex : Digs 16 hexU where
  small n h := hexU_lt n h
  big n h := hexU_ge n h
theorem ref_loop {B : Nat} {Bi : Int} (hB : Base B Bi) {D : Nat → List UInt8} (hD : Digs B D) : ∀ (n k : Nat) (l : List UInt8), l ≠ [] → n ≤ 9000000000 → (if n = 0 then l.length ≤ 900 else (D n).length + l.length ≤ 900) → 2 * n + 2 ≤ k → eponymref03_Digits.l0 k n Bi (bs l) = some (bs (if n = 0 then l else D n ++ l)) := by
  have hB2 : 2 ≤ B := by rcases hB with ⟨rfl, _⟩ | ⟨rfl, _⟩ <;> omega
  intro n
  induction n using Nat.strongRecOn with
  | ind n ih =>
    intro k l hl h1 h2 hk
    obtain ⟨k, rfl⟩ : ∃ j, k = j + 1 := ⟨k - 1, by omega⟩
    rw [eponymref03_Digits.l0]
    obtain ⟨a, t, rfl⟩ : ∃ a t, l = a :: t := by cases l with | nil => exact (hl rfl).elim | cons a t => exact ⟨a, t, rfl⟩
    by_cases h0 : n = 0
    · subst h0
      rw [if_neg (by simp), bs_toList_cons]
      obtain ⟨k, rfl⟩ : ∃ j, k = j + 1 := ⟨k - 1, by omega⟩
      rw [eponymref03_Digits.j1, if_neg (by simp)]
      simp
    · rw [if_pos (by omega)]
      obtain ⟨k, rfl⟩ : ∃ j, k = j + 1 := ⟨k - 1, by omega⟩
      rw [if_neg h0] at h2
      rw [ref_step hB n k (a :: t) (by omega) (by omega)]
      have hd : n / B < n := Nat.div_lt_self (by omega) (by omega)
      by_cases hs : n < B
      · have e0 : n / B = 0 := Nat.div_eq_of_lt hs
        rw [hD.small n hs] at h2 ⊢
        have hz := ih (n / B) hd k (UInt8.ofNat (hxU (n % B)) :: a :: t) (by simp) (by omega) (by rw [if_pos e0]; simp at h2 ⊢; omega) (by omega)
        rw [hz, if_pos e0, if_neg h0, Nat.mod_eq_of_lt hs]
        rfl
      · rw [hD.big n hs] at h2 ⊢
        have hne : ¬ n / B = 0 := by
          intro e
          have := (Nat.div_eq_zero_iff).1 e
          omega
        have hz := ih (n / B) hd k (UInt8.ofNat (hxU (n % B)) :: a :: t) (by simp) (by omega) (by rw [if_neg hne]; simp at h2 ⊢; omega) (by omega)
        rw [hz, if_neg hne, if_neg h0]
        simp
/-- The document's Digits. -/
theorem refDigits_f {B : Nat} {Bi : Int} (hB : Base B Bi) {D : Nat → List UInt8} (hD : Digs B D) (n k : Nat) (h1 : n ≤ 9000000000) (h2 : (D n).length ≤ 800) (hk : 2 * n + 4 ≤ k) : eponymref03_Digits.f k n Bi = some (bs (D n)) := by
  have hB2 : 2 ≤ B := by rcases hB with ⟨rfl, _⟩ | ⟨rfl, _⟩ <;> omega
  unfold eponymref03_Digits.f
  show eponymref03_Digits.l0 k n Bi (bs []) = _
  obtain ⟨k, rfl⟩ : ∃ j, k = j + 2 := ⟨k - 2, by omega⟩
  rw [eponymref03_Digits.l0]
  have hq : n / B ≤ n := Nat.div_le_self _ _
  have hd : eponymref03_Digits.j1 (k + 1) (n : Int) Bi (bs []) true = some (bs (D n)) := by
    rw [ref_step hB n k [] (by simp) (by omega)]
    by_cases hs : n < B
    · have e0 : n / B = 0 := Nat.div_eq_of_lt hs
      rw [ref_loop hB hD (n / B) k _ (by simp) (by omega) (by rw [if_pos e0]; simp) (by omega), if_pos e0, hD.small n hs, Nat.mod_eq_of_lt hs]
    · rw [hD.big n hs] at h2
      have hne : ¬ n / B = 0 := by
        intro e
        have := (Nat.div_eq_zero_iff).1 e
        omega
      rw [ref_loop hB hD (n / B) k _ (by simp) (by omega) (by rw [if_neg hne]; simp at h2 ⊢; omega) (by omega), if_neg hne, hD.big n hs]
  by_cases h0 : (n : Int) > 0
  · rw [if_pos h0, hd]
  · rw [if_neg h0, bs_toList_nil]
    exact hd
theorem hex_pad : ∀ (j k : Nat) (l : List UInt8), l.length + j = 4 ∨ (4 ≤ l.length ∧ j = 0) → l.length ≤ 100 → j < k → eponymref03_hex.l0 k (bs l) = some (bs (List.replicate (4 - l.length) 48 ++ l))
  | 0, k, l, h, hl, hk => by
    obtain ⟨k, rfl⟩ : ∃ j, k = j + 1 := ⟨k - 1, by omega⟩
    rw [eponymref03_hex.l0, if_neg (by rw [bs_size]; omega), show 4 - l.length = 0 by omega]
    rfl
  | j + 1, k, l, h, hl, hk => by
    obtain ⟨k, rfl⟩ : ∃ j, k = j + 1 := ⟨k - 1, by omega⟩
    rw [eponymref03_hex.l0, if_pos (by rw [bs_size]; omega), if_pos (by rw [bs_size]; omega)]
    have ih := hex_pad j k (48 :: l) (by simp; omega) (by simp; omega) (by omega)
    rw [show (⟨#[48]⟩ : ByteArray) ++ bs l = bs (48 :: l) from bs_append [48] l, ih, List.length_cons]
    rw [show 4 - l.length = (4 - (l.length + 1)) + 1 by omega, List.replicate_succ', List.append_assoc]
    rfl
theorem ref_hex (u k : Nat) (hu : u ≤ 1114111) (hk : 2 * u + 10 ≤ k) : eponymref03_hex.f k (u : Int) = some (bs (runeL u)) := by
  have hl : (hexU u).length ≤ 6 := by rw [hexU_length]; exact hexL_le 5 u (by omega)
  unfold eponymref03_hex.f
  rw [show wrap64 (u : Int) = u by unfold wrap64; omega, refDigits_f (Or.inr ⟨rfl, rfl⟩) digs_hex u k (by omega) (by omega) (by omega), Option.bind_some]
  exact hex_pad (4 - (hexU u).length) k (hexU u) (by omega) (by omega) (by omega)
theorem ref_line (x : Rg) (h : InT x) : eponymref03_Line.f 3000000 x.1 x.2.1 x.2.2 = some (bs (lineR x)) := by
  obtain ⟨a0, b0, v0⟩ := x
  obtain ⟨h1, h2, h3, h4, h5, h6⟩ := h
  dsimp only at h1 h2 h3 h4 h5 h6 ⊢
  obtain ⟨a, rfl⟩ : ∃ a : Nat, a0 = a := ⟨a0.toNat, by omega⟩
  obtain ⟨b, rfl⟩ : ∃ b : Nat, b0 = b := ⟨b0.toNat, by omega⟩
  obtain ⟨v, rfl⟩ : ∃ v : Nat, v0 = v := ⟨v0.toNat, by omega⟩
  have la := runeL_len6 a (by omega)
  have lb := runeL_len6 b (by omega)
  have ld := dec_len6 5 v (by omega)
  have hi : itoa (v : Int) = decDigits v := by rw [itoa, if_neg (by omega), Int.toNat_natCast]
  have hD := refDigits_f (Or.inl ⟨rfl, rfl⟩) digs_dec v 3000000 (by omega) (by omega) (by omega)
  have hA := ref_hex a 3000000 (by omega) (by omega)
  have hBx := ref_hex b 3000000 (by omega) (by omega)
  generalize 3000000 = K at hD hA hBx ⊢
  unfold eponymref03_Line.f lineR lineL
  dsimp only
  rw [Int.toNat_natCast, Int.toNat_natCast, hi, hA, Option.bind_some]
  have e32 : (⟨#[32]⟩ : ByteArray) = bs [32] := rfl
  have e46 : (⟨#[46, 46]⟩ : ByteArray) = bs [46, 46] := rfl
  rw [e32, e46]
  by_cases hab : b = a
  · rw [if_pos (by omega), if_pos hab, if_pos (by rw [bs_size]; omega), hD, Option.bind_some, bs_append, if_pos (by rw [bs_size, bs_size]; simp; omega), bs_append]
    simp
  · rw [if_neg (by omega), if_neg hab, if_pos (by rw [bs_size]; omega), hBx, Option.bind_some, bs_append, if_pos (by rw [bs_size, bs_size]; simp; omega), bs_append, if_pos (by rw [bs_size]; simp; omega), hD, Option.bind_some, bs_append, if_pos (by rw [bs_size, bs_size]; simp; omega), bs_append]
    simp
end Go.Proofs.YthggpjiabklekaaGreatDoor.PRg
