/- What the program reads of a text, in the words of the document's own reading: the letter at which it stops, the numbers, the fraction. -/
import Derived.Test.YtlgdenihddkjaaaDoorXd
import Derived.Test.YtlgdenihddkjaaaDoorQa
namespace Go.Proofs.YtlgdenihddkjaaaDoor
set_option linter.unusedSimpArgs false
set_option linter.unusedVariables false
open Go.RowKit Go.Lib

/-- A set of letters is what fits a sign of the form. -/
def SetOf (be : ByteArray) (p : Int) : Prop := ∀ c : UInt8, Lib.indexByte be.data.toList c < 0 ↔ fitS p c.toNat = false
theorem setOf_fin (be : ByteArray) (p : Int) (h : ∀ n : Fin 256, Lib.indexByte be.data.toList (UInt8.ofNat n.val) < 0 ↔ fitS p n.val = false) : SetOf be p := by
  intro c
  have := h ⟨c.toNat, c.toNat_lt⟩
  simpa using this
theorem set_digs : SetOf digs 48 := setOf_fin _ _ (by decide +kernel)
theorem set_45 : SetOf ⟨#[45]⟩ 45 := setOf_fin _ _ (by decide +kernel)
theorem set_84 : SetOf ⟨#[84, 116]⟩ 84 := setOf_fin _ _ (by decide +kernel)
theorem set_58 : SetOf ⟨#[58]⟩ 58 := setOf_fin _ _ (by decide +kernel)
theorem signs_of : ∀ n : Fin 256, Lib.indexByte signs.data.toList (UInt8.ofNat n.val) < 0 ↔ ¬ (n.val = 90 ∨ n.val = 122 ∨ n.val = 43 ∨ n.val = 45) := by decide +kernel
theorem sign_iff (c : UInt8) : Lib.indexByte signs.data.toList c < 0 ↔ ¬ (c.toNat = 90 ∨ c.toNat = 122 ∨ c.toNat = 43 ∨ c.toNat = 45) := by
  have := signs_of ⟨c.toNat, c.toNat_lt⟩
  simpa using this

theorem one_er {s be : ByteArray} {p : Int} {k : Nat} {x : Int × Nat} (hb : SetOf be p) (h : oneS s be k = .error x) :
    (k < s.size ∧ (∀ h : k < s.size, fitS p (s[k].toNat : Int) = false) ∧ x = ((k : Int), 1)) ∨ (s.size ≤ k ∧ x = ((s.size : Int), 2)) := by
  unfold oneS at h
  split at h
  · rename_i hk
    split at h
    · rename_i hc
      cases h
      exact Or.inl ⟨hk, fun _ => (hb _).1 hc, rfl⟩
    · cases h
  · cases h
    exact Or.inr ⟨by omega, rfl⟩
theorem one_is {s be : ByteArray} {p : Int} {k : Nat} {c : UInt8} (hb : SetOf be p) (h : oneS s be k = .ok c) :
    ∃ hk : k < s.size, c = s[k] ∧ fitS p (s[k].toNat : Int) = true := by
  unfold oneS at h
  split at h
  · rename_i hk
    split at h
    · cases h
    · rename_i hc
      cases h
      refine ⟨hk, rfl, ?_⟩
      cases hf : fitS p (s[k].toNat : Int)
      · exact absurd ((hb _).2 hf) hc
      · rfl
  · cases h

/-- The letters from lo on fit the form up to k. -/
def Fit (pf : Nat → Int) (s : ByteArray) (lo k : Nat) : Prop := k ≤ s.size ∧ ∀ j, lo ≤ j → j < k → ∀ h : j < s.size, fitS (pf j) (s[j].toNat : Int) = true
/-- The reading stops at letter k, or at the text's end. -/
def StopAt (pf : Nat → Int) (s : ByteArray) (lo hi : Nat) (x : Int × Nat) : Prop :=
  ∃ k, lo ≤ k ∧ k < hi ∧ Fit pf s lo k ∧ ((k < s.size ∧ (∀ h : k < s.size, fitS (pf k) (s[k].toNat : Int) = false) ∧ x = ((k : Int), 1)) ∨ (k = s.size ∧ x = ((s.size : Int), 2)))
theorem StopAt.wide {pf : Nat → Int} {s : ByteArray} {lo hi hi' : Nat} {x : Int × Nat} (h : StopAt pf s lo hi x) (hh : hi ≤ hi') : StopAt pf s lo hi' x :=
  let ⟨k, a, b, c, d⟩ := h; ⟨k, a, by omega, c, d⟩
theorem Fit.next {pf : Nat → Int} {s : ByteArray} {lo k : Nat} (h : Fit pf s lo k) (hk : k < s.size) (hf : fitS (pf k) (s[k].toNat : Int) = true) : Fit pf s lo (k + 1) := by
  refine ⟨by omega, fun j h1 h2 h3 => ?_⟩
  by_cases e : j = k
  · subst e; exact hf
  · exact h.2 j h1 (by omega) h3

/-- What the digit at a place is worth. -/
def dvN (s : ByteArray) (i : Nat) : Nat := if h : i < s.size then s[i].toNat - 48 else 0
def valN (s : ByteArray) : Nat → Nat → Nat → Nat
  | 0, a, _ => a
  | m + 1, a, k => valN s m (10 * a + dvN s k) (k + 1)
theorem one_stop {pf : Nat → Int} {s be : ByteArray} {lo k hi : Nat} {x : Int × Nat} (hb : SetOf be (pf k)) (hl : lo ≤ k) (hh : k < hi) (hF : Fit pf s lo k) (h : oneS s be k = .error x) : StopAt pf s lo hi x := by
  refine ⟨k, hl, hh, hF, ?_⟩
  rcases one_er hb h with h | ⟨h, e⟩
  · exact Or.inl h
  · exact Or.inr ⟨by have := hF.1; omega, e⟩
theorem num_step {pf : Nat → Int} {s : ByteArray} {lo : Nat} : ∀ m a k, (∀ j, k ≤ j → j < k + m → pf j = 48) → lo ≤ k → Fit pf s lo k →
    (∀ x, numS s m a k = .error x → StopAt pf s lo (k + m) x) ∧ (∀ n, numS s m a k = .ok n → Fit pf s lo (k + m) ∧ n = valN s m a k)
  | 0, a, k, hp, hl, hF => ⟨fun x h => by simp [numS] at h, fun n h => by simp [numS] at h; exact ⟨hF, by rw [← h]; rfl⟩⟩
  | m + 1, a, k, hp, hl, hF => by
    have h48 : SetOf digs (pf k) := by rw [hp k (Nat.le_refl _) (by omega)]; exact set_digs
    rw [numS]
    cases ho : oneS s digs k with
    | error x => exact ⟨fun y h => by simp at h; subst h; exact one_stop h48 hl (by omega) hF ho, fun n h => by simp at h⟩
    | ok c =>
      obtain ⟨hk, hc, hf⟩ := one_is h48 ho
      have ih := num_step m (10 * a + (c.toNat - 48)) (k + 1) (fun j h1 h2 => hp j (by omega) (by omega)) (by omega) (hF.next hk hf)
      have e : 10 * a + dvN s k = 10 * a + (c.toNat - 48) := by unfold dvN; rw [dif_pos hk, hc]
      have e2 : k + (m + 1) = k + 1 + m := by omega
      refine ⟨fun x h => ?_, fun n h => ?_⟩
      · rw [e2]; exact ih.1 x h
      · have := ih.2 n h
        rw [e2, valN, e]
        exact this
theorem take_step {pf : Nat → Int} {s be : ByteArray} {lo m k : Nat} {p : Int} (hp : ∀ j, k ≤ j → j < k + m → pf j = 48) (hpe : pf (k + m) = p) (hb : SetOf be p) (hbe : be.size ≠ 0) (hl : lo ≤ k) (hF : Fit pf s lo k) :
    (∀ x, takeS s m be k = .error x → StopAt pf s lo (k + m + 1) x) ∧ (∀ n c k', takeS s m be k = .ok (n, c, k') → Fit pf s lo (k + m + 1) ∧ n = valN s m 0 k ∧ k' = k + m + 1) := by
  subst hpe
  have ih := num_step m 0 k hp hl hF
  unfold takeS
  cases hn : numS s m 0 k with
  | error x => exact ⟨fun y h => by simp at h; subst h; exact (ih.1 x hn).wide (by omega), fun n c k' h => by simp at h⟩
  | ok n =>
    obtain ⟨hF2, hv⟩ := ih.2 n hn
    simp only [if_neg hbe]
    cases ho : oneS s be (k + m) with
    | error x => exact ⟨fun y h => by simp at h; subst h; exact one_stop hb (by omega) (by omega) hF2 ho, fun n c k' h => by simp at h⟩
    | ok c =>
      obtain ⟨hk, hc, hf⟩ := one_is hb ho
      refine ⟨fun y h => by simp at h, fun n' c' k' h => ?_⟩
      simp at h
      obtain ⟨rfl, -, rfl⟩ := h
      exact ⟨hF2.next hk hf, hv, rfl⟩
theorem take_step0 {pf : Nat → Int} {s : ByteArray} {lo m k : Nat} (hp : ∀ j, k ≤ j → j < k + m → pf j = 48) (hl : lo ≤ k) (hF : Fit pf s lo k) :
    (∀ x, takeS s m ⟨#[]⟩ k = .error x → StopAt pf s lo (k + m) x) ∧ (∀ n c k', takeS s m ⟨#[]⟩ k = .ok (n, c, k') → Fit pf s lo (k + m) ∧ n = valN s m 0 k ∧ k' = k + m) := by
  have ih := num_step m 0 k hp hl hF
  unfold takeS
  have h0 : (⟨#[]⟩ : ByteArray).size = 0 := rfl
  cases hn : numS s m 0 k with
  | error x => exact ⟨fun y h => by simp at h; subst h; exact ih.1 x hn, fun n c k' h => by simp at h⟩
  | ok n =>
    obtain ⟨hF2, hv⟩ := ih.2 n hn
    simp only [if_pos h0]
    refine ⟨fun y h => by simp at h, fun n' c' k' h => ?_⟩
    simp at h
    obtain ⟨rfl, -, rfl⟩ := h
    exact ⟨hF2, hv, rfl⟩

/-- The forms: the letters up to the seconds; the zone's. -/
def pfT (j : Nat) : Int := if h : j < patT.size then (patT[j].toNat : Int) else 0
def pfZ (z j : Nat) : Int := if h : j - z < patZ.size then (patZ[j - z].toNat : Int) else 0
theorem fitAt_of {s : ByteArray} {k : Nat} (h : Fit pfT s 0 k) : ∀ j, j < k → fitAt s j := by
  intro j hj h1 h2
  have := h.2 j (by omega) hj h2
  unfold pfT at this
  rw [dif_pos h1] at this
  exact this
theorem fitZ_of {s : ByteArray} {z m : Nat} (h : Fit (pfZ z) s z (z + m)) : ∀ j, j < m → fitZ s z j := by
  intro j hj h1 h2
  have := h.2 (z + j) (by omega) (by omega) h2
  unfold pfZ at this
  have e : z + j - z = j := by omega
  simp only [e] at this
  rw [dif_pos h1] at this
  exact this

/-- The fraction's digits. -/
def dvI (s : ByteArray) (j : Nat) : Int := if h : 20 + j < s.size then (if fitS 48 (s[20 + j].toNat : Int) = true then (s[20 + j].toNat : Int) - 48 else 0) else 0
theorem fit48 {c : Int} : fitS 48 c = true ↔ 48 ≤ c ∧ c ≤ 57 := by unfold fitS; simp
theorem fit48n {c : Int} : fitS 48 c = false ↔ ¬ (48 ≤ c ∧ c ≤ 57) := by unfold fitS; simp
theorem dvI_bd (s : ByteArray) (j : Nat) : 0 ≤ dvI s j ∧ dvI s j ≤ 9 := by
  unfold dvI
  split
  · split
    · rename_i h; have := fit48.1 h; omega
    · omega
  · omega
theorem dvI_is {s : ByteArray} {j : Nat} (h : 20 + j < s.size) (hf : fitS 48 (s[20 + j].toNat : Int) = true) : (s[20 + j].toNat : Int) = dvI s j + 48 := by
  unfold dvI; rw [dif_pos h, if_pos hf]; omega
/-- What the digits up to n say of the text. -/
def Digs (s : ByteArray) (n : Nat) : Prop := ∀ j, j < n → 20 + j < s.size ∧ ∀ h : 20 + j < s.size, (s[20 + j].toNat : Int) = dvI s j + 48
theorem Digs.next {s : ByteArray} {n : Nat} (h : Digs s n) (hk : 20 + n < s.size) (hf : fitS 48 (s[20 + n].toNat : Int) = true) : Digs s (n + 1) := by
  intro j hj
  by_cases e : j = n
  · subst e; exact ⟨hk, fun _ => dvI_is hk hf⟩
  · exact h j (by omega)
/-- Where the fraction ends: the text ends ahead of nine digits. -/
def FracE (s : ByteArray) : Prop := ∃ n, n < 9 ∧ Digs s n ∧ 20 + n = s.size
theorem fracL_is {s : ByteArray} : ∀ (m n k u v : Nat), m + n = 9 → 1 ≤ n → k = 20 + n → (u : Int) = fP (n - 1) → (v : Int) = fV (dvI s) n → Digs s n → k ≤ s.size →
    (∀ x, fracL s m u v k = .error x → x = ((s.size : Int), 2) ∧ FracE s) ∧
    (∀ a p, fracL s m u v k = .ok (a, p) → ∃ n, 1 ≤ n ∧ n ≤ 9 ∧ Digs s n ∧ p = 20 + n ∧ (a : Int) = fV (dvI s) n ∧ p ≤ s.size ∧ (9 ≤ n ∨ (20 + n < s.size ∧ ∀ h : 20 + n < s.size, fitS 48 (s[20 + n].toNat : Int) = false)))
  | 0, n, k, u, v, hm, h1, hk, hu, hv, hD, hs => ⟨fun x h => by simp [fracL] at h, fun a p h => by
      simp [fracL] at h
      obtain ⟨rfl, rfl⟩ := h
      exact ⟨n, h1, by omega, hD, hk, hv, hs, Or.inl (by omega)⟩⟩
  | m + 1, n, k, u, v, hm, h1, hk, hu, hv, hD, hs => by
    rw [fracL]
    unfold peekS
    by_cases hks : k < s.size
    · rw [dif_pos hks]
      simp only []
      have hks2 : 20 + n < s.size := by omega
      have hidx : s[k] = s[20 + n] := by simp only [hk]
      by_cases hc : s[k].toNat < 48 ∨ 57 < s[k].toNat
      · rw [if_pos hc]
        refine ⟨fun x h => by simp at h, fun a p h => ?_⟩
        simp at h
        obtain ⟨rfl, rfl⟩ := h
        exact ⟨n, h1, by omega, hD, hk, hv, hs, Or.inr ⟨hks2, fun h => fit48n.2 (by rw [← hidx]; omega)⟩⟩
      · rw [if_neg hc]
        have hf : fitS 48 (s[20 + n].toNat : Int) = true := fit48.2 (by rw [← hidx]; omega)
        have hd := dvI_is hks2 hf
        have hP : ((u / 10 : Nat) : Int) = fP n := by
          obtain ⟨n', rfl⟩ : ∃ n', n = n' + 1 := ⟨n - 1, by omega⟩
          have e : n' + 1 - 1 = n' := by omega
          rw [e] at hu
          show _ = Int.tdiv (fP n') 10
          have := fP_le n'
          rw [Int.tdiv_eq_ediv_of_nonneg this.1, ← hu]
          omega
        refine fracL_is m (n + 1) (k + 1) (u / 10) _ (by omega) (by omega) (by omega) (by rw [hP]; rfl) ?_ (hD.next hks2 hf) (by omega)
        show _ = fV (dvI s) n + fP n * dvI s n
        rw [← hP, ← hv, hidx]
        have hb := fit48.1 hf
        have e : ((s[20 + n].toNat - 48 : Nat) : Int) = dvI s n := by omega
        rw [Int.natCast_add, Int.natCast_mul, e, Int.mul_comm]
    · rw [dif_neg hks]
      refine ⟨fun x h => ?_, fun a p h => by simp at h⟩
      simp at h
      subst h
      exact ⟨rfl, n, by omega, hD, by omega⟩

theorem fP_0 : ((100000000 : Nat) : Int) = fP (1 - 1) := by decide
theorem fV_1 {s : ByteArray} {d : UInt8} (e' : (d.toNat : Int) = dvI s 0 + 48) : (((d.toNat - 48) * 100000000 : Nat) : Int) = fV (dvI s) 1 := by
  have h := dvI_bd s 0
  have e : fV (dvI s) 1 = 0 + 100000000 * dvI s 0 := rfl
  rw [e]
  omega
/-- How the reading behind the seconds begins. -/
theorem frac_er {s : ByteArray} {x : Int × Nat} (h19 : 19 ≤ s.size) (h : fracS s 19 = .error x) :
    (s.size = 19 ∧ x = ((s.size : Int), 2)) ∨
    (∃ h : 19 < s.size, (s[19].toNat : Int) = 46 ∧ ((FracE s ∧ x = ((s.size : Int), 2)) ∨ (20 < s.size ∧ (∀ h : 20 < s.size, fitS 48 (s[20].toNat : Int) = false) ∧ x = (20, 1)))) := by
  unfold fracS peekS at h
  by_cases hk : 19 < s.size
  · rw [dif_pos hk] at h
    simp only [] at h
    by_cases hc : s[19].toNat = 46
    · rw [if_pos hc] at h
      refine Or.inr ⟨hk, by omega, ?_⟩
      cases ho : oneS s digs (19 + 1) with
      | error y =>
        rw [ho] at h
        simp at h
        subst h
        rcases one_er set_digs ho with h | ⟨h, e⟩
        · exact Or.inr h
        · exact Or.inl ⟨⟨0, by omega, fun j hj => by omega, by omega⟩, e⟩
      | ok d =>
        rw [ho] at h
        simp only [] at h
        obtain ⟨h20, hd, hf⟩ := one_is set_digs ho
        have hf' : fitS 48 (s[20 + 0].toNat : Int) = true := hf
        have hD : Digs s 1 := Digs.next (n := 0) (fun j hj => by omega) h20 hf'
        have e := dvI_is (j := 0) h20 hf'
        have e' : (d.toNat : Int) = dvI s 0 + 48 := by rw [hd]; exact e
        have := (fracL_is 8 1 21 100000000 ((d.toNat - 48) * 100000000) (by omega) (by omega) (by omega) fP_0 (fV_1 e') hD (by omega)).1 x h
        exact Or.inl ⟨this.2, this.1⟩
    · rw [if_neg hc] at h
      cases h
  · rw [dif_neg hk] at h
    simp at h
    exact Or.inl ⟨by omega, h.symm⟩
theorem frac_okP {s : ByteArray} {a p : Nat} (h19 : 19 ≤ s.size) (h : fracS s 19 = .ok (a, p)) : 19 ≤ p ∧ p ≤ s.size ∧ p ≤ 29 ∧ ∃ dot, FracP s p a dot := by
  unfold fracS peekS at h
  by_cases hk : 19 < s.size
  · rw [dif_pos hk] at h
    simp only [] at h
    by_cases hc : s[19].toNat = 46
    · rw [if_pos hc] at h
      cases ho : oneS s digs (19 + 1) with
      | error y => rw [ho] at h; cases h
      | ok d =>
        rw [ho] at h
        simp only [] at h
        obtain ⟨h20, hd, hf⟩ := one_is set_digs ho
        have hf' : fitS 48 (s[20 + 0].toNat : Int) = true := hf
        have hD : Digs s 1 := Digs.next (n := 0) (fun j hj => by omega) h20 hf'
        have e := dvI_is (j := 0) h20 hf'
        have e' : (d.toNat : Int) = dvI s 0 + 48 := by rw [hd]; exact e
        obtain ⟨n, h1, h2, h3, h4, h5, h6, h7⟩ := (fracL_is 8 1 21 100000000 ((d.toNat - 48) * 100000000) (by omega) (by omega) (by omega) fP_0 (fV_1 e') hD (by omega)).2 a p h
        exact ⟨by omega, h6, by omega, true, Or.inr ⟨rfl, ⟨hk, by omega⟩, n, dvI s, h1, h2, dvI_bd s, h3, h4, h5, h6, h7⟩⟩
    · rw [if_neg hc] at h
      simp at h
      obtain ⟨rfl, rfl⟩ := h
      exact ⟨by omega, by omega, by omega, false, Or.inl ⟨rfl, rfl, rfl, fun h => by omega⟩⟩
  · rw [dif_neg hk] at h
    cases h
end Go.Proofs.YtlgdenihddkjaaaDoor
