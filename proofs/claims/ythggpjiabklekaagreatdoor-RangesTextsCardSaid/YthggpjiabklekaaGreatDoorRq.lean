/- A table's line is read to the row, a table's text to the table. -/
import Derived.Test.YthggpjiabklekaaGreatDoorTv
import Derived.Test.YthggpjiabklekaaGreatDoorPm
import Derived.Lib.ItoaNum
namespace Go.Proofs.YthggpjiabklekaaGreatDoor
set_option linter.unusedSimpArgs false
set_option linter.unusedVariables false
open Go.RowKit Go.Lib

theorem index_skip (sub : List UInt8) (c : UInt8) (hc : sub.head? = some c) : ∀ (x t : List UInt8), c ∉ x → 0 ≤ index t sub → index (x ++ t) sub = x.length + index t sub
  | [], t, _, _ => by simp
  | a :: x, t, hx, ht => by
    have ih := index_skip sub c hc x t (fun h => hx (List.mem_cons_of_mem _ h)) ht
    have hp : sub.isPrefixOf (a :: x ++ t) = false := by
      cases sub with
      | nil => simp at hc
      | cons d u =>
        have hd : d = c := by simpa using hc
        subst hd
        have : (d == a) = false := by rw [beq_eq_false_iff_ne]; intro e; exact hx (by rw [e]; exact List.mem_cons_self)
        simp [List.isPrefixOf, this]
    have hm : (index (x ++ t) sub == -1) = false := by rw [beq_eq_false_iff_ne]; omega
    rw [List.cons_append] at hp ⊢
    rw [index, hp, ih] at *
    have hm : (((x.length : Int) + index t sub) == -1) = false := by rw [beq_eq_false_iff_ne]; omega
    simp [hm]
    omega
theorem index_miss (sub : List UInt8) (c : UInt8) (hc : sub.head? = some c) : ∀ (x : List UInt8), c ∉ x → index x sub = -1
  | [], _ => by
    cases sub with
    | nil => simp at hc
    | cons d u => rfl
  | a :: x, hx => by
    have ih := index_miss sub c hc x (fun h => hx (List.mem_cons_of_mem _ h))
    have hp : sub.isPrefixOf (a :: x) = false := by
      cases sub with
      | nil => simp at hc
      | cons d u =>
        have hd : d = c := by simpa using hc
        subst hd
        have : (d == a) = false := by rw [beq_eq_false_iff_ne]; intro e; exact hx (by rw [e]; exact List.mem_cons_self)
        simp [List.isPrefixOf, this]
    rw [index, hp, ih]
    rfl
theorem index_here (sub t : List UInt8) (h : sub ≠ []) : index (sub ++ t) sub = 0 := by
  cases sub with
  | nil => exact absurd rfl h
  | cons a u =>
    have : (a :: u).isPrefixOf (a :: (u ++ t)) = true := by
      rw [List.isPrefixOf_iff_prefix]
      exact ⟨t, rfl⟩
    rw [List.cons_append, index, this]
    rfl
theorem cut_at (x t sep : List UInt8) (h : index (x ++ sep ++ t) sep = x.length) : cut (x ++ sep ++ t) sep = (x, t, true) := by
  unfold cut
  rw [if_pos (by omega), h]
  simp [List.append_assoc]

/-- A digit in capitals, as a byte. -/
def IsHx (c : UInt8) : Prop := (48 ≤ c.toNat ∧ c.toNat ≤ 57) ∨ (65 ≤ c.toNat ∧ c.toNat ≤ 70)
theorem hx_is : ∀ d : Fin 16, IsHx (UInt8.ofNat (hxU d.val)) := by unfold IsHx; decide
theorem hx_val : ∀ d : Fin 16, hexD (UInt8.ofNat (hxU d.val)).toNat = some d.val := by decide
theorem hexU_is (u : Nat) : ∀ c ∈ hexU u, IsHx c := by
  induction u using Nat.strongRecOn with
  | _ u ih =>
    intro c hc
    by_cases h : u < 16
    · rw [hexU_lt u h] at hc
      obtain rfl := List.mem_singleton.1 hc
      exact hx_is ⟨u, h⟩
    · rw [hexU_ge u h, List.mem_append] at hc
      rcases hc with hc | hc
      · exact ih (u / 16) (by omega) c hc
      · obtain rfl := List.mem_singleton.1 hc
        exact hx_is ⟨u % 16, Nat.mod_lt _ (by omega)⟩
theorem runeL_is (u : Nat) : ∀ c ∈ runeL u, IsHx c := by
  intro c hc
  unfold runeL at hc
  rcases List.mem_append.1 hc with h | h
  · rw [List.mem_replicate] at h
    obtain ⟨_, rfl⟩ := h
    exact hx_is ⟨0, by omega⟩
  · exact hexU_is u c h
theorem pU_app (M : Nat) : ∀ (a b : List UInt8) (n m : Nat), pU M n a = .ok m → pU M n (a ++ b) = pU M m b
  | [], b, n, m, h => by
    rw [pU] at h
    injection h with h
    rw [h]
    rfl
  | c :: r, b, n, m, h => by
    rw [pU] at h
    rw [List.cons_append, pU]
    cases hd : hexD c.toNat with
    | none => rw [hd] at h; cases h
    | some d =>
      rw [hd] at h
      dsimp only at h ⊢
      by_cases hM : M < n * 16 + d
      · rw [if_pos hM] at h; cases h
      · rw [if_neg hM] at h ⊢
        exact pU_app M r b _ m h
theorem pU_hexU (M u : Nat) (hu : u ≤ M) : pU M 0 (hexU u) = .ok u := by
  induction u using Nat.strongRecOn with
  | _ u ih =>
    by_cases h : u < 16
    · have hv := hx_val ⟨u, h⟩
      rw [hexU_lt u h, pU, hv]
      dsimp only
      rw [if_neg (by omega), pU]
      simp
    · have hv := hx_val ⟨u % 16, Nat.mod_lt _ (by omega)⟩
      rw [hexU_ge u h, pU_app M _ _ 0 (u / 16) (ih (u / 16) (by omega) (by omega)), pU, hv]
      dsimp only
      rw [if_neg (by omega), pU]
      congr 1
      omega
theorem pU_zeros (M : Nat) : ∀ k : Nat, pU M 0 (List.replicate k 48) = .ok 0
  | 0 => rfl
  | k + 1 => by
    rw [List.replicate_succ, pU, show hexD (48 : UInt8).toNat = some 0 from rfl]
    dsimp only
    rw [if_neg (by omega)]
    exact pU_zeros M k
theorem pU_runeL (M u : Nat) (hu : u ≤ M) : pU M 0 (runeL u) = .ok u := by
  unfold runeL
  rw [pU_app M _ _ 0 0 (pU_zeros M _), pU_hexU M u hu]
theorem runeL_len6 (u : Nat) (hu : u ≤ 1114111) : (runeL u).length ≤ 6 := by
  have := hexL_le 5 u (by omega)
  unfold runeL
  rw [List.length_append, List.length_replicate, hexU_length]
  omega
theorem runeL_len4 (u : Nat) : 4 ≤ (runeL u).length := by
  unfold runeL
  rw [List.length_append, List.length_replicate]
  omega
theorem dec_small (n : Nat) (h : n < 10) : decDigits n = [UInt8.ofNat (48 + n)] := by rw [decDigits]; simp [h]
theorem dec_big (n : Nat) (h : ¬ n < 10) : decDigits n = decDigits (n / 10) ++ [UInt8.ofNat (48 + n % 10)] := by
  rw [decDigits]; simp [h]
theorem decFrom_app : ∀ (a b : List UInt8) (n m : Nat), decFrom n a = some m → decFrom n (a ++ b) = decFrom m b
  | [], b, n, m, h => by
    rw [decFrom] at h
    injection h with h
    rw [h]
    rfl
  | c :: r, b, n, m, h => by
    rw [decFrom] at h
    rw [List.cons_append, decFrom]
    cases hd : digitVal c with
    | none => rw [hd] at h; cases h
    | some d =>
      rw [hd] at h
      dsimp only at h ⊢
      exact decFrom_app r b _ m h
theorem dig_val10 : ∀ d : Fin 10, digitVal (UInt8.ofNat (48 + d.val)) = some d.val := by decide
theorem decFrom_dec (n : Nat) : decFrom 0 (decDigits n) = some n := by
  induction n using Nat.strongRecOn with
  | _ n ih =>
    by_cases h : n < 10
    · have hv := dig_val10 ⟨n, h⟩
      rw [dec_small n h, decFrom, hv]
      dsimp only
      rw [decFrom]
      simp
    · have hv := dig_val10 ⟨n % 10, Nat.mod_lt _ (by omega)⟩
      rw [dec_big n h, decFrom_app _ _ 0 (n / 10) (ih (n / 10) (by omega)), decFrom, hv]
      dsimp only
      rw [decFrom]
      congr 1
      omega
theorem dec_is (n : Nat) : ∀ c ∈ decDigits n, 48 ≤ c.toNat ∧ c.toNat ≤ 57 := by
  have hd : ∀ d : Fin 10, 48 ≤ (UInt8.ofNat (48 + d.val)).toNat ∧ (UInt8.ofNat (48 + d.val)).toNat ≤ 57 := by decide
  induction n using Nat.strongRecOn with
  | _ n ih =>
    intro c hc
    by_cases h : n < 10
    · rw [dec_small n h] at hc
      obtain rfl := List.mem_singleton.1 hc
      exact hd ⟨n, h⟩
    · rw [dec_big n h, List.mem_append] at hc
      rcases hc with hc | hc
      · exact ih (n / 10) (by omega) c hc
      · obtain rfl := List.mem_singleton.1 hc
        exact hd ⟨n % 10, Nat.mod_lt _ (by omega)⟩
theorem dec_ne (n : Nat) : decDigits n ≠ [] := by
  by_cases h : n < 10
  · rw [dec_small n h]; simp
  · rw [dec_big n h]; simp
theorem dec_len6 : ∀ (k n : Nat), n < 10 ^ (k + 1) → (decDigits n).length ≤ k + 1
  | 0, n, h => by rw [dec_small n (by simpa using h)]; simp
  | k + 1, n, h => by
    by_cases h10 : n < 10
    · rw [dec_small n h10]; simp
    · have := dec_len6 k (n / 10) (by rw [Nat.pow_succ] at h; omega)
      rw [dec_big n h10, List.length_append, List.length_singleton]
      omega
theorem atoi_itoa (v : Int) (h0 : 0 ≤ v) : atoi (itoa v) = some v := by
  rw [itoa, if_neg (by omega)]
  have hf := decFrom_dec v.toNat
  have hi := dec_is v.toNat
  cases hd : decDigits v.toNat with
  | nil => exact absurd hd (dec_ne _)
  | cons b r =>
    rw [hd] at hf hi
    have hb := hi b List.mem_cons_self
    have h45 : (b == 45) = false := by rw [beq_eq_false_iff_ne]; intro e; subst e; exact absurd hb.1 (by decide)
    have h43 : (b == 43) = false := by rw [beq_eq_false_iff_ne]; intro e; subst e; exact absurd hb.1 (by decide)
    rw [atoi, h45, h43]
    simp only [Bool.false_eq_true, if_false, decNat, List.isEmpty_cons]
    rw [hf]
    simp
    omega
theorem itoa_len6 (v : Int) (h0 : 0 ≤ v) (h1 : v ≤ 999999) : (itoa v).length ≤ 6 := by
  rw [itoa, if_neg (by omega)]
  exact dec_len6 5 v.toNat (by omega)
theorem indexByte_skip (c : UInt8) : ∀ (x t : List UInt8), c ∉ x → indexByte (x ++ c :: t) c = x.length
  | [], t, _ => by rw [List.nil_append, indexByte, if_pos (by simp)]; rfl
  | a :: x, t, hx => by
    have ih := indexByte_skip c x t (fun h => hx (List.mem_cons_of_mem _ h))
    have ha : (a == c) = false := by rw [beq_eq_false_iff_ne]; intro e; exact hx (by rw [e]; exact List.mem_cons_self)
    have hm : (((x.length : Nat) : Int) == -1) = false := by rw [beq_eq_false_iff_ne]; omega
    rw [List.cons_append, indexByte, ha, ih, hm]
    simp
theorem cut_miss (s sep : List UInt8) (h : index s sep = -1) : cut s sep = (s, [], false) := by
  unfold cut
  rw [h]
  rfl
theorem cut_byte (x t : List UInt8) (sep : List UInt8) (c : UInt8) (hc : sep.head? = some c) (hn : sep ≠ []) (hx : c ∉ x) : cut (x ++ sep ++ t) sep = (x, t, true) := by
  apply cut_at
  rw [List.append_assoc, index_skip sep c hc x _ hx (by rw [index_here _ _ hn]; exact Int.le_refl _), index_here _ _ hn]
  simp
theorem bs_extract_l (a b : List UInt8) : (bs (a ++ b)).extract 0 a.length = bs a := by
  apply ByteArray.ext
  simp [bs]
theorem bs_extract_r (a b : List UInt8) (n : Nat) (hn : n = (a ++ b).length) : (bs (a ++ b)).extract a.length n = bs b := by
  subst hn
  apply ByteArray.ext
  simp [bs]
theorem not_hx {l : List UInt8} (h : ∀ c ∈ l, IsHx c) (c : UInt8) (hc : ¬ IsHx c) : c ∉ l := fun hm => hc (h c hm)
theorem bs_at0 (l : List UInt8) (h : 0 < (bs l).size) (hl : 0 < l.length) : (bs l)[0] = l[0] := by
  show (bs l).data[0] = _
  simp [bs]
/-- A row's line is read to the row. -/
theorem read_line (x : Rg) (h : InT x) (W : World) (hI : RInv W) : Calls Tryz.prog 35 #[.string (bs (lineR x))] W fun e w' => e = .returned (.tuple #[rgV x, .bool true]) ∧ Below W.heap.size W w' := by
  have CLx := fun W ht hp => lineR_any x h W ht hp
  obtain ⟨a0, b0, v⟩ := x
  obtain ⟨h1, h2, h3, h4, h5, h6⟩ := h
  dsimp only at h1 h2 h3 h4 h5 h6 CLx
  obtain ⟨a, rfl⟩ : ∃ a : Nat, a0 = a := ⟨a0.toNat, by omega⟩
  obtain ⟨b, rfl⟩ : ∃ b : Nat, b0 = b := ⟨b0.toNat, by omega⟩
  have la := runeL_len6 a (by omega)
  have lb := runeL_len6 b (by omega)
  have la4 := runeL_len4 a
  have lb4 := runeL_len4 b
  have lv := itoa_len6 v h5 h6
  have hav : ∀ (u : Nat), u ≤ 1114111 → ∀ W, Calls Tryz.prog 56 #[.string (bs (runeL u)), .int .i64 16, .int .i64 32] W fun e w' => e = .returned (.tuple #[.int .i64 u, .nilIface]) ∧ Below W.heap.size W w' := fun u hu W => by
    have l6 := runeL_len6 u hu
    have l4 := runeL_len4 u
    have hsz : 0 < (bs (runeL u)).size := by rw [bs_size]; omega
    have h0 : IsHx (bs (runeL u))[0] := Eq.mpr (congrArg IsHx (bs_at0 (runeL u) hsz (by omega))) (runeL_is u _ (List.getElem_mem _))
    refine parseInt16 (bs (runeL u)) (by rw [bs_size]; omega) hsz _ rfl ?_ ?_ u (by omega) (by rw [bs_dl]; exact pU_runeL _ u (by omega)) W
    · intro e; unfold IsHx at h0; omega
    · intro e; unfold IsHx at h0; omega
  have n32 : ∀ u, (32 : UInt8) ∉ runeL u := fun u => not_hx (runeL_is u) 32 (by unfold IsHx; decide)
  have n46 : ∀ u, (46 : UInt8) ∉ runeL u := fun u => not_hx (runeL_is u) 46 (by unfold IsHx; decide)
  -- the head of the line
  obtain ⟨H, hH, hHl, hH32, bb, ff, hcut, hbb⟩ : ∃ H : List UInt8, lineR ((a : Int), (b : Int), v) = H ++ ([32] ++ itoa v) ∧ H.length ≤ 14 ∧ (32 : UInt8) ∉ H ∧ ∃ (bb : List UInt8) (ff : Bool), cut H [46, 46] = (runeL a, bb, ff) ∧ runeL b = if ff = true then bb else runeL a := by
    by_cases hab : b = a
    · refine ⟨runeL a, ?_, by omega, n32 a, [], false, cut_miss _ _ (index_miss [46, 46] 46 rfl _ (n46 a)), ?_⟩
      · unfold lineR lineL
        rw [if_pos (by dsimp only; omega)]
        simp
      · rw [hab]; rfl
    · refine ⟨runeL a ++ [46, 46] ++ runeL b, ?_, by simp; omega, ?_, runeL b, true, cut_byte _ _ _ 46 rfl (by simp) (n46 a), rfl⟩
      · unfold lineR lineL
        rw [if_neg (by dsimp only; omega)]
        simp
      · simp only [List.mem_append, not_or]
        exact ⟨⟨n32 a, by decide⟩, n32 b⟩
  have hb' : (bs (runeL b)) = if ff = true then bs bb else bs (runeL a) := by rw [hbb]; split <;> rfl
  rw [hH] at CLx ⊢
  refine read_good (bs (H ++ ([32] ++ itoa v))) (bs H) (bs (runeL a)) (bs bb) (bs (runeL b)) (bs (itoa v)) ff H.length ?_ ?_ ?_ (bs_extract_l _ _) ?_ ?_ hb' ?_ ?_ ?_ a b (by omega) (by omega) v (hav a (by omega)) (hav b (by omega)) ?_ CLx W hI.tz hI.p10 hI.mx
  · rw [bs_size]; simp; omega
  · rw [bs_size]; simp
  · rw [bs_dl]; exact indexByte_skip 32 H (itoa v) hH32
  · rw [← List.append_assoc]
    have := bs_extract_r (H ++ [32]) (itoa v) (bs ((H ++ [32]) ++ itoa v)).size (by rw [bs_size])
    rw [List.length_append, List.length_singleton] at this
    exact this
  · intro W hm
    refine cut_call (bs H) _ (bs (runeL a)) (bs bb) ff (by rw [bs_size]; omega) ?_ W hm
    rw [bs_dl, bs_dl, bs_dl]
    exact hcut
  · rw [bs_size]; omega
  · rw [bs_size]; omega
  · rw [bs_size]; simp; omega
  · intro W
    refine (Tryz.strconv_Atoi (bs (itoa v)) v (by rw [bs_size]; omega) (by rw [bs_dl]; exact atoi_itoa v h5) W).mono ?_
    rintro e w' ⟨rfl, t, rfl⟩
    exact ⟨rfl, bytes_below W t⟩
theorem line_no10 (x : Rg) : (10 : UInt8) ∉ lineR x := by
  have n10 : ∀ u, (10 : UInt8) ∉ runeL u := fun u => not_hx (runeL_is u) 10 (by unfold IsHx; decide)
  have hi : (10 : UInt8) ∉ itoa x.2.2 := by
    rw [itoa]
    split
    · intro h
      rcases List.mem_cons.1 h with h | h
      · exact absurd h (by decide)
      · exact absurd (dec_is _ _ h).1 (by decide)
    · intro h; exact absurd (dec_is _ _ h).1 (by decide)
  unfold lineR lineL
  split
  · simp only [List.mem_append, not_or]
    exact ⟨⟨⟨n10 _, by simp⟩, by decide⟩, hi⟩
  · simp only [List.mem_append, not_or]
    exact ⟨⟨⟨n10 _, by decide, n10 _⟩, by decide⟩, hi⟩
/-- A table's text. -/
theorem lines_text : ∀ (p : List Rg), p.length ≤ 2000 → (∀ x ∈ p, InT x) → LinesG (bs (textS p)) p
  | [], _, _ => by rw [LinesG, textS, bs_size]; rfl
  | x :: r, hl, h => by
    have hlen := textS_len 0 (x :: r) h
    simp only [List.length_cons] at hl hlen
    refine ⟨by rw [bs_size, textS]; simp; omega, bs (lineR x), bs (textS r), by rw [bs_size, bs_size, textS]; simp; omega, fun W hI => ?_, read_line x (h x List.mem_cons_self), lines_text r (by omega) (fun y hy => h y (List.mem_cons_of_mem _ hy))⟩
    refine cut_call _ _ _ _ true (by rw [bs_size]; omega) ?_ W hI.mx
    rw [bs_dl, bs_dl, bs_dl, textS]
    exact cut_byte (lineR x) (textS r) [10] 10 rfl (by simp) (line_no10 x)
end Go.Proofs.YthggpjiabklekaaGreatDoor
