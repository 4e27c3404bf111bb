/- The document's numbers and spans of autonomous systems are asn's. -/
import Derived.Test.YtanbnlobbgfidaaDoorPAsx4
import Derived.Test.YtanbnlobbgfidaaDoorPa
namespace Go.Proofs.YtanbnlobbgfidaaDoor
set_option linter.unusedSimpArgs false
set_option linter.unusedVariables false
open Go.RowKit Go.Lib Go.Proofs.YtanbnlobbgfidaaDoorW.PrintWords

/-- What is told beside an error. -/
def errAt : Option (Int × Nat) → Int
  | none => 0
  | some (a, _) => a
def errNo : Option (Int × Nat) → Int
  | none => 0
  | some (_, c) => c
/-- A number's value. -/
def dec : Nat → List UInt8 → Nat
  | acc, [] => acc
  | acc, c :: r => dec (acc * 10 + (c.toNat - 48)) r
def p10 : Nat → Nat
  | 0 => 1
  | n + 1 => 10 * p10 n
theorem p10_pos : ∀ n, 1 ≤ p10 n
  | 0 => Nat.le_refl _
  | n + 1 => by have := p10_pos n; show 1 ≤ 10 * p10 n; omega
theorem p10_le (n m : Nat) (h : n ≤ m) : p10 n ≤ p10 m := by
  induction m with
  | zero => obtain rfl : n = 0 := by omega
            exact Nat.le_refl _
  | succ m ih =>
    rcases Nat.lt_or_ge m n with h2 | h2
    · obtain rfl : n = m + 1 := by omega
      exact Nat.le_refl _
    · have := ih h2
      show p10 n ≤ 10 * p10 m
      omega
theorem p10_9 : p10 9 = 1000000000 := by decide
theorem p10_10 : p10 10 = 10000000000 := by decide
theorem dec_ge : ∀ (l : List UInt8) (acc : Nat), acc * p10 l.length ≤ dec acc l
  | [], acc => by show acc * 1 ≤ acc; omega
  | c :: r, acc => by
    have h := dec_ge r (acc * 10 + (c.toNat - 48))
    show acc * (10 * p10 r.length) ≤ dec (acc * 10 + (c.toNat - 48)) r
    refine Nat.le_trans ?_ h
    rw [← Nat.mul_assoc]
    exact Nat.mul_le_mul_right _ (by omega)
theorem uintM_dec (M : Nat) (hM : M < 1844674407370955162) : ∀ (l : List UInt8) (acc : Nat), acc ≤ M → (∀ c ∈ l, 48 ≤ c.toNat ∧ c.toNat ≤ 57) → Lib.parseUintM M acc l = if M < dec acc l then .range else .ok (dec acc l)
  | [], acc, h, _ => by
    show Lib.NumEnd.ok acc = if M < acc then Lib.NumEnd.range else Lib.NumEnd.ok acc
    rw [if_neg (by omega)]
  | c :: r, acc, h, hd => by
    show _ = if M < dec (acc * 10 + (c.toNat - 48)) r then Lib.NumEnd.range else Lib.NumEnd.ok (dec (acc * 10 + (c.toNat - 48)) r)
    unfold Lib.parseUintM
    rw [if_pos (hd c (List.mem_cons_self ..)), if_neg (by omega)]
    by_cases h2 : M < acc * 10 + (c.toNat - 48)
    · rw [if_pos h2, if_pos]
      have := dec_ge r (acc * 10 + (c.toNat - 48))
      have h10 := p10_pos r.length
      have := Nat.le_mul_of_pos_right (acc * 10 + (c.toNat - 48)) h10
      omega
    · rw [if_neg h2]
      exact uintM_dec M hM r _ (by omega) (fun d hx => hd d (List.mem_cons_of_mem _ hx))
theorem digit_iff (c : UInt8) : (decide (c < 48) || decide (57 < c)) = false ↔ 48 ≤ c.toNat ∧ c.toNat ≤ 57 := by
  rw [Bool.or_eq_false_iff, decide_eq_false_iff_not, decide_eq_false_iff_not, UInt8.lt_iff_toNat_lt, UInt8.lt_iff_toNat_lt]
  show ¬ c.toNat < 48 ∧ ¬ 57 < c.toNat ↔ _
  omega
theorem w64' (n : Int) (h1 : -9223372036854775808 ≤ n) (h2 : n ≤ 9223372036854775807) : wrap64 n = n := by unfold wrap64; omega
theorem bt_nat (s : ByteArray) (i : Nat) (h : i < s.size) : bt s (i : Int) = ((s.data.toList[i]'(by rw [← Lib.size_eq]; exact h)).toNat : Int) := by
  unfold bt
  have h2 : (i : Int).toNat < s.size := by simpa using h
  rw [dif_pos h2]
  rfl
theorem drop_step (l : List UInt8) (i : Nat) (h : i < l.length) : l.drop i = l[i] :: l.drop (i + 1) := List.drop_eq_getElem_cons h

/-- The reference's second loop. -/
theorem ref_sum (s : ByteArray) (hs : s.size ≤ 10) (hall : ∀ c ∈ s.data.toList, 48 ≤ c.toNat ∧ c.toNat ≤ 57) : ∀ (d i : Nat) (acc k : Nat), i + d = s.size → acc < p10 i → d < k →
    PAs.eponymref15_Number.l1 k s (acc : Int) (i : Int) = if 4294967295 < dec acc (s.data.toList.drop i) then some (0, 0, 4) else some ((dec acc (s.data.toList.drop i) : Int) % 4294967296, 0, 0)
  | 0, i, acc, k, h, ha, hk => by
    obtain ⟨k, rfl⟩ : ∃ m, k = m + 1 := ⟨k - 1, by omega⟩
    have e : s.data.toList.drop i = [] := List.drop_eq_nil_of_le (by rw [← Lib.size_eq]; omega)
    rw [e]
    show _ = if 4294967295 < acc then some (0, 0, 4) else some ((acc : Int) % 4294967296, 0, 0)
    simp only [PAs.eponymref15_Number.l1]
    rw [if_neg (by omega)]
    by_cases h2 : 4294967295 < acc
    · rw [if_pos h2, if_pos (by omega)]
    · rw [if_neg h2, if_neg (by omega)]
  | d + 1, i, acc, k, h, ha, hk => by
    obtain ⟨k, rfl⟩ : ∃ m, k = m + 1 := ⟨k - 1, by omega⟩
    have hi : i < s.size := by omega
    have hi' : i < s.data.toList.length := by rw [← Lib.size_eq]; exact hi
    have hc := hall _ (List.getElem_mem hi')
    have hp := p10_le i 9 (by omega)
    rw [p10_9] at hp
    rw [drop_step _ i hi']
    generalize hcc : s.data.toList[i] = c at hc ⊢
    show _ = if 4294967295 < dec (acc * 10 + (c.toNat - 48)) (s.data.toList.drop (i + 1)) then some (0, 0, 4) else some ((dec (acc * 10 + (c.toNat - 48)) (s.data.toList.drop (i + 1)) : Int) % 4294967296, 0, 0)
    simp only [PAs.eponymref15_Number.l1]
    rw [if_pos (by omega), if_pos (by omega), bt_nat s i hi, hcc]
    have e1 : wrap64 (wrap64 (wrap64 (10 * (acc : Int)) + wrap64 (c.toNat : Int)) - 48) = ((acc * 10 + (c.toNat - 48) : Nat) : Int) := by
      rw [w64' (10 * (acc : Int)) (by omega) (by omega), w64' (c.toNat : Int) (by omega) (by omega), w64' (10 * (acc : Int) + (c.toNat : Int)) (by omega) (by omega), w64' (10 * (acc : Int) + (c.toNat : Int) - 48) (by omega) (by omega)]
      omega
    have e2 : wrap64 ((i : Int) + 1) = ((i + 1 : Nat) : Int) := by unfold wrap64; omega
    rw [e1, e2]
    exact ref_sum s hs hall d (i + 1) _ k (by omega) (by show _ < 10 * p10 i; omega) (by omega)
/-- Its first. -/
theorem ref_digits (s : ByteArray) (hs : s.size ≤ 100) (hall : ∀ c ∈ s.data.toList, 48 ≤ c.toNat ∧ c.toNat ≤ 57) : ∀ (d i k : Nat), i + d = s.size → 
    PAs.eponymref15_Number.l0 (k + d + 1) s (i : Int) = if (s.size : Int) > 1 then (if 0 < (s.size : Int) then (PAs.eponymref15_Number.j1 k s ((bt s 0) == 48)) else (none)) else (PAs.eponymref15_Number.j1 k s false)
  | 0, i, k, h => by
    simp only [PAs.eponymref15_Number.l0, Nat.add_zero]
    rw [if_neg (by omega)]
  | d + 1, i, k, h => by
    have hi : i < s.size := by omega
    have hi' : i < s.data.toList.length := by rw [← Lib.size_eq]; exact hi
    have hc := hall _ (List.getElem_mem hi')
    have e2 : wrap64 ((i : Int) + 1) = ((i + 1 : Nat) : Int) := by unfold wrap64; omega
    rw [show k + (d + 1) + 1 = (k + d + 1) + 1 from by omega]
    simp only [PAs.eponymref15_Number.l0]
    rw [if_pos (by omega), if_pos (by omega), bt_nat s i hi, if_neg (by omega), if_neg (by omega), e2]
    exact ref_digits s hs hall d (i + 1) k (by omega)
theorem ref_bad (s : ByteArray) (hs : s.size ≤ 100) (b : Nat) (hb : b < s.size) (hpre : ∀ j (h : j < s.data.toList.length), j < b → 48 ≤ s.data.toList[j].toNat ∧ s.data.toList[j].toNat ≤ 57) (hbad : ∀ (h : b < s.data.toList.length), s.data.toList[b].toNat < 48 ∨ 57 < s.data.toList[b].toNat) : ∀ (d i k : Nat), i + d = b → d < k → PAs.eponymref15_Number.l0 k s (i : Int) = some (0, (b : Int), 1)
  | 0, i, k, h, hk => by
    obtain ⟨k, rfl⟩ : ∃ m, k = m + 1 := ⟨k - 1, by omega⟩
    obtain rfl : i = b := by omega
    have hi' : i < s.data.toList.length := by rw [← Lib.size_eq]; exact hb
    simp only [PAs.eponymref15_Number.l0]
    rw [if_pos (by omega), if_pos (by omega), bt_nat s i hb]
    rcases hbad hi' with h1 | h1
    · rw [if_pos (by omega)]
    · rw [if_neg (by omega), if_pos (by omega)]
  | d + 1, i, k, h, hk => by
    obtain ⟨k, rfl⟩ : ∃ m, k = m + 1 := ⟨k - 1, by omega⟩
    have hi : i < s.size := by omega
    have hi' : i < s.data.toList.length := by rw [← Lib.size_eq]; exact hi
    have hc := hpre i hi' (by omega)
    have e2 : wrap64 ((i : Int) + 1) = ((i + 1 : Nat) : Int) := by unfold wrap64; omega
    simp only [PAs.eponymref15_Number.l0]
    rw [if_pos (by omega), if_pos (by omega), bt_nat s i hi, if_neg (by omega), if_neg (by omega), e2]
    exact ref_bad s hs b hb hpre hbad d (i + 1) k (by omega) (by omega)
/-- The document's number. -/
theorem refNumber_f (s : ByteArray) (hs : s.size ≤ 100) : PAs.eponymref15_Number.f 250 s = some ((numS s.data.toList).1, errAt (numS s.data.toList).2, errNo (numS s.data.toList).2) := by
  have hlen : s.data.toList.length = s.size := (Lib.size_eq s).symm
  unfold PAs.eponymref15_Number.f
  rw [ByteArray.toList_eq]
  by_cases h0 : s.data.toList = []
  · rw [if_pos h0, show numS s.data.toList = (0, some (0, 16)) by unfold numS; rw [if_pos h0]]
    rfl
  · rw [if_neg h0]
    have hpos : 0 < s.size := by
      rcases Nat.eq_zero_or_pos s.size with h | h
      · exact absurd (List.eq_nil_of_length_eq_zero (hlen.trans h)) h0
      · exact h
    cases hb : badAt s.data.toList with
    | some b =>
      rw [show numS s.data.toList = (0, some ((b : Int), 1)) by unfold numS; rw [if_neg h0, hb]]
      obtain ⟨hi, hp, hn⟩ := List.findIdx?_eq_some_iff_getElem.1 hb
      refine ref_bad s hs b (by omega) (fun j h hj => ?_) (fun h => ?_) b 0 250 (by omega) (by omega)
      · exact (digit_iff _).1 (Bool.eq_false_iff.2 (hn j hj))
      · by_cases h4 : 48 ≤ s.data.toList[b].toNat ∧ s.data.toList[b].toNat ≤ 57
        · exact absurd hp (Bool.eq_false_iff.1 ((digit_iff _).2 h4))
        · omega
    | none =>
      have hall : ∀ c ∈ s.data.toList, 48 ≤ c.toNat ∧ c.toNat ≤ 57 := fun c hc => (digit_iff c).1 (List.findIdx?_eq_none_iff.1 hb c hc)
      have hd := ref_digits s hs hall s.size 0 (249 - s.size) (by omega)
      rw [show 249 - s.size + s.size + 1 = 250 by omega] at hd
      rw [show (0 : Int) = ((0 : Nat) : Int) from rfl, hd]
      have hh : ∀ (h : 0 < s.data.toList.length), s.data.toList.head? = some s.data.toList[0] := fun h => by rw [List.head?_eq_getElem?, List.getElem?_eq_getElem h]
      have hb0 := bt_nat s 0 hpos
      rw [show ((0 : Nat) : Int) = (0 : Int) from rfl] at hb0
      have hj : (if (s.size : Int) > 1 then (if 0 < (s.size : Int) then (PAs.eponymref15_Number.j1 (249 - s.size) s ((bt s 0) == 48)) else (none)) else (PAs.eponymref15_Number.j1 (249 - s.size) s false)) = PAs.eponymref15_Number.j1 (249 - s.size) s (decide (s.data.toList.head? = some 48 ∧ 1 < s.data.toList.length)) := by
        by_cases h1 : 1 < s.size
        · rw [if_pos (by omega), if_pos (by omega), hb0, hh (by omega)]
          congr 1
          rw [Bool.eq_iff_iff, beq_iff_eq, decide_eq_true_eq]
          constructor
          · intro h; exact ⟨by congr 1; apply UInt8.toNat_inj.1; show _ = 48; omega, by omega⟩
          · rintro ⟨h, -⟩; injection h with h; rw [h]; rfl
        · rw [if_neg (by omega)]
          congr 1
          symm
          rw [decide_eq_false_iff_not]
          rintro ⟨-, h⟩
          omega
      rw [hj]
      obtain ⟨m, hm⟩ : ∃ m, 249 - s.size = m + 1 := ⟨248 - s.size, by omega⟩
      rw [hm]
      simp only [PAs.eponymref15_Number.j1]
      by_cases hf : s.data.toList.head? = some 48 ∧ 1 < s.data.toList.length
      · rw [if_pos (by simpa using hf), show numS s.data.toList = (0, some (0, 5)) by unfold numS; rw [if_neg h0, hb]; simp only; rw [if_pos hf]]
        rfl
      · rw [if_neg (by simpa using hf)]
        have hu : Lib.parseUintB 32 s.data.toList = if 4294967295 < dec 0 s.data.toList then .range else .ok (dec 0 s.data.toList) := by
          unfold Lib.parseUintB
          rw [if_neg h0]
          exact uintM_dec 4294967295 (by omega) _ 0 (by omega) hall
        by_cases h10 : (s.size : Int) > 10
        · rw [if_pos h10]
          have hbig : 4294967295 < dec 0 s.data.toList := by
            obtain ⟨c, r, hcr⟩ : ∃ c r, s.data.toList = c :: r := List.exists_cons_of_ne_nil h0
            have hc : c.toNat ≠ 48 := fun h => hf ⟨by rw [hcr]; simp only [List.head?_cons]; congr 1; exact UInt8.toNat_inj.1 h, by omega⟩
            have hc2 := hall c (by rw [hcr]; exact List.mem_cons_self ..)
            rw [hcr]
            show 4294967295 < dec (0 * 10 + (c.toNat - 48)) r
            have := dec_ge r (0 * 10 + (c.toNat - 48))
            have hr : 10 ≤ r.length := by rw [hcr] at hlen; simp at hlen; omega
            have hp := p10_le 10 r.length hr
            rw [p10_10] at hp
            have hq : 1 * p10 r.length ≤ (0 * 10 + (c.toNat - 48)) * p10 r.length := Nat.mul_le_mul_right _ (by omega)
            omega
          rw [if_pos hbig] at hu
          rw [show numS s.data.toList = (0, some (0, 4)) by unfold numS; rw [if_neg h0, hb]; simp only; rw [if_neg hf, hu]]
          rfl
        · rw [if_neg h10]
          have hsum := ref_sum s (by omega) hall s.size 0 0 m (by omega) (by decide) (by omega)
          rw [List.drop_zero] at hsum
          rw [show (0 : Int) = ((0 : Nat) : Int) from rfl, hsum]
          by_cases hbig : 4294967295 < dec 0 s.data.toList
          · rw [if_pos hbig] at hu
            rw [if_pos hbig, show numS s.data.toList = (0, some (0, 4)) by unfold numS; rw [if_neg h0, hb]; simp only; rw [if_neg hf, hu]]
            rfl
          · rw [if_neg hbig] at hu
            rw [if_neg hbig, show numS s.data.toList = (((dec 0 s.data.toList : Nat) : Int), none) by unfold numS; rw [if_neg h0, hb]; simp only; rw [if_neg hf, hu]]
            simp only [errAt, errNo]
            congr 2
            omega
theorem refNumber_k (s : ByteArray) (hs : s.size ≤ 100) : ∀ m, PAs.eponymref15_Number.f (250 + m) s = some ((numS s.data.toList).1, errAt (numS s.data.toList).2, errNo (numS s.data.toList).2)
  | 0 => refNumber_f s hs
  | m + 1 => PAs.eponymref15_Number.mono s (250 + m) _ (refNumber_k s hs m)

theorem occ_one (l : List UInt8) (c : UInt8) (i : Nat) : Lib.occAt l [c] i = decide (l[i]? = some c) := by
  unfold Lib.occAt
  cases h : l.drop i with
  | nil =>
    have : l[i]? = none := by rw [List.getElem?_eq_none_iff]; exact List.drop_eq_nil_iff.1 h
    rw [this]
    rfl
  | cons x r =>
    have : l[i]? = some x := by rw [← List.head?_drop, h]; rfl
    rw [this]
    show (c == x && true) = decide (some x = some c)
    rw [Bool.and_true, Bool.eq_iff_iff, beq_iff_eq, decide_eq_true_eq, Option.some.injEq]
    exact eq_comm
/-- What strings.Cut finds at one byte. -/
theorem cut_at (l : List UInt8) (c : UInt8) (p : Nat) (hp : p ≤ l.length) (hpre : ∀ j, j < p → l[j]? ≠ some c) (hat : p < l.length → l[p]? = some c) :
    Lib.cut l [c] = if p < l.length then (l.take p, l.drop (p + 1), true) else (l, [], false) := by
  unfold Lib.cut
  by_cases h : p < l.length
  · rw [Lib.index_first (i := p) hp (by rw [occ_one]; simpa using hat h) (fun j hj => by rw [occ_one]; simpa using hpre j hj), if_pos h, if_pos (by omega)]
    rfl
  · obtain rfl : p = l.length := by omega
    rw [Lib.index_none (fun j hj => by
      rw [occ_one, decide_eq_false_iff_not]
      intro e
      rcases Nat.lt_or_ge j l.length with h2 | h2
      · exact hpre j h2 e
      · rw [List.getElem?_eq_none h2] at e; cases e), if_neg h, if_neg (by omega)]
theorem take_extract (s : ByteArray) (p : Nat) (hp : p ≤ s.size) : (s.extract 0 p).data.toList = s.data.toList.take p := by
  rw [Lib.extract_data, List.drop_zero, Nat.sub_zero]
theorem drop_extract (s : ByteArray) (p : Nat) : (s.extract p s.size).data.toList = s.data.toList.drop p := Lib.extract_to_end s p

theorem refParse_at (s : ByteArray) (hs : s.size ≤ 60) (p : Nat) (hp : p ≤ s.size) (hpre : ∀ j, j < p → s.data.toList[j]? ≠ some 45) (hat : p < s.size → s.data.toList[p]? = some 45) (m : Nat) :
    PAs.eponymref15_Parse.j1 (250 + m + 1) s (p : Int) = some ((parseS s.data.toList).1.1, (parseS s.data.toList).1.2, errAt (parseS s.data.toList).2, errNo (parseS s.data.toList).2) := by
  have hlen : s.data.toList.length = s.size := (Lib.size_eq s).symm
  have hcut := cut_at s.data.toList 45 p (by omega) hpre (by rw [hlen]; exact hat)
  have z1 : (s.extract 0 p).size ≤ 100 := by rw [ByteArray.size_extract]; omega
  have e1 : wrap64 ((p : Int) + 1) = ((p + 1 : Nat) : Int) := by unfold wrap64; omega
  simp only [PAs.eponymref15_Parse.j1]
  rw [if_pos (by omega), if_pos (by omega), Int.toNat_natCast, refNumber_k _ z1 m]
  simp only [Option.bind_some]
  rw [take_extract s p hp, e1]
  unfold parseS
  rw [hcut, hlen]
  by_cases h : p < s.size
  · rw [if_pos h]
    simp only
    obtain ⟨f, x, hn⟩ : ∃ f x, numS (s.data.toList.take p) = (f, x) := ⟨_, _, rfl⟩
    rw [hn]
    cases x with
    | some x =>
      obtain ⟨xa, xc⟩ := x
      obtain ⟨-, -, h3, -⟩ := numS_at _ _ _ _ hn
      simp only [errAt, errNo]
      rw [if_neg (by omega)]
    | none =>
      simp only [errAt, errNo, if_true]
      have z2 : (s.extract (p + 1) s.size).size ≤ 100 := by rw [ByteArray.size_extract]; omega
      rw [if_neg (by omega), if_pos (by omega), if_pos (by omega), Int.toNat_natCast, refNumber_k _ z2 m]
      simp only [Option.bind_some]
      rw [drop_extract]
      obtain ⟨t, y, hn2⟩ : ∃ t y, numS (s.data.toList.drop (p + 1)) = (t, y) := ⟨_, _, rfl⟩
      rw [hn2]
      cases y with
      | some y =>
        obtain ⟨ya, yc⟩ := y
        obtain ⟨h1, h2, h3, -⟩ := numS_at _ _ _ _ hn2
        simp only [errAt, errNo]
        have hl2 : (s.data.toList.drop (p + 1)).length ≤ 60 := by rw [List.length_drop]; omega
        have hl1 : (s.data.toList.take p).length = p := by rw [List.length_take]; omega
        rw [if_neg (by omega), hl1]
        congr 3
        unfold wrap64
        congr 1
        omega
      | none =>
        simp only [errAt, errNo, if_true]
        have hl1 : (s.data.toList.take p).length = p := by rw [List.length_take]; omega
        split
        · simp only [errAt, errNo, hl1]; rfl
        · rfl
  · obtain rfl : p = s.size := by omega
    rw [if_neg h]
    simp only
    have e2 : s.data.toList.take s.size = s.data.toList := List.take_of_length_le (by omega)
    rw [e2]
    obtain ⟨f, x, hn⟩ : ∃ f x, numS s.data.toList = (f, x) := ⟨_, _, rfl⟩
    rw [hn]
    cases x with
    | some x =>
      obtain ⟨xa, xc⟩ := x
      obtain ⟨-, -, h3, -⟩ := numS_at _ _ _ _ hn
      simp only [errAt, errNo]
      rw [if_neg (by omega)]
    | none => simp [errAt, errNo]
theorem refParse_loop (s : ByteArray) (hs : s.size ≤ 60) : ∀ (d i m : Nat), i + d = s.size → (∀ j, j < i → s.data.toList[j]? ≠ some 45) →
    PAs.eponymref15_Parse.l0 (250 + m + d + 2) s (i : Int) = some ((parseS s.data.toList).1.1, (parseS s.data.toList).1.2, errAt (parseS s.data.toList).2, errNo (parseS s.data.toList).2)
  | 0, i, m, h, hpre => by
    simp only [PAs.eponymref15_Parse.l0, Nat.add_zero]
    rw [if_neg (by omega)]
    exact refParse_at s hs i (by omega) hpre (fun h2 => by omega) m
  | d + 1, i, m, h, hpre => by
    have hi : i < s.size := by omega
    have hi' : i < s.data.toList.length := by rw [← Lib.size_eq]; exact hi
    have e2 : wrap64 ((i : Int) + 1) = ((i + 1 : Nat) : Int) := by unfold wrap64; omega
    rw [show 250 + m + (d + 1) + 2 = (250 + m + d + 2) + 1 from by omega]
    simp only [PAs.eponymref15_Parse.l0]
    rw [if_pos (by omega), if_pos (by omega), bt_nat s i hi, e2]
    by_cases hc : (s.data.toList[i].toNat : Int) = 45
    · rw [if_pos hc, show 250 + m + d + 2 = 250 + (m + d + 1) + 1 by omega]
      exact refParse_at s hs i (by omega) hpre (fun _ => by rw [List.getElem?_eq_getElem hi']; congr 1; apply UInt8.toNat_inj.1; show _ = 45; omega) _
    · rw [if_neg hc]
      refine refParse_loop s hs d (i + 1) m (by omega) (fun j hj => ?_)
      rcases Nat.lt_or_ge j i with h2 | h2
      · exact hpre j h2
      · obtain rfl : j = i := by omega
        rw [List.getElem?_eq_getElem hi']
        intro e
        injection e with e
        rw [e] at hc
        exact hc rfl
theorem refParse_f (s : ByteArray) (hs : s.size ≤ 60) : PAs.eponymref15_Parse.f (250 + s.size + 2) s = some ((parseS s.data.toList).1.1, (parseS s.data.toList).1.2, errAt (parseS s.data.toList).2, errNo (parseS s.data.toList).2) :=
  refParse_loop s hs s.size 0 0 (by omega) (fun j hj => by omega)
end Go.Proofs.YtanbnlobbgfidaaDoor
