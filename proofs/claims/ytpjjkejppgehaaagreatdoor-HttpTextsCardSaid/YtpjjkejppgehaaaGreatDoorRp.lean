/- A response's bytes, and what is read of bytes: plain lists of bytes; what is read of a right response's bytes is that response. -/
import Derived.Lib.IndexMore
import Derived.Lib.Split
import Derived.Lib.Atoi
import Derived.Lib.ItoaNum
import Derived.Lib.Strings
namespace Go.Proofs.YtpjjkejppgehaaaGreatDoor
open Go.Lib
set_option linter.unusedVariables false
set_option linter.unusedSimpArgs false
abbrev PL := List (List UInt8 × List UInt8)
def sepL : List UInt8 := [13, 10]
def sep2 : List UInt8 := [13, 10, 13, 10]
def colonL : List UInt8 := [58, 32]
def verL : List UInt8 := [72, 84, 84, 80, 47, 49, 46, 49, 32]
def clenL : List UInt8 := [99, 111, 110, 116, 101, 110, 116, 45, 108, 101, 110, 103, 116, 104, 58, 32]
def headsL : PL → List UInt8
  | [] => []
  | (n, v) :: r => n ++ colonL ++ v ++ sepL ++ headsL r
def textL (st : Int) (word : List UInt8) (l : PL) (b : List UInt8) : List UInt8 :=
  verL ++ itoa st ++ [32] ++ word ++ sepL ++ headsL l ++ (clenL ++ itoa b.length ++ sep2 ++ b)
def linesP : List (List UInt8) → Option PL
  | [] => some []
  | x :: r => if (cut x colonL).2.2 then (linesP r).map (((cut x colonL).1, (cut x colonL).2.1) :: ·) else none
/-- What Read takes of a text, ahead of its last look. -/
def headP (s : List UInt8) : Option (Int × PL × List UInt8) :=
  if (cut s sep2).2.2 = true ∧ hasPrefix ((split (cut s sep2).1 sepL).headD []) verL = true ∧ 2 ≤ (split (cut s sep2).1 sepL).length ∧ 3 ≤ (trimPrefix ((split (cut s sep2).1 sepL).headD []) verL).length then
    match atoi ((trimPrefix ((split (cut s sep2).1 sepL).headD []) verL).take 3) with
    | none => none
    | some n => (linesP ((split (cut s sep2).1 sepL).drop 1).dropLast).map fun h => (n, h, (cut s sep2).2.1)
  else none

/-- Lines, and line ends between. -/
def joinL : List (List UInt8) → List UInt8
  | [] => []
  | [x] => x
  | x :: y :: r => x ++ 13 :: 10 :: joinL (y :: r)

theorem index_skip (sub : List UInt8) (c : UInt8) (hc : sub.head? = some c) : ∀ (x t : List UInt8), c ∉ x → 0 ≤ index t sub → index (x ++ t) sub = x.length + index t sub
  | [], t, _, _ => by simp
  | a :: x, t, hx, ht => by
    have ih := index_skip sub c hc x t (fun h => hx (List.mem_cons_of_mem _ h)) ht
    have hp : sub.isPrefixOf (a :: x ++ t) = false := by
      cases sub with
      | nil => simp at hc
      | cons d u =>
        have hd : d = c := by simpa using hc
        subst hd
        have : (d == a) = false := by rw [beq_eq_false_iff_ne]; intro e; exact hx (by rw [e]; exact List.mem_cons_self)
        simp [List.isPrefixOf, this]
    have hm : (index (x ++ t) sub == -1) = false := by rw [beq_eq_false_iff_ne]; omega
    rw [List.cons_append] at hp ⊢
    rw [index, hp, ih] at *
    have hm : (((x.length : Int) + index t sub) == -1) = false := by rw [beq_eq_false_iff_ne]; omega
    simp [hm]
    omega
theorem index_miss (sub : List UInt8) (c : UInt8) (hc : sub.head? = some c) : ∀ (x : List UInt8), c ∉ x → index x sub = -1
  | [], _ => by
    cases sub with
    | nil => simp at hc
    | cons d u => rfl
  | a :: x, hx => by
    have ih := index_miss sub c hc x (fun h => hx (List.mem_cons_of_mem _ h))
    have hp : sub.isPrefixOf (a :: x) = false := by
      cases sub with
      | nil => simp at hc
      | cons d u =>
        have hd : d = c := by simpa using hc
        subst hd
        have : (d == a) = false := by rw [beq_eq_false_iff_ne]; intro e; exact hx (by rw [e]; exact List.mem_cons_self)
        simp [List.isPrefixOf, this]
    rw [index, hp, ih]
    rfl
theorem index_here (sub t : List UInt8) (h : sub ≠ []) : index (sub ++ t) sub = 0 := by
  cases sub with
  | nil => exact absurd rfl h
  | cons a u =>
    have : (a :: u).isPrefixOf (a :: (u ++ t)) = true := by
      rw [List.isPrefixOf_iff_prefix]
      exact ⟨t, rfl⟩
    rw [List.cons_append, index, this]
    rfl
theorem cut_at (x t sep : List UInt8) (h : index (x ++ sep ++ t) sep = x.length) : cut (x ++ sep ++ t) sep = (x, t, true) := by
  unfold cut
  rw [if_pos (by omega), h]
  simp [List.append_assoc]
theorem cut_colon (n v : List UInt8) (h : (58 : UInt8) ∉ n) : cut (n ++ colonL ++ v) colonL = (n, v, true) := by
  apply cut_at
  rw [List.append_assoc, index_skip colonL 58 rfl n _ h (by rw [index_here _ _ (by simp [colonL])]; exact Int.le_refl _), index_here _ _ (by simp [colonL])]
  simp
theorem index_join (b : List UInt8) : ∀ (L : List (List UInt8)), L ≠ [] → (∀ x ∈ L, (13 : UInt8) ∉ x) → (∀ x ∈ L.tail, x ≠ []) → index (joinL L ++ sep2 ++ b) sep2 = (joinL L).length
  | [], h, _, _ => absurd rfl h
  | [x], _, hx, _ => by
    rw [joinL, List.append_assoc, index_skip sep2 13 rfl x _ (hx x (by simp)) (by rw [index_here _ _ (by simp [sep2])]; exact Int.le_refl _), index_here _ _ (by simp [sep2])]
    simp
  | x :: y :: r, _, hx, hy => by
    have ih := index_join b (y :: r) (by simp) (fun z hz => hx z (List.mem_cons_of_mem _ hz)) (fun z hz => hy z (by simp at hz ⊢; exact Or.inr hz))
    obtain ⟨c, hc, u, hu⟩ : ∃ c, c ≠ (13 : UInt8) ∧ ∃ u, joinL (y :: r) = c :: u := by
      cases y with
      | nil => exact absurd rfl (hy [] (by simp))
      | cons c y' =>
        have hcn : c ≠ 13 := fun e => hx (c :: y') (by simp) (by rw [e]; exact List.mem_cons_self)
        cases r with
        | nil => exact ⟨c, hcn, y', rfl⟩
        | cons z r => exact ⟨c, hcn, y' ++ 13 :: 10 :: joinL (z :: r), rfl⟩
    have e : index (13 :: 10 :: joinL (y :: r) ++ sep2 ++ b) sep2 = 2 + (joinL (y :: r)).length := by
      have e1 : index (10 :: (joinL (y :: r) ++ sep2 ++ b)) sep2 = 1 + (joinL (y :: r)).length := by
        have hp : sep2.isPrefixOf (10 :: (joinL (y :: r) ++ sep2 ++ b)) = false := by simp [sep2, List.isPrefixOf]
        have hm : (((joinL (y :: r)).length : Int) == -1) = false := by rw [beq_eq_false_iff_ne]; omega
        rw [index, hp, ih]
        simp [hm]; omega
      have hp : sep2.isPrefixOf (13 :: 10 :: (joinL (y :: r) ++ sep2 ++ b)) = false := by
        have : ((13 : UInt8) == c) = false := by rw [beq_eq_false_iff_ne]; exact Ne.symm hc
        rw [hu]; simp [sep2, List.isPrefixOf, this]
      have hm : ((1 + ((joinL (y :: r)).length : Int)) == -1) = false := by rw [beq_eq_false_iff_ne]; omega
      show index (13 :: 10 :: (joinL (y :: r) ++ sep2 ++ b)) sep2 = _
      rw [index, hp, e1]
      simp [hm]; omega
    rw [joinL, List.append_assoc, List.append_assoc]
    rw [show 13 :: 10 :: joinL (y :: r) ++ (sep2 ++ b) = 13 :: 10 :: joinL (y :: r) ++ sep2 ++ b by simp] 
    rw [index_skip sep2 13 rfl x _ (hx x (by simp)) (by rw [e]; omega), e]
    simp; omega
theorem cut_join (L : List (List UInt8)) (b : List UInt8) (h0 : L ≠ []) (h1 : ∀ x ∈ L, (13 : UInt8) ∉ x) (h2 : ∀ x ∈ L.tail, x ≠ []) : cut (joinL L ++ sep2 ++ b) sep2 = (joinL L, b, true) :=
  cut_at _ _ _ (index_join b L h0 h1 h2)
theorem index_line (x t : List UInt8) (hx : (13 : UInt8) ∉ x) : index (x ++ 13 :: 10 :: t) sepL = x.length := by
  rw [show 13 :: 10 :: t = sepL ++ t from rfl, index_skip sepL 13 rfl x _ hx (by rw [index_here _ _ (by simp [sepL])]; exact Int.le_refl _), index_here _ _ (by simp [sepL])]
  simp
theorem count_join : ∀ (L : List (List UInt8)) (f : Nat), (∀ x ∈ L, (13 : UInt8) ∉ x) → L.length ≤ f + 1 → countFrom sepL f (joinL L) = L.length - 1
  | [], f, _, _ => by
    cases f with
    | zero => rfl
    | succ f => rfl
  | [x], f, hx, _ => by
    cases f with
    | zero => rfl
    | succ f => rw [countFrom, joinL, index_miss sepL 13 rfl x (hx x (by simp))]; rfl
  | x :: y :: r, f, hx, hf => by
    cases f with
    | zero => simp at hf
    | succ f =>
      have ih := count_join (y :: r) f (fun z hz => hx z (List.mem_cons_of_mem _ hz)) (by simp at hf ⊢; omega)
      have hi := index_line x (joinL (y :: r)) (hx x (by simp))
      have hm : ¬ (index (x ++ 13 :: 10 :: joinL (y :: r)) sepL == -1) = true := by rw [hi, beq_iff_eq]; omega
      rw [countFrom, joinL, if_neg hm, hi]
      have hd : (x ++ 13 :: 10 :: joinL (y :: r)).drop ((x.length : Int).toNat + sepL.length) = joinL (y :: r) := by
        rw [show (x.length : Int).toNat + sepL.length = x.length + 2 by simp [sepL], List.drop_append]
        simp
      rw [hd, ih]
      simp; omega
theorem splitK_join : ∀ (L : List (List UInt8)) (k : Nat), L ≠ [] → (∀ x ∈ L, (13 : UInt8) ∉ x) → L.length - 1 ≤ k → splitK sepL 0 k (joinL L) = L
  | [], _, h, _, _ => absurd rfl h
  | [x], k, _, hx, _ => by
    cases k with
    | zero => rfl
    | succ k => rw [splitK, joinL, index_miss sepL 13 rfl x (hx x (by simp))]; rfl
  | x :: y :: r, k, _, hx, hk => by
    cases k with
    | zero => simp at hk
    | succ k =>
      have ih := splitK_join (y :: r) k (by simp) (fun z hz => hx z (List.mem_cons_of_mem _ hz)) (by simp at hk ⊢; omega)
      have hi := index_line x (joinL (y :: r)) (hx x (by simp))
      have hm : ¬ (index (x ++ 13 :: 10 :: joinL (y :: r)) sepL == -1) = true := by rw [hi, beq_iff_eq]; omega
      rw [splitK, joinL, if_neg hm, hi]
      have hd : (x ++ 13 :: 10 :: joinL (y :: r)).drop ((x.length : Int).toNat + sepL.length) = joinL (y :: r) := by
        rw [show (x.length : Int).toNat + sepL.length = x.length + 2 by simp [sepL], List.drop_append]
        simp
      rw [hd, ih]
      simp
theorem joinL_length : ∀ L : List (List UInt8), L.length ≤ (joinL L).length + 1
  | [] => by simp
  | [x] => by simp
  | x :: y :: r => by
    have := joinL_length (y :: r)
    rw [joinL]
    simp at this ⊢
    omega
theorem split_join (L : List (List UInt8)) (h0 : L ≠ []) (h1 : ∀ x ∈ L, (13 : UInt8) ∉ x) : split (joinL L) sepL = L := by
  have hl := joinL_length L
  have hc : count (joinL L) sepL = L.length - 1 := count_join L _ h1 (by omega)
  rw [split, hc]
  exact splitK_join L _ h0 h1 (Nat.le_refl _)
def hline (x : List UInt8 × List UInt8) : List UInt8 := x.1 ++ colonL ++ x.2
theorem join_heads (z : List UInt8) : ∀ (l : PL) (x : List UInt8), joinL (x :: (l.map hline ++ [z])) = x ++ sepL ++ headsL l ++ z
  | [], x => by simp [joinL, headsL, sepL]
  | (n, v) :: r, x => by
    rw [List.map_cons, List.cons_append, joinL, join_heads z r (hline (n, v)), headsL]
    simp [hline, sepL, List.append_assoc]
theorem text_join (st : Int) (word : List UInt8) (l : PL) (b : List UInt8) :
    textL st word l b = joinL ((verL ++ (itoa st ++ [32] ++ word)) :: (l.map hline ++ [clenL ++ itoa b.length])) ++ sep2 ++ b := by
  rw [join_heads, textL]
  simp [List.append_assoc]
/-- What a response's parts are when it is right. -/
structure RightP (st : Int) (word : List UInt8) (l : PL) : Prop where
  lo : 100 ≤ st
  hi : st ≤ 999
  word : (13 : UInt8) ∉ word
  name : ∀ x ∈ l, (13 : UInt8) ∉ x.1 ∧ (58 : UInt8) ∉ x.1
  value : ∀ x ∈ l, (13 : UInt8) ∉ x.2
theorem itoa3 (st : Int) (h1 : 100 ≤ st) (h2 : st ≤ 999) : itoa st = [UInt8.ofNat (48 + st.toNat / 100), UInt8.ofNat (48 + st.toNat / 10 % 10), UInt8.ofNat (48 + st.toNat % 10)] := by
  rw [itoa, if_neg (by omega)]
  obtain ⟨n, rfl⟩ := Int.eq_ofNat_of_zero_le (show 0 ≤ st by omega)
  have g1 : 100 ≤ n := by omega
  have g2 : n ≤ 999 := by omega
  rw [Int.toNat_natCast, decDigits, dif_neg (by omega), decDigits, dif_neg (by omega), decDigits, dif_pos (by omega)]
  rw [show n / 10 / 10 = n / 100 by omega]
  rfl
theorem decDigits_no13 (u : Nat) : (13 : UInt8) ∉ decDigits u := by
  induction u using Nat.strongRecOn with
  | _ u ih =>
    have hd : ∀ d : Nat, d < 10 → (13 : UInt8) ≠ UInt8.ofNat (48 + d) := fun d hd => (show ∀ d : Fin 10, (13 : UInt8) ≠ UInt8.ofNat (48 + d.val) from by decide) ⟨d, hd⟩
    rw [decDigits]
    split
    · rename_i h
      simpa using hd u h
    · rename_i h
      rw [List.mem_append, not_or]
      exact ⟨ih _ (by omega), by simpa using hd (u % 10) (by omega)⟩
theorem itoa_no13 (n : Int) : (13 : UInt8) ∉ itoa n := by
  rw [itoa]
  split
  · rw [List.mem_cons, not_or]
    exact ⟨by decide, decDigits_no13 _⟩
  · exact decDigits_no13 _
theorem atoi3 : ∀ n : Fin 900, atoi [UInt8.ofNat (48 + (n.val + 100) / 100), UInt8.ofNat (48 + (n.val + 100) / 10 % 10), UInt8.ofNat (48 + (n.val + 100) % 10)] = some ((n.val + 100 : Nat) : Int) := by decide +kernel
theorem atoi_itoa (st : Int) (h1 : 100 ≤ st) (h2 : st ≤ 999) : atoi (itoa st) = some st ∧ (itoa st).length = 3 := by
  rw [itoa3 st h1 h2]
  refine ⟨?_, rfl⟩
  have := atoi3 ⟨st.toNat - 100, by omega⟩
  have e : st.toNat - 100 + 100 = st.toNat := by omega
  rw [e] at this
  rw [this]
  congr 1
  omega
theorem lines_heads : ∀ (l : PL), (∀ x ∈ l, (58 : UInt8) ∉ x.1) → linesP (l.map hline) = some l
  | [], _ => rfl
  | (n, v) :: r, h => by
    have hc : cut (hline (n, v)) colonL = (n, v, true) := cut_colon n v (h (n, v) (by simp))
    rw [List.map_cons, linesP, hc, if_pos rfl, lines_heads r (fun x hx => h x (List.mem_cons_of_mem _ hx))]
    rfl
/-- What is read of a right response's bytes is the response. -/
theorem head_text (st : Int) (word : List UInt8) (l : PL) (b : List UInt8) (h : RightP st word l) : headP (textL st word l b) = some (st, l, b) := by
  obtain ⟨ha, hl3⟩ := atoi_itoa st h.lo h.hi
  have h0 : ((verL ++ (itoa st ++ [32] ++ word)) :: (l.map hline ++ [clenL ++ itoa b.length])) ≠ [] := by simp
  have h1 : ∀ x ∈ ((verL ++ (itoa st ++ [32] ++ word)) :: (l.map hline ++ [clenL ++ itoa b.length])), (13 : UInt8) ∉ x := by
    intro x hx
    have n1 : (13 : UInt8) ∉ verL := by decide
    have n2 : (13 : UInt8) ∉ clenL := by decide
    have n3 : (13 : UInt8) ∉ colonL := by decide
    rw [List.mem_cons, List.mem_append] at hx
    rcases hx with rfl | hx | hx
    · simp only [List.mem_append, not_or]
      exact ⟨n1, ⟨itoa_no13 _, by decide⟩, h.word⟩
    · obtain ⟨y, hy, rfl⟩ := List.mem_map.1 hx
      simp only [hline, List.mem_append, not_or]
      exact ⟨⟨(h.name y hy).1, n3⟩, h.value y hy⟩
    · obtain rfl := List.mem_singleton.1 hx
      simp only [List.mem_append, not_or]
      exact ⟨n2, itoa_no13 _⟩
  have h2 : ∀ x ∈ ((verL ++ (itoa st ++ [32] ++ word)) :: (l.map hline ++ [clenL ++ itoa b.length])).tail, x ≠ [] := by
    intro x hx
    rw [List.tail_cons, List.mem_append] at hx
    rcases hx with hx | hx
    · obtain ⟨y, hy, rfl⟩ := List.mem_map.1 hx
      simp [hline, colonL]
    · obtain rfl := List.mem_singleton.1 hx
      simp [clenL]
  have hc := cut_join _ b h0 h1 h2
  have hs := split_join _ h0 h1
  rw [headP, text_join, hc]
  dsimp only
  rw [hs]
  have hp : hasPrefix (verL ++ (itoa st ++ [32] ++ word)) verL = true := by
    rw [hasPrefix, List.isPrefixOf_iff_prefix]; exact ⟨_, rfl⟩
  have ht : trimPrefix (verL ++ (itoa st ++ [32] ++ word)) verL = itoa st ++ [32] ++ word := by
    rw [trimPrefix, if_pos hp, List.drop_left]
  have ht3 : (itoa st ++ [32] ++ word).take 3 = itoa st := by
    rw [List.append_assoc, ← hl3, List.take_left]
  have hd : (((verL ++ (itoa st ++ [32] ++ word)) :: (l.map hline ++ [clenL ++ itoa b.length])).drop 1).dropLast = l.map hline := by
    rw [List.drop_succ_cons, List.drop_zero, List.dropLast_concat]
  rw [if_pos ⟨rfl, by exact hp, by simp, by rw [List.headD_cons, ht]; simp [hl3]⟩, List.headD_cons, ht, ht3, ha, hd, lines_heads l (fun x hx => (h.name x hx).2)]
  rfl
end Go.Proofs.YtpjjkejppgehaaaGreatDoor
