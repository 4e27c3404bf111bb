/- A right stamp's text is parsed to it. -/
import Derived.Test.YtlgdenihddkjaaaDoorTx
import Derived.Test.YtlgdenihddkjaaaDoorFb
namespace Go.Proofs.YtlgdenihddkjaaaDoor
set_option linter.unusedSimpArgs false
set_option linter.unusedVariables false
open Go.RowKit Go.Lib

theorem bs_get (l : List UInt8) (k : Nat) (h : k < (bs l).size) : (bs l)[k]'h = l[k]'(by simpa [bs_size] using h) := by
  rfl
theorem one_at (P R : List UInt8) (c : UInt8) (of : ByteArray) (k : Nat) (hk : k = P.length) (hc : ¬ Lib.indexByte of.data.toList c < 0) : oneS (bs (P ++ c :: R)) of k = .ok c := by
  subst hk
  unfold oneS
  have h : P.length < (bs (P ++ c :: R)).size := by rw [bs_size]; simp
  have e : (bs (P ++ c :: R))[P.length]'h = c := by rw [bs_get]; simp
  rw [dif_pos h, e, if_neg hc]
theorem peek_at (P R : List UInt8) (c : UInt8) (k : Nat) (hk : k = P.length) : peekS (bs (P ++ c :: R)) k = .ok c := by
  subst hk
  unfold peekS
  have h : P.length < (bs (P ++ c :: R)).size := by rw [bs_size]; simp
  have e : (bs (P ++ c :: R))[P.length]'h = c := by rw [bs_get]; simp
  rw [dif_pos h, e]
/-- The value of digits. -/
def valL (a : Nat) (l : List UInt8) : Nat := l.foldl (fun a b => 10 * a + (b.toNat - 48)) a
theorem num_at : ∀ (l P R : List UInt8) (a k : Nat), k = P.length → (∀ b ∈ l, 48 ≤ b.toNat ∧ b.toNat ≤ 57) → numS (bs (P ++ l ++ R)) l.length a k = .ok (valL a l)
  | [], P, R, a, k, hk, hd => rfl
  | b :: t, P, R, a, k, hk, hd => by
    have hb := hd b (by simp)
    rw [List.length_cons, numS]
    have e : P ++ b :: t ++ R = P ++ b :: (t ++ R) := by simp
    rw [e, one_at P (t ++ R) b digs k hk (of_digit b hb.1 hb.2)]
    have e2 : P ++ b :: (t ++ R) = (P ++ [b]) ++ t ++ R := by simp
    rw [e2]
    exact num_at t (P ++ [b]) R (10 * a + (b.toNat - 48)) (k + 1) (by simp; omega) (fun x hx => hd x (by simp [hx]))
theorem dig_nat : ∀ r : Fin 10, (UInt8.ofNat (48 + r.val)).toNat = 48 + r.val := by decide
theorem dig_n (n : Nat) : (UInt8.ofNat (48 + n % 10)).toNat = 48 + n % 10 := dig_nat ⟨n % 10, by omega⟩
theorem dg_digits : ∀ w n, ∀ b ∈ dg w n, 48 ≤ b.toNat ∧ b.toNat ≤ 57
  | 0, n, b, hb => by simp [dg] at hb
  | w + 1, n, b, hb => by
    rw [dg] at hb
    rcases List.mem_append.1 hb with h | h
    · exact dg_digits w _ b h
    · simp at h
      subst h
      have := dig_n n
      have e : UInt8.ofNat (48 + n % 10) = 48 + UInt8.ofNat (n % 10) ∨ True := Or.inr trivial
      first
        | (rw [this]; omega)
        | (have e2 := dig_n n; simp at e2 ⊢; omega)
theorem val_dg : ∀ w n, n < 10 ^ w → valL 0 (dg w n) = n
  | 0, n, h => by simp at h; subst h; rfl
  | w + 1, n, h => by
    have ih := val_dg w (n / 10) (by rw [Nat.pow_succ] at h; omega)
    unfold valL at ih ⊢
    rw [dg, List.foldl_append, ih]
    simp only [List.foldl_cons, List.foldl_nil]
    rw [dig_n]
    omega
theorem take_at (w n : Nat) (P R : List UInt8) (c : UInt8) (be : ByteArray) (k : Nat) (hk : k = P.length) (hn : n < 10 ^ w) (hbe : be.size ≠ 0) (hc : ¬ Lib.indexByte be.data.toList c < 0) :
    takeS (bs (P ++ dg w n ++ c :: R)) w be k = .ok (n, c, k + w + 1) := by
  unfold takeS
  have h := num_at (dg w n) P (c :: R) 0 k hk (dg_digits w n)
  rw [dg_length, val_dg w n hn] at h
  rw [h]
  simp only [if_neg hbe]
  rw [one_at (P ++ dg w n) R c be (k + w) (by simp [dg_length]; omega) hc]
theorem take_end (w n : Nat) (P R : List UInt8) (k : Nat) (hk : k = P.length) (hn : n < 10 ^ w) : takeS (bs (P ++ dg w n ++ R)) w ⟨#[]⟩ k = .ok (n, 0, k + w) := by
  unfold takeS
  have h := num_at (dg w n) P R 0 k hk (dg_digits w n)
  rw [dg_length, val_dg w n hn] at h
  rw [h]
  rfl

/-- What the digits behind the dot say. -/
def wt : Nat → List UInt8 → Nat
  | _, [] => 0
  | u, b :: r => (b.toNat - 48) * (u / 10) + wt (u / 10) r
theorem fracL_at : ∀ (ds P : List UInt8) (m acc u k : Nat), k = P.length → (∀ b ∈ ds, 48 ≤ b.toNat ∧ b.toNat ≤ 57) → ds.length ≤ m → fracL (bs (P ++ ds ++ [90])) m u acc k = .ok (acc + wt u ds, k + ds.length)
  | [], P, 0, acc, u, k, hk, hd, hm => rfl
  | [], P, m + 1, acc, u, k, hk, hd, hm => by
    have e : P ++ [] ++ [90] = P ++ (90 : UInt8) :: [] := by simp
    rw [fracL, e, peek_at P [] 90 k hk]
    rfl
  | b :: r, P, 0, acc, u, k, hk, hd, hm => by simp at hm
  | b :: r, P, m + 1, acc, u, k, hk, hd, hm => by
    have hb := hd b (by simp)
    have e : P ++ b :: r ++ [90] = P ++ b :: (r ++ [90]) := by simp
    rw [fracL, e, peek_at P (r ++ [90]) b k hk]
    simp only []
    rw [if_neg (by omega)]
    have e2 : P ++ b :: (r ++ [90]) = (P ++ [b]) ++ r ++ [90] := by simp
    rw [e2, fracL_at r (P ++ [b]) m _ (u / 10) (k + 1) (by simp; omega) (fun x hx => hd x (by simp [hx])) (by simpa using hm)]
    simp only [wt, List.length_cons]
    congr 2
    · omega
    · omega
theorem wt_scale : ∀ (l : List UInt8) (w : Nat), l.length ≤ w → wt (10 ^ (w + 1)) l = 10 * wt (10 ^ w) l
  | [], w, _ => rfl
  | b :: r, 0, h => by simp at h
  | b :: r, w + 1, h => by
    have e1 : 10 ^ (w + 1 + 1) / 10 = 10 ^ (w + 1) := by rw [Nat.pow_succ]; omega
    have e2 : 10 ^ (w + 1) / 10 = 10 ^ w := by rw [Nat.pow_succ]; omega
    rw [wt, wt, e1, e2, wt_scale r w (by simpa using h), Nat.pow_succ]
    rw [Nat.mul_add, Nat.mul_comm (10 ^ w) 10, Nat.mul_left_comm]
theorem wt_snoc : ∀ (l : List UInt8) (b : UInt8), wt (10 ^ (l.length + 1)) (l ++ [b]) = wt (10 ^ (l.length + 1)) l + (b.toNat - 48)
  | [], b => by simp [wt]
  | x :: r, b => by
    have e1 : 10 ^ ((x :: r).length + 1) / 10 = 10 ^ (r.length + 1) := by rw [List.length_cons, Nat.pow_succ]; omega
    rw [List.cons_append, wt, wt, e1, wt_snoc r b]
    omega
theorem wt_dg : ∀ w n, n < 10 ^ w → wt (10 ^ w) (dg w n) = n
  | 0, n, h => by simp at h; subst h; rfl
  | w + 1, n, h => by
    have hl := dg_length w (n / 10)
    have h1 := wt_snoc (dg w (n / 10)) (UInt8.ofNat (48 + n % 10))
    rw [hl] at h1
    rw [dg, h1, wt_scale _ w (by omega), wt_dg w (n / 10) (by rw [Nat.pow_succ] at h; omega), dig_n]
    omega
theorem wt_zeros : ∀ (l : List UInt8) (u j : Nat), wt u (l ++ List.replicate j 48) = wt u l
  | [], u, 0 => rfl
  | [], u, j + 1 => by
    have := wt_zeros [] (u / 10) j
    rw [List.nil_append] at this ⊢
    have h2 : wt u (48 :: List.replicate j 48) = ((48 : UInt8).toNat - 48) * (u / 10) + wt (u / 10) (List.replicate j 48) := rfl
    rw [List.replicate_succ, h2, this]
    simp [wt]
  | b :: r, u, j => by rw [List.cons_append, wt, wt, wt_zeros r]
theorem trim_is : ∀ (n : Nat) (l : List UInt8), l.length = n → ∃ j, l = trimRightB l 48 ++ List.replicate j 48
  | 0, l, h => ⟨0, by have : l = [] := List.length_eq_zero_iff.1 h; subst this; rfl⟩
  | n + 1, l, h => by
    obtain ⟨t, b, rfl⟩ : ∃ t b, l = t ++ [b] := ⟨l.dropLast, l.getLast (by intro h'; simp [h'] at h), (List.dropLast_concat_getLast _).symm⟩
    by_cases hb : b = 48
    · subst hb
      obtain ⟨j, hj⟩ := trim_is n t (by simpa using h)
      refine ⟨j + 1, ?_⟩
      rw [trim_end, List.replicate_succ', ← List.append_assoc, ← hj]
    · exact ⟨0, by rw [trim_stay _ _ hb]; simp⟩
/-- The fraction is read back. -/
theorem frac_at (P : List UInt8) (n k : Nat) (hk : k = P.length) (hn : n < 1000000000) : ∃ k', fracS (bs (P ++ fracT n ++ [90])) k = .ok (n, k') ∧ k' = k + (fracT n).length := by
  by_cases h0 : 0 < n
  · obtain ⟨j, hj⟩ := trim_is 9 (dg 9 n) (dg_length 9 n)
    have hw := wt_dg 9 n (by omega)
    rw [hj, wt_zeros] at hw
    have hlen : (trimRightB (dg 9 n) 48).length ≤ 9 := by have := congrArg List.length hj; rw [dg_length] at this; simp at this; omega
    have hdig : ∀ b ∈ trimRightB (dg 9 n) 48, 48 ≤ b.toNat ∧ b.toNat ≤ 57 := fun b hb => dg_digits 9 n b (by rw [hj]; exact List.mem_append_left _ hb)
    have hne : trimRightB (dg 9 n) 48 ≠ [] := by
      intro h
      rw [h] at hj
      obtain ⟨b, hb, hx⟩ := dg_some 9 n h0 (by omega)
      rw [hj] at hb
      simp at hb
      exact hx hb.2
    have hT : fracT n = 46 :: trimRightB (dg 9 n) 48 := by unfold fracT; rw [if_pos h0]; rfl
    rw [hT]
    generalize trimRightB (dg 9 n) 48 = t at hw hlen hdig hne
    obtain ⟨b, r, rfl⟩ : ∃ b r, t = b :: r := by cases t with | nil => exact (hne rfl).elim | cons b r => exact ⟨b, r, rfl⟩
    have hb := hdig b (by simp)
    have e : P ++ 46 :: b :: r ++ [90] = P ++ (46 : UInt8) :: (b :: (r ++ [90])) := by simp
    have e2 : P ++ (46 : UInt8) :: (b :: (r ++ [90])) = (P ++ [46]) ++ b :: (r ++ [90]) := by simp
    have e3 : (P ++ [46]) ++ b :: (r ++ [90]) = (P ++ [46, b]) ++ r ++ [90] := by simp
    refine ⟨_, ?_, rfl⟩
    unfold fracS
    rw [e, peek_at P _ 46 k hk]
    simp only []
    rw [if_pos (by decide), e2, one_at (P ++ [46]) (r ++ [90]) b digs (k + 1) (by simp; omega) (of_digit b hb.1 hb.2)]
    simp only []
    rw [e3, fracL_at r (P ++ [46, b]) 8 _ 100000000 (k + 2) (by simp; omega) (fun x hx => hdig x (by simp [hx])) (by simp at hlen; omega)]
    have hwt : wt (10 ^ 9) (b :: r) = (b.toNat - 48) * 100000000 + wt 100000000 r := rfl
    rw [hwt] at hw
    rw [hw]
    simp
    omega
  · have hT : fracT n = [] := by unfold fracT; rw [if_neg h0]
    have hz : n = 0 := by omega
    rw [hT]
    refine ⟨k, ?_, by simp⟩
    unfold fracS
    have e : P ++ [] ++ [90] = P ++ (90 : UInt8) :: [] := by simp
    rw [e, peek_at P [] 90 k hk]
    simp only []
    rw [if_neg (by decide), hz]

theorem read_text (y m d c n : Nat) (hy : y < 10000) (hm : m < 100) (hd : d < 100) (hc : c < 86400) (hn : n < 1000000000) :
    readS (bs (textL y m d c n)) = .ok ([⟨y, 0, 0, 9999⟩, ⟨m, 5, 1, 12⟩, ⟨d, 8, 1, 31⟩, ⟨c / 3600, 11, 0, 23⟩, ⟨c / 60 % 60, 14, 0, 59⟩, ⟨c % 60, 17, 0, 59⟩], 90, n) := by
  generalize hh : c / 3600 = h
  generalize hmi : c / 60 % 60 = mi
  generalize hse : c % 60 = se
  have L0 : textL y m d c n = [] ++ dg 4 y ++ 45 :: (dg 2 m ++ 45 :: (dg 2 d ++ 84 :: (dg 2 h ++ 58 :: (dg 2 mi ++ 58 :: (dg 2 se ++ (fracT n ++ [90])))))) := by
    subst hh hmi hse; simp [textL, dayL, clockL]
  have L1 : textL y m d c n = (dg 4 y ++ [45]) ++ dg 2 m ++ 45 :: (dg 2 d ++ 84 :: (dg 2 h ++ 58 :: (dg 2 mi ++ 58 :: (dg 2 se ++ (fracT n ++ [90]))))) := by rw [L0]; simp
  have L2 : textL y m d c n = (dg 4 y ++ [45] ++ dg 2 m ++ [45]) ++ dg 2 d ++ 84 :: (dg 2 h ++ 58 :: (dg 2 mi ++ 58 :: (dg 2 se ++ (fracT n ++ [90])))) := by rw [L0]; simp
  have L3 : textL y m d c n = (dg 4 y ++ [45] ++ dg 2 m ++ [45] ++ dg 2 d ++ [84]) ++ dg 2 h ++ 58 :: (dg 2 mi ++ 58 :: (dg 2 se ++ (fracT n ++ [90]))) := by rw [L0]; simp
  have L4 : textL y m d c n = (dg 4 y ++ [45] ++ dg 2 m ++ [45] ++ dg 2 d ++ [84] ++ dg 2 h ++ [58]) ++ dg 2 mi ++ 58 :: (dg 2 se ++ (fracT n ++ [90])) := by rw [L0]; simp
  have L5 : textL y m d c n = (dg 4 y ++ [45] ++ dg 2 m ++ [45] ++ dg 2 d ++ [84] ++ dg 2 h ++ [58] ++ dg 2 mi ++ [58]) ++ dg 2 se ++ (fracT n ++ [90]) := by rw [L0]; simp
  have L6 : textL y m d c n = (dg 4 y ++ [45] ++ dg 2 m ++ [45] ++ dg 2 d ++ [84] ++ dg 2 h ++ [58] ++ dg 2 mi ++ [58] ++ dg 2 se) ++ fracT n ++ [90] := by rw [L0]; simp
  have L7 : textL y m d c n = (dg 4 y ++ [45] ++ dg 2 m ++ [45] ++ dg 2 d ++ [84] ++ dg 2 h ++ [58] ++ dg 2 mi ++ [58] ++ dg 2 se ++ fracT n) ++ (90 : UInt8) :: [] := by rw [L0]; simp
  have t0 : takeS (bs (textL y m d c n)) 4 ⟨#[45]⟩ 0 = .ok (y, 45, 5) := by rw [L0]; exact take_at 4 y [] _ 45 ⟨#[45]⟩ 0 rfl (by omega) (by decide) (by decide)
  have t1 : takeS (bs (textL y m d c n)) 2 ⟨#[45]⟩ 5 = .ok (m, 45, 8) := by rw [L1]; exact take_at 2 m _ _ 45 ⟨#[45]⟩ 5 (by simp [dg_length]) (by omega) (by decide) (by decide)
  have t2 : takeS (bs (textL y m d c n)) 2 ⟨#[84, 116]⟩ 8 = .ok (d, 84, 11) := by rw [L2]; exact take_at 2 d _ _ 84 ⟨#[84, 116]⟩ 8 (by simp [dg_length]) (by omega) (by decide) (by decide)
  have t3 : takeS (bs (textL y m d c n)) 2 ⟨#[58]⟩ 11 = .ok (h, 58, 14) := by rw [L3]; exact take_at 2 h _ _ 58 ⟨#[58]⟩ 11 (by simp [dg_length]) (by omega) (by decide) (by decide)
  have t4 : takeS (bs (textL y m d c n)) 2 ⟨#[58]⟩ 14 = .ok (mi, 58, 17) := by rw [L4]; exact take_at 2 mi _ _ 58 ⟨#[58]⟩ 14 (by simp [dg_length]) (by omega) (by decide) (by decide)
  have t5 : takeS (bs (textL y m d c n)) 2 ⟨#[]⟩ 17 = .ok (se, 0, 19) := by rw [L5]; exact take_end 2 se _ _ 17 (by simp [dg_length]) (by omega)
  obtain ⟨k', t6, hk'⟩ : ∃ k', fracS (bs (textL y m d c n)) 19 = .ok (n, k') ∧ k' = 19 + (fracT n).length := by rw [L6]; exact frac_at _ n 19 (by simp [dg_length]) hn
  have t7 : oneS (bs (textL y m d c n)) signs k' = .ok 90 := by rw [L7]; exact one_at _ [] 90 signs k' (by simp [dg_length]; omega) (by decide)
  have hsz : (bs (textL y m d c n)).size = k' + 1 := by rw [bs_size, L7]; simp [dg_length]; omega
  unfold readS
  rw [t0]
  simp only [t1, t2, t3, t4, t5, t6, t7]
  rw [if_neg (by decide), if_neg (by omega)]
/-- A right stamp's text is parsed to it. -/
theorem parse_text (sec : Int) (y m d c n : Nat) (h1 : -62167219200 ≤ sec) (h2 : sec ≤ 253402300799) (hn : n < 1000000000) (hc : (c : Int) = sec - sec / 86400 * 86400)
    (g : Cal.good y m d) (hd : Cal.days y m d = sec / 86400) : parseR (bs (textL y m d c n)) = (sec, (n : Int), none) := by
  obtain ⟨g1, g2, g3, g4, g5, g6⟩ := g
  have hl := Cal.len_le (y : Int) (m : Int)
  unfold parseR
  rw [read_text y m d c n (by omega) (by omega) (by omega) (by omega) hn]
  simp only []
  unfold madeR
  have e1 : madeL (madeH [⟨y, 0, 0, 9999⟩, ⟨m, 5, 1, 12⟩, ⟨d, 8, 1, 31⟩, ⟨c / 3600, 11, 0, 23⟩, ⟨c / 60 % 60, 14, 0, 59⟩, ⟨c % 60, 17, 0, 59⟩]) 0 [⟨y, 0, 0, 9999⟩, ⟨m, 5, 1, 12⟩, ⟨d, 8, 1, 31⟩, ⟨c / 3600, 11, 0, 23⟩, ⟨c / 60 % 60, 14, 0, 59⟩, ⟨c % 60, 17, 0, 59⟩] = none := by
    simp only [madeL, madeH]
    rw [if_neg (by simp; omega), if_neg (by simp; omega), if_neg (by simp; omega), if_neg (by simp; omega), if_neg (by simp; omega), if_neg (by simp; omega)]
  have e2 : madeT [⟨y, 0, 0, 9999⟩, ⟨m, 5, 1, 12⟩, ⟨d, 8, 1, 31⟩, ⟨c / 3600, 11, 0, 23⟩, ⟨c / 60 % 60, 14, 0, 59⟩, ⟨c % 60, 17, 0, 59⟩] 90 = sec := by
    unfold madeT
    simp only []
    rw [hd]
    omega
  have e3 : checkS sec n = none := by unfold checkS; rw [if_neg (by omega)]
  rw [e1]
  simp only [e2, e3]
end Go.Proofs.YtlgdenihddkjaaaDoor
