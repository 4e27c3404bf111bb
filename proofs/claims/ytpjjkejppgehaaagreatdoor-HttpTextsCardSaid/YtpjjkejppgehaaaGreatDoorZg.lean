/- HttpTexts in plain Lean: what the document's printed functions tell is what http.Check and http.Text tell. -/
import Derived.Test.YtpjjkejppgehaaaGreatDoorPRfx2
import Derived.Test.YtpjjkejppgehaaaGreatDoorPRfx3
import Derived.Test.YtpjjkejppgehaaaGreatDoorPRfx4
import Derived.Test.YtpjjkejppgehaaaGreatDoorPRfx5
import Derived.Test.YtpjjkejppgehaaaGreatDoorZb
import Derived.Test.YtpjjkejppgehaaaGreatDoorTx
namespace Go.Proofs.YtpjjkejppgehaaaGreatDoor
set_option linter.unusedSimpArgs false
set_option linter.unusedVariables false
open Go.RowKit Go.Lib Go.Proofs.YtpjjkejppgehaaaGreatDoorW.PrintWords Go.Proofs.YtpjjkejppgehaaaGreatDoor.PRf

def toS (l : HL) : List S43 := l.map fun x => ⟨x.1, x.2⟩
theorem toS_len (l : HL) : (toS l).length = l.length := by unfold toS; rw [List.length_map]
theorem rd_S (l : HL) (i : Nat) (h : i < l.length) : rd_T43 (toS l) (i : Int) = ⟨l[i].1, l[i].2⟩ := by
  unfold rd_T43 toS
  rw [Int.toNat_natCast, List.getD_eq_getElem?_getD, List.getElem?_map, List.getElem?_eq_getElem h]
  rfl
theorem w64 (n : Int) (h1 : -9223372036854775808 ≤ n) (h2 : n ≤ 9223372036854775807) : wrap64 n = n := by unfold wrap64; omega
theorem w64s (i m : Nat) (h : i < m) (hm : m ≤ 9223372036854775807) : wrap64 ((i : Int) + 1) = ((i + 1 : Nat) : Int) := by rw [w64 _ (by omega) (by omega)]; rfl
theorem bt_nat (s : ByteArray) (i : Nat) (h : i < s.size) : bt s (i : Int) = (s[i].toNat : Int) := by
  unfold bt
  rw [dif_pos (by rw [Int.toNat_natCast]; exact h)]
  rfl
theorem toL (s : ByteArray) : s.toList = s.data.toList := Lib.toList_data s
theorem toL_nil (s : ByteArray) : s.toList = [] ↔ s.size = 0 := by rw [toL, ← szL, List.length_eq_zero_iff]
/-! great -/
def bigH (x : ByteArray × ByteArray) : Bool := decide (100 < x.1.size + x.2.size)
def greatB (l : HL) (b : ByteArray) : Bool := decide (70 < l.length) || decide (500 < b.size) || l.any bigH
theorem great_loop (st : Int) (l : HL) (b : ByteArray) (hx : ∀ j (hj : j < l.length), l[j].1.size ≤ 140737488355328 ∧ l[j].2.size ≤ 140737488355328) (hl : l.length ≤ 1000000) : ∀ (d i k : Nat), i + d = l.length → d < k → eponymlaw27_great.l0 k (i : Int) st (toS l) b = some ((l.drop i).any bigH)
  | 0, i, k, h, hk => by
    obtain ⟨k, rfl⟩ : ∃ m, k = m + 1 := ⟨k - 1, by omega⟩
    rw [eponymlaw27_great.l0, toS_len, if_neg (by omega), List.drop_eq_nil_of_le (by omega)]
    rfl
  | d + 1, i, k, h, hk => by
    obtain ⟨k, rfl⟩ : ∃ m, k = m + 1 := ⟨k - 1, by omega⟩
    have hi : i < l.length := by omega
    have ih := great_loop st l b hx hl d (i + 1) k (by omega) (by omega)
    have := hx i hi
    rw [eponymlaw27_great.l0, toS_len, if_pos (by omega), if_pos (by omega), rd_S l i hi, w64s i _ hi (by omega), ih, List.drop_eq_getElem_cons hi, List.any_cons]
    dsimp only
    rw [w64 _ (by omega) (by omega)]
    by_cases hb : 100 < l[i].1.size + l[i].2.size
    · rw [if_pos (by omega)]
      have : bigH l[i] = true := decide_eq_true hb
      rw [this]; rfl
    · rw [if_neg (by omega)]
      have : bigH l[i] = false := decide_eq_false hb
      rw [this]; rfl
theorem great_f (st : Int) (l : HL) (b : ByteArray) (hx : ∀ j (hj : j < l.length), l[j].1.size ≤ 140737488355328 ∧ l[j].2.size ≤ 140737488355328) : eponymlaw27_great.f 73 st (toS l) b = some (greatB l b) := by
  unfold eponymlaw27_great.f greatB
  rw [toS_len]
  by_cases h1 : 70 < l.length
  · rw [if_pos (by omega), eponymlaw27_great.j0, if_pos rfl, decide_eq_true h1]; rfl
  · rw [if_neg (by omega), eponymlaw27_great.j0, decide_eq_false h1]
    by_cases h2 : 500 < b.size
    · rw [if_pos (by rw [decide_eq_true_eq]; omega), decide_eq_true h2]; rfl
    · rw [if_neg (by rw [decide_eq_true_eq]; omega), decide_eq_false h2]
      have := great_loop st l b hx (by omega) l.length 0 72 (by omega) (by omega)
      rw [show ((0 : Nat) : Int) = 0 from rfl] at this
      rw [this, List.drop_zero]; rfl
/-! SameHeaders -/
theorem same_loop (l m : HL) (hlm : l.length = m.length) (hl : l.length ≤ 1000000) : ∀ (d i k : Nat), i + d = l.length → d < k → (∀ j (h1 : j < l.length) (h2 : j < m.length), l[j] = m[j]) → eponymref27_SameHeaders.l0 k (toS l) (toS m) (i : Int) = some true
  | 0, i, k, h, hk, _ => by
    obtain ⟨k, rfl⟩ : ∃ m, k = m + 1 := ⟨k - 1, by omega⟩
    rw [eponymref27_SameHeaders.l0, toS_len, if_neg (by omega)]
  | d + 1, i, k, h, hk, he => by
    obtain ⟨k, rfl⟩ : ∃ m, k = m + 1 := ⟨k - 1, by omega⟩
    have hi : i < l.length := by omega
    have ih := same_loop l m hlm hl d (i + 1) k (by omega) (by omega) he
    have e := he i hi (by omega)
    rw [eponymref27_SameHeaders.l0, toS_len, toS_len, if_pos (by omega), if_pos (by omega), if_pos (by omega), rd_S l i hi, rd_S m i (by omega), w64s i _ hi (by omega), ih, e]
    simp
theorem same_f (l : HL) (hl : l.length ≤ 1000000) : eponymref27_SameHeaders.f (l.length + 1) (toS l) (toS l) = some true := by
  unfold eponymref27_SameHeaders.f
  rw [if_pos rfl]
  have := same_loop l l rfl hl l.length 0 (l.length + 1) (by omega) (by omega) (fun _ _ _ => rfl)
  rw [show ((0 : Nat) : Int) = 0 from rfl] at this
  exact this
/-! the sorts -/
theorem token_all : ∀ c : Fin 256, eponymref27_Token.f 20 (c.val : Int) = some (isSort 1 (UInt8.ofNat c.val)) := by decide +kernel
theorem token_ev (c : UInt8) : Ev (fun k => eponymref27_Token.f k (c.toNat : Int)) (isSort 1 c) := by
  refine Ev.of (fun k => eponymref27_Token.mono _ k) (k := 20) ?_
  have h := token_all ⟨c.toNat, c.toNat_lt⟩
  dsimp only at h
  rw [UInt8.ofNat_toNat] at h
  exact h
theorem value_all : ∀ c : Fin 256, eponymref27_value.f (c.val : Int) = some (isSort 2 (UInt8.ofNat c.val)) := by decide +kernel
theorem value_f (c : UInt8) : eponymref27_value.f (c.toNat : Int) = some (isSort 2 c) := by
  have h := value_all ⟨c.toNat, c.toNat_lt⟩
  dsimp only at h
  rw [UInt8.ofNat_toNat] at h
  exact h
/-! Small -/
theorem small_loop (s : ByteArray) (hs : s.size ≤ 1000000) : ∀ (d i k : Nat), i + d = s.size → d < k → eponymref27_Small.l0 k s (smallT s i) (i : Int) = some (smallB s)
  | 0, i, k, h, hk => by
    obtain ⟨k, rfl⟩ : ∃ m, k = m + 1 := ⟨k - 1, by omega⟩
    obtain rfl : i = s.size := by omega
    rw [eponymref27_Small.l0, if_neg (by omega), smallT_all]
  | d + 1, i, k, h, hk => by
    obtain ⟨k, rfl⟩ : ∃ m, k = m + 1 := ⟨k - 1, by omega⟩
    have hi : i < s.size := by omega
    have ih := small_loop s hs d (i + 1) k (by omega) (by omega)
    have hz := smallT_size s i
    have hn := smallT_next s i hi
    have h1 : (strOfNums [(smallN s[i].toNat : Int)]).size = 1 := rfl
    have hlt := s[i].toNat_lt
    rw [eponymref27_Small.l0, if_pos (by omega), if_pos (by omega), bt_nat s i hi, w64s i _ hi (by omega)]
    by_cases h65 : 65 ≤ s[i].toNat
    · rw [if_pos (by omega)]
      by_cases h90 : s[i].toNat ≤ 90
      · have e : ((s[i].toNat : Int) + 32) % 256 = (smallN s[i].toNat : Int) := by unfold smallN; rw [if_pos ⟨h65, h90⟩]; omega
        rw [if_pos (by omega), e, Option.bind_some, if_pos (by omega), hn, ih]
      · have e : (s[i].toNat : Int) = (smallN s[i].toNat : Int) := by unfold smallN; rw [if_neg (by omega)]
        rw [if_neg (by omega)]
        rw [e, Option.bind_some, if_pos (by omega), hn, ih]
    · have e : (s[i].toNat : Int) = (smallN s[i].toNat : Int) := by unfold smallN; rw [if_neg (by omega)]
      rw [if_neg (by omega), e, Option.bind_some, if_pos (by omega), hn, ih]
theorem small_ev (s : ByteArray) (hs : s.size ≤ 1000000) : Ev (fun k => eponymref27_Small.f k s) (smallB s) := by
  refine Ev.of (fun k => eponymref27_Small.mono _ k) (k := s.size + 1) ?_
  have := small_loop s hs s.size 0 (s.size + 1) (by omega) (by omega)
  rw [smallT_0, show ((0 : Nat) : Int) = 0 from rfl] at this
  exact this
/-! Check -/
def tokF (n : ByteArray) (i : Nat) : Bool := (n.data.toList.drop i).all (isSort 1)
theorem tokF_cons (n : ByteArray) (i : Nat) (h : i < n.size) : tokF n i = (isSort 1 n[i] && tokF n (i + 1)) := by
  unfold tokF
  rw [List.drop_eq_getElem_cons (by rw [szL]; exact h), List.all_cons]
  rfl
theorem l1_ev (x4 : Int) (st : Int) (L : List S43) (b n v : ByteArray) (r : Int × Int) (hn : n.size ≤ 1000000) : ∀ (d i : Nat) (x6 : Bool), i + d = n.size → Ev (fun k => eponymref27_Check.l2 k x4 (x6 && tokF n i) 0 st L b n v) r → Ev (fun k => eponymref27_Check.l1 k x4 x6 (i : Int) st L b n v) r
  | 0, i, x6, h, hr => by
    obtain rfl : i = n.size := by omega
    refine Ev.step (fun k => by rw [eponymref27_Check.l1, if_neg (by omega)]) ?_
    have e : tokF n n.size = true := by unfold tokF; rw [List.drop_eq_nil_of_le (by rw [szL]; exact Nat.le_refl _)]; rfl
    rw [e, Bool.and_true] at hr
    exact hr
  | d + 1, i, x6, h, hr => by
    have hi : i < n.size := by omega
    rw [tokF_cons n i hi] at hr
    cases x6 with
    | true =>
      refine Ev.step (f := fun k => (eponymref27_Token.f k (n[i].toNat : Int)).bind fun t => eponymref27_Check.l1 k x4 t ((i + 1 : Nat) : Int) st L b n v) (fun k => by rw [eponymref27_Check.l1, if_pos (by omega), if_pos rfl, if_pos (by omega), bt_nat n i hi, w64s i _ hi (by omega)]) ?_
      refine Ev.bind (token_ev _) (l1_ev x4 st L b n v r hn d (i + 1) _ (by omega) ?_)
      rw [Bool.true_and] at hr
      exact hr
    | false =>
      refine Ev.step (f := fun k => eponymref27_Check.l1 k x4 false ((i + 1 : Nat) : Int) st L b n v) (fun k => by rw [eponymref27_Check.l1, if_pos (by omega), if_neg (by simp), w64s i _ hi (by omega)]) ?_
      refine l1_ev x4 st L b n v r hn d (i + 1) _ (by omega) ?_
      rw [Bool.false_and] at hr ⊢
      exact hr
def vOk (v : ByteArray) (i : Nat) (c : UInt8) : Bool := isSort 2 c && (if i = 0 ∨ i + 1 = v.size then c != 32 && c != 9 else true)
def vFrom (v : ByteArray) : Nat → Nat → Bool
  | _, 0 => true
  | i, d + 1 => (if h : i < v.size then vOk v i v[i] else true) && vFrom v (i + 1) d
theorem l2_ev (x4 : Int) (st : Int) (L : List S43) (b n v : ByteArray) (r : Int × Int) (hv : v.size ≤ 1000000) : ∀ (d i : Nat) (x6 : Bool), i + d = v.size → Ev (fun k => if (x6 && vFrom v i d) = true then eponymref27_Check.l0 k (wrap64 (x4 + 1)) st L b else some (x4, 5)) r → Ev (fun k => eponymref27_Check.l2 k x4 x6 (i : Int) st L b n v) r
  | 0, i, x6, h, hr => by
    obtain rfl : i = v.size := by omega
    refine Ev.step (fun k => by rw [eponymref27_Check.l2, if_neg (by omega)]) ?_
    rw [vFrom, Bool.and_true] at hr
    exact hr
  | d + 1, i, x6, h, hr => by
    have hi : i < v.size := by omega
    rw [vFrom, dif_pos hi] at hr
    have hn := fun y hy => l2_ev x4 st L b n v r hv d (i + 1) y (by omega) hy
    have hw : wrap64 ((v.size : Int) - 1) = (v.size : Int) - 1 := w64 _ (by omega) (by omega)
    cases x6 with
    | true =>
      rw [Bool.true_and] at hr
      refine Ev.step (f := fun k => eponymref27_Check.l2 k x4 (vOk v i v[i]) ((i + 1 : Nat) : Int) st L b n v) (fun k => ?_) (hn _ hr)
      rw [eponymref27_Check.l2, if_pos (by omega), if_pos rfl, if_pos (by omega), bt_nat v i hi, w64s i _ hi (by omega), value_f, Option.bind_some, hw]
      unfold vOk
      have h32 : ((v[i].toNat : Int) = 32) ↔ v[i] = 32 := by
        constructor
        · intro e; exact UInt8.toNat_inj.1 (by show v[i].toNat = 32; omega)
        · intro e; rw [e]; rfl
      have h9 : ((v[i].toNat : Int) != 9) = (v[i] != 9) := by
        rw [Bool.eq_iff_iff, bne_iff_ne, bne_iff_ne]
        constructor
        · intro h e; apply h; rw [e]; rfl
        · intro h e; apply h; exact UInt8.toNat_inj.1 (by show v[i].toNat = 9; omega)
      by_cases e0 : i = 0
      · rw [if_pos (by omega), if_pos (Or.inl e0), h9]
        cases hs : isSort 2 v[i] with
        | true =>
          rw [if_pos rfl]
          by_cases h3 : v[i] = 32
          · rw [if_pos (h32.2 h3), show (v[i] != 32) = false by rw [h3]; rfl]; rfl
          · rw [if_neg (fun e => h3 (h32.1 e)), show (v[i] != 32) = true from bne_iff_ne.2 h3]; rfl
        | false => rw [if_neg (by simp)]; rfl
      · rw [if_neg (by omega)]
        by_cases e1 : i + 1 = v.size
        · rw [if_pos (by omega), if_pos (Or.inr e1), h9]
          cases hs : isSort 2 v[i] with
          | true =>
            rw [if_pos rfl]
            by_cases h3 : v[i] = 32
            · rw [if_pos (h32.2 h3), show (v[i] != 32) = false by rw [h3]; rfl]; rfl
            · rw [if_neg (fun e => h3 (h32.1 e)), show (v[i] != 32) = true from bne_iff_ne.2 h3]; rfl
          | false => rw [if_neg (by simp)]; rfl
        · rw [if_neg (by omega), if_neg (by omega), Bool.and_true]
    | false =>
      rw [Bool.false_and] at hr
      refine Ev.step (f := fun k => eponymref27_Check.l2 k x4 false ((i + 1 : Nat) : Int) st L b n v) (fun k => ?_) (hn false (by rw [Bool.false_and]; exact hr))
      rw [eponymref27_Check.l2, if_pos (by omega), if_neg (by simp), w64s i _ hi (by omega)]
      split
      · rfl
      · split <;> rfl
theorem vFrom_all (v : ByteArray) : ∀ (d i : Nat), i + d = v.size → vFrom v i d = true → ∀ j (hj : j < v.size), i ≤ j → vOk v j v[j] = true
  | 0, i, h, _, j, hj, hij => by omega
  | d + 1, i, h, hv, j, hj, hij => by
    rw [vFrom, dif_pos (by omega), Bool.and_eq_true] at hv
    by_cases e : j = i
    · subst e; exact hv.1
    · exact vFrom_all v d (i + 1) (by omega) hv.2 j hj (by omega)
theorem vFrom_of (v : ByteArray) : ∀ (d i : Nat), i + d = v.size → (∀ j (hj : j < v.size), i ≤ j → vOk v j v[j] = true) → vFrom v i d = true
  | 0, i, h, _ => rfl
  | d + 1, i, h, hv => by
    rw [vFrom, dif_pos (by omega), hv i (by omega) (Nat.le_refl _), vFrom_of v d (i + 1) (by omega) (fun j hj hij => hv j hj (by omega))]
    rfl
end Go.Proofs.YtpjjkejppgehaaaGreatDoor

/- HttpTexts in plain Lean: the document's Check and Text. -/
namespace Go.Proofs.YtpjjkejppgehaaaGreatDoor
set_option linter.unusedSimpArgs false
set_option linter.unusedVariables false
open Go.RowKit Go.Lib Go.Proofs.YtpjjkejppgehaaaGreatDoorW.PrintWords Go.Proofs.YtpjjkejppgehaaaGreatDoor.PRf

theorem dropWhile_eq (p : UInt8 → Bool) (l : List UInt8) : l.dropWhile p = l ↔ ∀ b, l.head? = some b → p b = false := by
  cases l with
  | nil => simp
  | cons a r =>
    constructor
    · intro h b hb
      obtain rfl : a = b := by simpa using hb
      refine Classical.byContradiction fun hp => ?_
      have hp : p a = true := by simpa using hp
      rw [List.dropWhile_cons_of_pos hp] at h
      have h2 : (r.dropWhile p).length ≤ r.length := (List.dropWhile_sublist p).length_le
      rw [h] at h2
      simp at h2
      omega
    · intro h
      exact List.dropWhile_cons_of_neg (by rw [h a rfl]; simp)
theorem trimS_eq (l cs : List UInt8) : trimS l cs = l ↔ (∀ b, l.head? = some b → cs.contains b = false) ∧ (∀ b, l.getLast? = some b → cs.contains b = false) := by
  have hr : trimRightS l cs = l ↔ ∀ b, l.getLast? = some b → cs.contains b = false := by
    unfold trimRightS
    rw [List.reverse_eq_iff, dropWhile_eq, List.head?_reverse]
  constructor
  · intro h
    have h1 : (trimLeftS (trimRightS l cs) cs).length ≤ (trimRightS l cs).length := (List.dropWhile_sublist _).length_le
    have h2 : trimRightS l cs = l := by
      have hs : (trimRightS l cs).Sublist l := by
        unfold trimRightS
        have := (List.dropWhile_sublist (cs.contains ·) (l := l.reverse)).reverse
        rwa [List.reverse_reverse] at this
      apply hs.eq_of_length_le
      show l.length ≤ _
      have : (trimS l cs).length ≤ (trimRightS l cs).length := h1
      rw [h] at this
      exact this
    refine ⟨?_, hr.1 h2⟩
    have h3 : trimLeftS l cs = l := by rw [trimS, h2] at h; exact h
    exact (dropWhile_eq _ _).1 h3
  · rintro ⟨h1, h2⟩
    rw [trimS, hr.2 h2]
    exact (dropWhile_eq _ _).2 h1
theorem contains2 (c : UInt8) : ([32, 9] : List UInt8).contains c = false ↔ (c != 32 && c != 9) = true := by
  simp
theorem vFrom_eq (v : ByteArray) : vFrom v 0 v.size = (allS 2 v && ((trimB v).toList == v.toList)) := by
  rw [Bool.eq_iff_iff, Bool.and_eq_true, beq_iff_eq, toL, toL, show (trimB v).data.toList = trimS v.data.toList [32, 9] from rfl, trimS_eq]
  have hlast : ∀ h : 0 < v.size, v.data.toList.getLast? = some (v[v.size - 1]'(by omega)) := fun h => by
    rw [List.getLast?_eq_getElem?, szL, List.getElem?_eq_getElem (by rw [szL]; omega)]
    rfl
  have hhead : ∀ h : 0 < v.size, v.data.toList.head? = some (v[0]'h) := fun h => by
    rw [List.head?_eq_getElem?, List.getElem?_eq_getElem (by rw [szL]; omega)]
    rfl
  have hnil : v.size = 0 → v.data.toList = [] := fun h => by rw [← List.length_eq_zero_iff, szL, h]
  constructor
  · intro h
    have ha := vFrom_all v v.size 0 (by omega) h
    refine ⟨all_from 2 v fun i hi => ?_, ?_, ?_⟩
    · have := ha i hi (Nat.zero_le _)
      unfold vOk at this
      rw [Bool.and_eq_true] at this
      exact this.1
    · intro b hb
      by_cases h0 : v.size = 0
      · rw [hnil h0] at hb; cases hb
      · rw [hhead (by omega)] at hb
        obtain rfl := Option.some.inj hb
        have := ha 0 (by omega) (Nat.le_refl _)
        unfold vOk at this
        rw [if_pos (Or.inl rfl), Bool.and_eq_true] at this
        exact (contains2 _).2 this.2
    · intro b hb
      by_cases h0 : v.size = 0
      · rw [hnil h0] at hb; cases hb
      · rw [hlast (by omega)] at hb
        obtain rfl := Option.some.inj hb
        have := ha (v.size - 1) (by omega) (by omega)
        unfold vOk at this
        rw [if_pos (Or.inr (by omega)), Bool.and_eq_true] at this
        exact (contains2 _).2 this.2
  · rintro ⟨h1, h2, h3⟩
    refine vFrom_of v v.size 0 (by omega) fun j hj _ => ?_
    have hs : isSort 2 v[j] = true := by
      unfold allS at h1
      rw [List.all_eq_true] at h1
      exact h1 _ (List.getElem_mem (by rw [szL]; exact hj))
    unfold vOk
    rw [hs, Bool.true_and]
    split
    · rename_i h
      rcases h with rfl | h
      · exact (contains2 _).1 (h2 _ (hhead (by omega)))
      · have := h3 _ (hlast (by omega))
        have e : v.size - 1 = j := by omega
        simp only [e] at this
        exact (contains2 _).1 this
    · rfl
def errP : Option (Int × Nat) → Int × Int
  | none => (0, 0)
  | some (a, c) => (a, (c : Int))
def cl0 : List UInt8 := [99, 111, 110, 116, 101, 110, 116, 45, 108, 101, 110, 103, 116, 104]
theorem j2_ev (x4 : Int) (x6 : Bool) (st : Int) (L : List S43) (b n v : ByteArray) (r : Int × Int) (hn : n.size ≤ 1000000) (hv : v.size ≤ 1000000)
    (h : Ev (fun k => if ((x6 && allS 1 n) && (allS 2 v && ((trimB v).toList == v.toList))) = true then eponymref27_Check.l0 k (wrap64 (x4 + 1)) st L b else some (x4, 5)) r) :
    Ev (fun k => eponymref27_Check.j2 k x4 x6 st L b n v) r := by
  refine Ev.step (f := fun k => eponymref27_Check.l1 k x4 x6 ((0 : Nat) : Int) st L b n v) (fun k => by rw [eponymref27_Check.j2]; rfl) ?_
  refine l1_ev x4 st L b n v r hn n.size 0 x6 (by omega) ?_
  refine l2_ev x4 st L b n v r hv v.size 0 _ (by omega) ?_
  rw [vFrom_eq]
  have e : tokF n 0 = allS 1 n := by unfold tokF allS; rw [List.drop_zero]
  rw [e]
  exact h
theorem check_loop_ev (st : Int) (l : HL) (b : ByteArray) (hl : l.length ≤ 1000000) (hx : ∀ j (hj : j < l.length), l[j].1.size ≤ 1000000 ∧ l[j].2.size ≤ 1000000) : ∀ (d i : Nat), i + d = l.length →
    Ev (fun k => eponymref27_Check.l0 k (i : Int) st (toS l) b) (errP (match firstBad (l.drop i) i with | some j => some ((j : Int), 5) | none => if 4194304 < b.size then some (0, 3) else none))
  | 0, i, h => by
    rw [List.drop_eq_nil_of_le (by omega)]
    refine Ev.step (f := fun k => some (if 4194304 < b.size then ((0 : Int), (3 : Int)) else (0, 0))) (fun k => ?_) ?_
    · rw [eponymref27_Check.l0, toS_len, if_neg (by omega)]
      by_cases hb : 4194304 < b.size
      · rw [if_pos (by omega), if_pos hb]
      · rw [if_neg (by omega), if_neg hb]
    · rw [firstBad]
      by_cases hb : 4194304 < b.size
      · rw [if_pos hb]; dsimp only; rw [if_pos hb]; exact Ev.now _
      · rw [if_neg hb]; dsimp only; rw [if_neg hb]; exact Ev.now _
  | d + 1, i, h => by
    have hi : i < l.length := by omega
    have ih := check_loop_ev st l b hl hx d (i + 1) (by omega)
    obtain ⟨x1, x2⟩ := hx i hi
    have hd : l.drop i = l[i] :: l.drop (i + 1) := List.drop_eq_getElem_cons hi
    have hrd := rd_S l i hi
    rw [hd]
    generalize l[i] = y at hrd x1 x2
    obtain ⟨n, v⟩ := y
    dsimp only at hrd x1 x2
    rw [firstBad]
    have hw := w64s i _ hi (by omega)
    have key : ∀ x6 : Bool, badH n v = !((x6 && allS 1 n) && (allS 2 v && ((trimB v).toList == v.toList))) →
        Ev (fun k => eponymref27_Check.j2 k (i : Int) x6 st (toS l) b n v) (errP (match (if badH n v then some i else firstBad (l.drop (i + 1)) (i + 1)) with | some j => some ((j : Int), 5) | none => if 4194304 < b.size then some (0, 3) else none)) := by
      intro x6 hb
      refine j2_ev _ _ _ _ _ _ _ _ (by omega) (by omega) ?_
      rw [hw]
      cases hq : ((x6 && allS 1 n) && (allS 2 v && ((trimB v).toList == v.toList))) with
      | true =>
        rw [hq] at hb
        rw [hb]
        exact ih
      | false =>
        rw [hq] at hb
        rw [hb]
        exact Ev.now _
    by_cases hn : n.toList = []
    · refine Ev.step (f := fun k => eponymref27_Check.j2 k (i : Int) false st (toS l) b n v) (fun k => ?_) (key false ?_)
      · rw [eponymref27_Check.l0, toS_len, if_pos (by omega), if_pos (by omega), hrd, if_pos hn]
      · simp [badH, hn]
    · refine Ev.step (f := fun k => (eponymref27_Small.f k n).bind fun t => eponymref27_Check.j2 k (i : Int) (t.toList != cl0) st (toS l) b n v) (fun k => ?_) (Ev.bind (small_ev n (by omega)) (key _ ?_))
      · rw [eponymref27_Check.l0, toS_len, if_pos (by omega), if_pos (by omega), hrd, if_neg hn]
        rfl
      · have e1 : (n.toList == []) = false := by rw [beq_eq_false_iff_ne]; exact hn
        have e2 : clB.toList = cl0 := by kernel_rfl
        unfold badH
        rw [e1, e2, bne]
        rw [bne]
        cases allS 1 n <;> cases allS 2 v <;> cases ((trimB v).toList == v.toList) <;> cases ((smallB n).toList == cl0) <;> rfl
theorem check_ev (st : Int) (l : HL) (b : ByteArray) (hl : l.length ≤ 1000000) (hx : ∀ j (hj : j < l.length), l[j].1.size ≤ 1000000 ∧ l[j].2.size ≤ 1000000) : Ev (fun k => eponymref27_Check.f k st (toS l) b) (errP (checkP st l b)) := by
  have h0 := check_loop_ev st l b hl hx l.length 0 (by omega)
  rw [List.drop_zero, show ((0 : Nat) : Int) = 0 from rfl] at h0
  unfold checkP
  have hj : ∀ x, x = (decide (st < 100 ∨ 999 < st)) → Ev (fun k => eponymref27_Check.j0 k x st (toS l) b) (errP (if st < 100 ∨ 999 < st then some (0, 4) else if 64 ≤ l.length then some (0, 18) else match firstBad l 0 with | some i => some ((i : Int), 5) | none => if 4194304 < b.size then some (0, 3) else none)) := by
    rintro x rfl
    by_cases h1 : st < 100 ∨ 999 < st
    · rw [if_pos h1, decide_eq_true h1]
      exact Ev.step (fun k => by rw [eponymref27_Check.j0, if_pos rfl]; rfl) (Ev.now _)
    · rw [if_neg h1, decide_eq_false h1]
      by_cases h2 : 64 ≤ l.length
      · rw [if_pos h2]
        exact Ev.step (fun k => by rw [eponymref27_Check.j0, if_neg (by simp), toS_len, if_pos (by omega)]; rfl) (Ev.now _)
      · rw [if_neg h2]
        exact Ev.step (fun k => by rw [eponymref27_Check.j0, if_neg (by simp), toS_len, if_neg (by omega)]) h0
  by_cases h1 : st < 100
  · exact Ev.congr (fun k => by unfold eponymref27_Check.f; rw [if_pos h1]) (hj true (by rw [decide_eq_true (Or.inl h1)]))
  · refine Ev.congr (fun k => by unfold eponymref27_Check.f; rw [if_neg h1]) (hj (decide (st > 999)) ?_)
    rw [decide_eq_decide]
    omega
end Go.Proofs.YtpjjkejppgehaaaGreatDoor

/- HttpTexts in plain Lean: the document's Text of a right response. -/
namespace Go.Proofs.YtpjjkejppgehaaaGreatDoor
set_option linter.unusedSimpArgs false
set_option linter.unusedVariables false
open Go.RowKit Go.Lib Go.Proofs.YtpjjkejppgehaaaGreatDoorW.PrintWords Go.Proofs.YtpjjkejppgehaaaGreatDoor.PRf

theorem dec_small (n : Nat) (h : n < 10) : decDigits n = [UInt8.ofNat (48 + n)] := by rw [decDigits]; simp [h]
theorem dec_big (n : Nat) (h : ¬ n < 10) : decDigits n = decDigits (n / 10) ++ [UInt8.ofNat (48 + n % 10)] := by
  conv => lhs; rw [decDigits]
  simp [h]
def bs (l : List UInt8) : ByteArray := ⟨l.toArray⟩
theorem bs_size (l : List UInt8) : (bs l).size = l.length := szM l
theorem bs_append (a b : List UInt8) : bs a ++ bs b = bs (a ++ b) := by
  apply ByteArray.ext
  simp [bs]
theorem bs_data (s : ByteArray) : s = bs s.data.toList := by
  apply ByteArray.ext
  simp [bs]
theorem bs_app (x : List UInt8) (b : ByteArray) : bs x ++ b = bs (x ++ b.data.toList) := by
  apply ByteArray.ext
  simp [bs]
theorem bs_dl (l : List UInt8) : (bs l).data.toList = l := by simp [bs]
theorem nums_dig (n : Nat) : strOfNums [(((n : Int) % 10) % 256 + 48) % 256] = bs [UInt8.ofNat (48 + n % 10)] := by
  have h : ((((n : Int) % 10) % 256 + 48) % 256).toNat = 48 + n % 10 := by omega
  unfold strOfNums bs
  simp only [List.map_cons, List.map_nil, h]
theorem bs_toList_cons (a : UInt8) (l : List UInt8) : ((bs (a :: l)).toList == ([] : List UInt8)) = false := by
  rw [Lib.toList_data]; simp [bs]
theorem bs_toList_nil : ((bs []).toList == ([] : List UInt8)) = true := by
  rw [Lib.toList_data]; rfl
theorem ref_step (n k : Nat) (l : List UInt8) (hl : l.length ≤ 1000) (hn : n ≤ 9223372036854775807) : eponymref03_Digits.j1 (k + 1) n 10 (bs l) true = eponymref03_Digits.l0 k ((n / 10 : Nat) : Int) 10 (bs (UInt8.ofNat (48 + n % 10) :: l)) := by
  have e1 : Int.tmod (n : Int) 10 = (n : Int) % 10 := Int.tmod_eq_emod_of_nonneg (by omega)
  have e2 : Int.tdiv (n : Int) 10 = (n : Int) / 10 := Int.tdiv_eq_ediv_of_nonneg (by omega)
  rw [eponymref03_Digits.j1, if_pos rfl, if_neg (by omega), e1, e2, if_pos (by omega), Option.bind_some, nums_dig]
  rw [if_pos (by rw [bs_size, bs_size]; simp; omega), bs_append]
  have e3 : wrap64 ((n : Int) / 10) = ((n / 10 : Nat) : Int) := by unfold wrap64; omega
  rw [e3]
  rfl
theorem ref_loop : ∀ (n k : Nat) (l : List UInt8), l ≠ [] → n ≤ 9000000000 → (if n = 0 then l.length ≤ 900 else (decDigits n).length + l.length ≤ 900) → 2 * n + 2 ≤ k → eponymref03_Digits.l0 k n 10 (bs l) = some (bs (if n = 0 then l else decDigits n ++ l)) := by
  intro n
  induction n using Nat.strongRecOn with
  | ind n ih =>
    intro k l hl h1 h2 hk
    obtain ⟨k, rfl⟩ : ∃ j, k = j + 1 := ⟨k - 1, by omega⟩
    rw [eponymref03_Digits.l0]
    obtain ⟨a, t, rfl⟩ : ∃ a t, l = a :: t := by cases l with | nil => exact (hl rfl).elim | cons a t => exact ⟨a, t, rfl⟩
    by_cases h0 : n = 0
    · subst h0
      rw [if_neg (by simp), bs_toList_cons]
      obtain ⟨k, rfl⟩ : ∃ j, k = j + 1 := ⟨k - 1, by omega⟩
      rw [eponymref03_Digits.j1, if_neg (by simp)]
      simp
    · rw [if_pos (by omega)]
      obtain ⟨k, rfl⟩ : ∃ j, k = j + 1 := ⟨k - 1, by omega⟩
      rw [if_neg h0] at h2
      rw [ref_step n k (a :: t) (by omega) (by omega)]
      have hd : n / 10 < n := by omega
      by_cases hs : n < 10
      · have e0 : n / 10 = 0 := by omega
        rw [dec_small n hs] at h2 ⊢
        have hz := ih (n / 10) hd k (UInt8.ofNat (48 + n % 10) :: a :: t) (by simp) (by omega) (by rw [if_pos e0]; simp at h2 ⊢; omega) (by omega)
        rw [hz, if_pos e0, if_neg h0]
        have e2 : n % 10 = n := by omega
        rw [e2]
        rfl
      · rw [dec_big n hs] at h2 ⊢
        have hz := ih (n / 10) hd k (UInt8.ofNat (48 + n % 10) :: a :: t) (by simp) (by omega) (by rw [if_neg (by omega)]; simp at h2 ⊢; omega) (by omega)
        rw [hz, if_neg (by omega), if_neg h0]
        simp
/-- eponymref03.Digits, at ten. -/
theorem refDigits_f (n k : Nat) (h1 : n ≤ 9000000000) (h2 : (decDigits n).length ≤ 800) (hk : 2 * n + 4 ≤ k) : eponymref03_Digits.f k n 10 = some (bs (decDigits n)) := by
  unfold eponymref03_Digits.f
  show eponymref03_Digits.l0 k n 10 (bs []) = _
  obtain ⟨k, rfl⟩ : ∃ j, k = j + 2 := ⟨k - 2, by omega⟩
  rw [eponymref03_Digits.l0]
  have hd : eponymref03_Digits.j1 (k + 1) (n : Int) 10 (bs []) true = some (bs (decDigits n)) := by
    rw [ref_step n k [] (by simp) (by omega)]
    by_cases hs : n < 10
    · have e0 : n / 10 = 0 := by omega
      rw [ref_loop (n / 10) k _ (by simp) (by omega) (by rw [if_pos e0]; simp) (by omega), if_pos e0, dec_small n hs]
      have e2 : n % 10 = n := by omega
      rw [e2]
    · rw [dec_big n hs] at h2
      rw [ref_loop (n / 10) k _ (by simp) (by omega) (by rw [if_neg (by omega)]; simp at h2 ⊢; omega) (by omega), if_neg (by omega), dec_big n hs]
  by_cases h0 : (n : Int) > 0
  · rw [if_pos h0, hd]
  · rw [if_neg h0, bs_toList_nil]
    exact hd
theorem digits_ev (n : Int) (h0 : 0 ≤ n) (h1 : n ≤ 100000) : Ev (fun k => eponymref03_Digits.f k n 10) (bs (itoa n)) := by
  obtain ⟨m, rfl⟩ := Int.eq_ofNat_of_zero_le h0
  have hl := itoa_len (m : Int) (by omega) (by omega)
  have e : itoa (m : Int) = decDigits m := by rw [itoa, if_neg (by omega), Int.toNat_natCast]
  rw [e] at hl ⊢
  exact Ev.of (fun k => eponymref03_Digits.mono _ _ k) (refDigits_f m (2 * m + 4) (by omega) (by omega) (Nat.le_refl _))
theorem rtext_loop (st : Int) (l : HL) (b : ByteArray) (h1 : 100 ≤ st) (h2 : st ≤ 999) (hl : l.length < 64) (hx : ∀ j (hj : j < l.length), l[j].1.size ≤ 20000 ∧ l[j].2.size ≤ 20000) (hb : b.size ≤ 20000) : ∀ (d i : Nat), i + d = l.length →
    Ev (fun k => eponymref27_Text.l0 k (bs (preL st l i)) (i : Int) st (toS l) b) (bs (textL st (wordB st).data.toList (plainH l) b.data.toList))
  | 0, i, h => by
    obtain rfl : i = l.length := by omega
    have hp := preL_len st l l.length h1 h2 hl hx
    have hi := itoa_len (b.size : Int) (by omega) (by omega)
    refine Ev.step (f := fun k => (eponymref03_Digits.f k (b.size : Int) 10).bind fun t => if (bs (preL st l l.length ++ clenL) ).size + t.size ≤ 9223372036854775807 then (if (bs (preL st l l.length ++ clenL) ++ t).size + 4 ≤ 9223372036854775807 then (if (bs (preL st l l.length ++ clenL) ++ t ++ bs [13, 10, 13, 10]).size + b.size ≤ 9223372036854775807 then some (bs (preL st l l.length ++ clenL) ++ t ++ bs [13, 10, 13, 10] ++ b) else none) else none) else none) (fun k => ?_) ?_
    · rw [eponymref27_Text.l0, toS_len, if_neg (by omega), if_pos (by rw [bs_size]; omega), ← bs_append]
      rfl
    · refine Ev.bind (digits_ev _ (by omega) (by omega)) ?_
      have hc : clenL.length = 16 := rfl
      rw [bs_append, bs_append]
      simp only [bs_size, List.length_append, List.length_cons, List.length_nil]
      rw [if_pos (by omega), if_pos (by omega), if_pos (by omega)]
      have e : bs (preL st l l.length ++ clenL ++ itoa (b.size : Int) ++ [13, 10, 13, 10]) ++ b = bs (textL st (wordB st).data.toList (plainH l) b.data.toList) := by
        rw [textL_eq]
        rw [bs_app]
        simp [List.append_assoc, sepL]
      rw [e]
      exact Ev.now _
  | d + 1, i, h => by
    have hi : i < l.length := by omega
    have ih := rtext_loop st l b h1 h2 hl hx hb d (i + 1) (by omega)
    have hp := preL_len st l i h1 h2 hl hx
    obtain ⟨x1, x2⟩ := hx i hi
    have hrd := rd_S l i hi
    have hsn := preL_snoc st l i hi
    refine Ev.step (fun k => ?_) ih
    rw [eponymref27_Text.l0, toS_len, if_pos (by omega), if_pos (by omega), hrd, w64s i _ hi (by omega)]
    dsimp only
    rw [show (⟨#[58, 32]⟩ : ByteArray) = bs colonL from rfl, show (⟨#[13, 10]⟩ : ByteArray) = bs sepL from rfl]
    generalize l[i] = y at x1 x2 hsn
    obtain ⟨n, v⟩ := y
    dsimp only at x1 x2 hsn ⊢
    have hc : colonL.length = 2 := rfl
    have hs : sepL.length = 2 := rfl
    have zn := szL n
    have zv := szL v
    rw [if_pos (by rw [bs_size]; omega)]
    rw [bs_data n, bs_data v, bs_append, bs_append, bs_append, bs_append]
    simp only [bs_size, List.length_append]
    rw [if_pos (by omega), if_pos (by omega), if_pos (by omega), hsn]
    simp [List.append_assoc, bs]
theorem text_ev (st : Int) (l : HL) (b : ByteArray) (hx : ∀ j (hj : j < l.length), l[j].1.size ≤ 20000 ∧ l[j].2.size ≤ 20000) (hb : b.size ≤ 20000) (hc : checkP st l b = none) : Ev (fun k => eponymref27_Text.f k st (toS l) b) (textB st l b) := by
  have hst : 100 ≤ st ∧ st ≤ 999 ∧ l.length < 64 := by
    unfold checkP at hc
    split at hc
    · cases hc
    · split at hc
      · cases hc
      · omega
  obtain ⟨s1, s2, s3⟩ := hst
  have h0 := rtext_loop st l b s1 s2 s3 hx hb l.length 0 (by omega)
  rw [textB, if_pos hc]
  have zi := itoa_len st (by omega) (by omega)
  have zw := wordB_len st
  unfold eponymref27_Text.f
  refine Ev.bind (digits_ev st (by omega) (by omega)) ?_
  have hv : verL.length = 9 := rfl
  rw [show (⟨#[72, 84, 84, 80, 47, 49, 46, 49, 32]⟩ : ByteArray) = bs verL from rfl, show (⟨#[32]⟩ : ByteArray) = bs [32] from rfl, show (⟨#[13, 10]⟩ : ByteArray) = bs sepL from rfl]
  have hw : eponymref27_Word.f st = some (wordB st) := by unfold eponymref27_Word.f; rw [if_pos (by omega)]
  have zw2 := szL (wordB st)
  have hs2 : sepL.length = 2 := rfl
  simp only [hw, Option.bind_some, bs_app, bs_dl, bs_size, List.length_append, List.length_singleton]
  have e : bs (verL ++ itoa st ++ [32] ++ (wordB st).data.toList ++ sepL) = bs (preL st l 0) := by
    unfold preL firstL
    rw [List.take_zero, headsL, List.append_nil]
  exact Ev.congr (f := fun k => eponymref27_Text.l0 k (bs (preL st l 0)) 0 st (toS l) b) (fun k => by rw [if_pos (by omega), if_pos (by omega), if_pos (by omega), if_pos (by omega), e]) h0
end Go.Proofs.YtpjjkejppgehaaaGreatDoor
