/- RangesJoins: the law, plain. -/
import Derived.Test.YthggpjiabklekaaGreatDoorPRgx6
import Derived.Test.YthggpjiabklekaaGreatDoorPn
namespace Go.Proofs.YthggpjiabklekaaGreatDoor.PRg
set_option linter.unusedSimpArgs false
set_option linter.unusedVariables false
open Go.RowKit Go.Proofs.YthggpjiabklekaaGreatDoorW.PrintWords Go.Proofs.YthggpjiabklekaaGreatDoorW.PrintLast Go.Proofs.YthggpjiabklekaaGreatDoorW.PrintMore

theorem w64_in (x : Int) (h1 : -9000000000000000000 ≤ x) (h2 : x ≤ 9000000000000000000) : wrap64 x = x := by rw [wrap64]; omega
theorem w32_in (x : Int) (h1 : -2000000000 ≤ x) (h2 : x ≤ 2000000000) : wrap32 x = x := by rw [wrap32]; omega
theorem rgs_cons (x : S28) (l : List S28) : rgs (x :: l) = (x.f0, x.f1, x.f2) :: rgs l := rfl
theorem may_bounds {x : S28} (h : mayB (x.f0, x.f1, x.f2) = true) : 0 ≤ x.f0 ∧ x.f0 ≤ x.f1 ∧ x.f1 ≤ 1114111 ∧ 0 ≤ x.f2 ∧ x.f2 ≤ 999999 := of_decide_eq_true h
theorem may_of {x : S28} (h : 0 ≤ x.f0 ∧ x.f0 ≤ x.f1 ∧ x.f1 ≤ 1114111 ∧ 0 ≤ x.f2 ∧ x.f2 ≤ 999999) : mayB (x.f0, x.f1, x.f2) = true := decide_eq_true h
theorem tab_low {la la' : Int} (hl : la' ≤ la) : ∀ {p : List Rg}, Tab la p → Tab la' p
  | [], _ => trivial
  | x :: r, h => ⟨h.1, by have := h.2.1; omega, h.2.2⟩
/-- The joined ranges, from the one that stands last. -/
def joinR : S28 → List S28 → List S28
  | y, [] => [y]
  | y, x :: r => if y.f2 = x.f2 ∧ y.f1 + 1 = x.f0 then joinR ⟨y.f0, x.f1, y.f2⟩ r else y :: joinR x r
def joinA : List S28 → List S28
  | [] => []
  | x :: r => joinR x r
theorem joinR_head : ∀ (r : List S28) (y : S28), ∃ h t, joinR y r = h :: t ∧ h.f0 = y.f0 ∧ h.f2 = y.f2
  | [], y => ⟨y, [], rfl, rfl, rfl⟩
  | x :: r, y => by
    rw [joinR]
    split
    · obtain ⟨h, t, e, h1, h2⟩ := joinR_head r ⟨y.f0, x.f1, y.f2⟩
      exact ⟨h, t, e, h1, h2⟩
    · exact ⟨y, _, rfl, rfl, rfl⟩
theorem joinR_len : ∀ (r : List S28) (y : S28), (joinR y r).length ≤ r.length + 1
  | [], y => Nat.le_refl _
  | x :: r, y => by
    rw [joinR]
    split
    · have := joinR_len r ⟨y.f0, x.f1, y.f2⟩; simp; omega
    · have := joinR_len r x; simp; omega
theorem joinR_tab : ∀ (r : List S28) (y : S28) (la : Int), Tab la (rgs (y :: r)) → Tab la (rgs (joinR y r))
  | [], y, la, h => h
  | x :: r, y, la, h => by
    obtain ⟨h1, h2, h3, h4, h5⟩ := h
    rw [joinR]
    split
    · rename_i hc
      refine joinR_tab r ⟨y.f0, x.f1, y.f2⟩ la ⟨?_, h2, h5⟩
      have b1 := may_bounds h1
      have b2 := may_bounds h3
      exact may_of (x := ⟨y.f0, x.f1, y.f2⟩) ⟨b1.1, by show y.f0 ≤ x.f1; omega, b2.2.2.1, b1.2.2.2.1, b1.2.2.2.2⟩
    · exact ⟨h1, h2, joinR_tab r x y.f1 ⟨h3, h4, h5⟩⟩
/-- No two neighbours could be joined. -/
def NoAdj : List S28 → Prop
  | a :: b :: r => ¬ (b.f2 = a.f2 ∧ b.f0 = a.f1 + 1) ∧ NoAdj (b :: r)
  | _ => True
theorem noAdj_cons {a : S28} {m : List S28} (h : NoAdj m) (hh : ∀ b t, m = b :: t → ¬ (b.f2 = a.f2 ∧ b.f0 = a.f1 + 1)) : NoAdj (a :: m) := by
  cases m with
  | nil => trivial
  | cons b t => exact ⟨hh b t rfl, h⟩
theorem joinR_adj : ∀ (r : List S28) (y : S28), NoAdj (joinR y r)
  | [], y => trivial
  | x :: r, y => by
    rw [joinR]
    split
    · exact joinR_adj r _
    · rename_i hc
      refine noAdj_cons (joinR_adj r x) fun b t e => ?_
      obtain ⟨h, t', e', h1, h2⟩ := joinR_head r x
      rw [e'] at e
      injection e with e1 e2
      subst e1
      rintro ⟨g1, g2⟩
      exact hc ⟨by rw [← g1, h2], by rw [← g2, h1]⟩
theorem noAdj_at : ∀ (m : List S28), NoAdj m → ∀ i (h0 : 0 < i) (h : i < m.length), ¬ (m[i].f2 = (m[i - 1]'(by omega)).f2 ∧ m[i].f0 = (m[i - 1]'(by omega)).f1 + 1)
  | [], _, i, _, h => by simp at h
  | [a], _, i, h0, h => by simp at h; omega
  | a :: b :: r, hN, i, h0, h => by
    obtain ⟨h1, h2⟩ := hN
    match i, h0, h with
    | 1, _, _ => exact h1
    | j + 2, _, h => exact noAdj_at (b :: r) h2 (j + 1) (by omega) (by simpa using h)
theorem find_cons (x : S28) (l : List S28) (a : Int) : findS (rgs (x :: l)) a = if x.f0 ≤ a ∧ a ≤ x.f1 then (x.f2, true) else findS (rgs l) a := by
  unfold findS
  rw [rgs_cons]
  by_cases h : x.f0 ≤ a ∧ a ≤ x.f1
  · rw [if_pos h, List.find?_cons_of_pos (by simp [h.1, h.2])]
  · rw [if_neg h, List.find?_cons_of_neg (by simpa using h)]
theorem joinR_find (a : Int) : ∀ (r : List S28) (y : S28) (la : Int), Tab la (rgs (y :: r)) → findS (rgs (joinR y r)) a = findS (rgs (y :: r)) a
  | [], y, la, h => rfl
  | x :: r, y, la, h => by
    obtain ⟨h1, h2, h3, h4, h5⟩ := h
    have b1 := may_bounds h1
    have b2 := may_bounds h3
    rw [joinR]
    split
    · rename_i hc
      rw [joinR_find a r ⟨y.f0, x.f1, y.f2⟩ la ⟨may_of (x := ⟨y.f0, x.f1, y.f2⟩) ⟨b1.1, by show y.f0 ≤ x.f1; omega, b2.2.2.1, b1.2.2.2.1, b1.2.2.2.2⟩, h2, h5⟩]
      rw [find_cons, find_cons, find_cons]
      dsimp only
      by_cases hy : y.f0 ≤ a ∧ a ≤ y.f1
      · rw [if_pos hy, if_pos (by omega)]
      · rw [if_neg hy]
        by_cases hx : x.f0 ≤ a ∧ a ≤ x.f1
        · rw [if_pos hx, if_pos (by omega), hc.1]
        · rw [if_neg hx, if_neg (by omega)]
    · rw [find_cons, joinR_find a r x y.f1 ⟨h3, h4, h5⟩, find_cons y]
def sumL : List S28 → Int
  | [] => 0
  | x :: r => (x.f1 - x.f0 + 1) + sumL r
theorem joinR_sum : ∀ (r : List S28) (y : S28), sumL (joinR y r) = sumL (y :: r)
  | [], y => rfl
  | x :: r, y => by
    rw [joinR]
    split
    · rename_i hc
      rw [joinR_sum r ⟨y.f0, x.f1, y.f2⟩, sumL, sumL, sumL]
      dsimp only
      omega
    · rw [sumL, joinR_sum r x]; rfl
theorem cnt_sum : ∀ (l : List S28) (la acc : Int), Tab la (rgs l) → 0 ≤ acc → acc + 1114112 * (l.length : Int) ≤ 8000000000000000000 → cntL acc l = acc + sumL l
  | [], la, acc, _, _, _ => by simp [cntL, sumL]
  | x :: r, la, acc, h, h0, h1 => by
    obtain ⟨t1, t2, t3⟩ := h
    have b := may_bounds t1
    simp only [List.length_cons] at h1
    rw [cntL, w64_in x.f1 (by omega) (by omega), w64_in x.f0 (by omega) (by omega), w64_in (x.f1 - x.f0) (by omega) (by omega), w64_in (x.f1 - x.f0 + 1) (by omega) (by omega), w64_in (acc + (x.f1 - x.f0 + 1)) (by omega) (by omega),
      cnt_sum r x.f1 _ t3 (by omega) (by omega), sumL]
    omega
theorem tab_filter (v : Int) : ∀ (l : List S28) (la : Int), Tab la (rgs l) → Tab la (rgs (l.filter fun x => decide (x.f2 = v)))
  | [], la, h => h
  | x :: r, la, h => by
    obtain ⟨h1, h2, h3⟩ := h
    have b := may_bounds h1
    have h2' : la < x.f0 := h2
    rw [List.filter_cons]
    split
    · exact ⟨h1, h2, tab_filter v r x.f1 h3⟩
    · exact tab_filter v r la (tab_low (la := x.f1) (by omega) h3)
theorem find_past (l : List S28) (la a : Int) (h : Tab la (rgs l)) (ha : a ≤ la) : findS (rgs l) a = (0, false) :=
  find_none _ _ fun x hx => by have := tab_ge _ _ h x hx; omega
theorem find_filter (v a : Int) : ∀ (l : List S28) (la : Int), Tab la (rgs l) → findS (rgs (l.filter fun x => decide (x.f2 = v))) a = if (findS (rgs l) a).2 = true ∧ (findS (rgs l) a).1 = v then (v, true) else (0, false)
  | [], la, h => rfl
  | x :: r, la, h => by
    obtain ⟨h1, h2, h3⟩ := h
    have ih := find_filter v a r x.f1 h3
    rw [find_cons x r, List.filter_cons]
    by_cases hx : x.f0 ≤ a ∧ a ≤ x.f1
    · rw [if_pos hx]
      by_cases hv : x.f2 = v
      · rw [if_pos (by simpa using hv), find_cons, if_pos hx, if_pos ⟨rfl, hv⟩, hv]
      · rw [if_neg (by simpa using hv), if_neg (by simp [hv])]
        exact find_past _ x.f1 a (tab_filter v r x.f1 h3) hx.2
    · rw [if_neg hx]
      by_cases hv : x.f2 = v
      · rw [if_pos (by simpa using hv), find_cons, if_neg hx, ih]
      · rw [if_neg (by simpa using hv), ih]
theorem last_at (ini : List S28) (y : S28) : rd_T28 (ini ++ [y]) (wrap64 (((ini ++ [y]).length : Int) - 1)) = y ∨ 1000000 < (ini ++ [y]).length := by
  by_cases h : (ini ++ [y]).length ≤ 1000000
  · left
    rw [w64_pred _ h (by simp), rd_at _ _ (by simp)]
    simp
  · right; omega
theorem join_loop (l : List S28) (hl : l.length ≤ 2000) (hB : ∀ x ∈ l, 0 ≤ x.f0 ∧ x.f0 ≤ 1114111 ∧ 0 ≤ x.f1 ∧ x.f1 ≤ 1114111) : ∀ (n i k : Nat) (ini : List S28) (y : S28), i + n = l.length → n < k → ini.length + 1 ≤ i → 0 ≤ y.f1 → y.f1 ≤ 1114111 →
    ranges_Join.l0 k (ini ++ [y]) l (l.length : Int) (i : Int) = some (ini ++ joinR y (l.drop i))
  | 0, i, k, ini, y, hi, hk, hn, hy0, hy1 => by
    obtain ⟨k, rfl⟩ : ∃ k', k = k' + 1 := ⟨k - 1, by omega⟩
    rw [ranges_Join.l0, if_neg (by omega), List.drop_eq_nil_of_le (by omega)]
    rfl
  | n + 1, i, k, ini, y, hi, hk, hn, hy0, hy1 => by
    obtain ⟨k, rfl⟩ : ∃ k', k = k' + 1 := ⟨k - 1, by omega⟩
    have hil : i < l.length := by omega
    have hlen : (ini ++ [y]).length = ini.length + 1 := by simp
    have hb := hB l[i] (List.getElem_mem hil)
    have hla : rd_T28 (ini ++ [y]) (wrap64 (((ini ++ [y]).length : Int) - 1)) = y := (last_at ini y).resolve_right (by omega)
    have hw : wrap64 (((ini ++ [y]).length : Int) - 1) = (ini.length : Int) := by rw [hlen, w64_in _ (by omega) (by omega)]; omega
    rw [ranges_Join.l0, if_pos (by omega), if_pos (by omega), if_pos (by omega), if_pos (by omega), hla, hw, if_pos (by omega), if_pos (by omega), rd_at l i hil, w64_succ i (by omega), List.drop_eq_getElem_cons hil, joinR]
    have hset : (ini ++ [y]).set (ini.length : Int).toNat ⟨y.f0, l[i].f1, y.f2⟩ = ini ++ [⟨y.f0, l[i].f1, y.f2⟩] := by
      rw [Int.toNat_natCast, List.set_append_right _ _ (Nat.le_refl _)]
      simp
    rw [hset, w64_in y.f1 (by omega) (by omega), w64_in (y.f1 + 1) (by omega) (by omega), w64_in l[i].f0 (by omega) (by omega)]
    by_cases h2 : y.f2 = l[i].f2
    · rw [if_pos h2]
      by_cases h1 : y.f1 + 1 = l[i].f0
      · rw [if_pos h1, if_pos ⟨h2, h1⟩]
        exact join_loop l hl hB n (i + 1) k ini _ (by omega) (by omega) (by omega) hb.2.2.1 hb.2.2.2
      · rw [if_neg h1, if_pos (by omega), if_neg (fun h => h1 h.2)]
        have := join_loop l hl hB n (i + 1) k (ini ++ [y]) l[i] (by omega) (by omega) (by omega) hb.2.2.1 hb.2.2.2
        rw [List.append_assoc ini [y] (joinR _ _)] at this
        exact this
    · rw [if_neg h2, if_pos (by omega), if_neg (fun h => h2 h.1)]
      have := join_loop l hl hB n (i + 1) k (ini ++ [y]) l[i] (by omega) (by omega) (by omega) hb.2.2.1 hb.2.2.2
      rw [List.append_assoc ini [y] (joinR _ _)] at this
      exact this
theorem tab_bounds (l : List S28) (la : Int) (h : Tab la (rgs l)) : ∀ x ∈ l, 0 ≤ x.f0 ∧ x.f0 ≤ 1114111 ∧ 0 ≤ x.f1 ∧ x.f1 ≤ 1114111 := by
  induction l generalizing la with
  | nil => intro x hx; cases hx
  | cons y r ih =>
    intro x hx
    obtain ⟨h1, h2, h3⟩ := h
    rcases List.mem_cons.1 hx with rfl | hx
    · have := may_bounds h1; omega
    · exact ih _ h3 x hx
theorem join_f (l : List S28) (hl : l.length ≤ 2000) (hT : Tab (-1) (rgs l)) (k : Nat) (hk : l.length < k) : ranges_Join.f k l = some (joinA l) := by
  unfold ranges_Join.f
  have hB := tab_bounds l _ hT
  obtain ⟨k, rfl⟩ : ∃ k', k = k' + 1 := ⟨k - 1, by omega⟩
  cases l with
  | nil => rw [ranges_Join.l0, if_neg (by simp)]; rfl
  | cons x r =>
    have hb := hB x List.mem_cons_self
    have h0 : rd_T28 (x :: r) (0 : Int) = x := rfl
    rw [ranges_Join.l0, if_pos (by simp <;> omega), if_pos (by omega), if_pos (by simp <;> omega), if_neg (by simp), if_pos (by simp), h0, show wrap64 ((0 : Int) + 1) = ((1 : Nat) : Int) from w64_succ 0 (by omega)]
    have := join_loop (x :: r) hl hB r.length 1 k [] x (by simp; omega) (by simp at hk; omega) (by simp) (by omega) (by omega)
    exact this
theorem only_loop (l : List S28) (hl : l.length ≤ 2000) (v : Int) : ∀ (n i k : Nat) (acc : List S28), i + n = l.length → n < k → acc.length ≤ i → ranges_Only.l0 k v acc l (l.length : Int) (i : Int) = some (acc ++ (l.drop i).filter fun x => decide (x.f2 = v))
  | 0, i, k, acc, hi, hk, ha => by
    obtain ⟨k, rfl⟩ : ∃ k', k = k' + 1 := ⟨k - 1, by omega⟩
    rw [ranges_Only.l0, if_neg (by omega), List.drop_eq_nil_of_le (by omega)]
    simp
  | n + 1, i, k, acc, hi, hk, ha => by
    obtain ⟨k, rfl⟩ : ∃ k', k = k' + 1 := ⟨k - 1, by omega⟩
    have hil : i < l.length := by omega
    rw [ranges_Only.l0, if_pos (by omega), if_pos (by omega), if_pos (by omega), rd_at l i hil, w64_succ i (by omega), List.drop_eq_getElem_cons hil, List.filter_cons]
    by_cases h : l[i].f2 = v
    · rw [if_pos h, if_pos (by omega), if_pos (by simpa using h), only_loop l hl v n (i + 1) k _ (by omega) (by omega) (by simp; omega)]
      simp
    · rw [if_neg h, if_neg (by simpa using h), only_loop l hl v n (i + 1) k _ (by omega) (by omega) (by omega)]
theorem right_tab (l : List S28) (hl : l.length ≤ 2000) (hT : Tab (-1) (rgs l)) (k : Nat) (hk : l.length < k) : eponymlaw03_Right.f k l = some true := by
  obtain ⟨c1, c2, hc, hct⟩ := check_loop l hl l.length 0 k (by omega) hk
  rw [List.drop_zero] at hct
  unfold eponymlaw03_Right.f eponymref03_Check.f
  rw [if_neg (by omega), show (0 : Int) = ((0 : Nat) : Int) from rfl, hc, Option.bind_some]
  have : c2 = 0 := hct.2 hT
  simp [this]
theorem count_f (l : List S28) (hl : l.length ≤ 2000) (k : Nat) (hk : l.length < k) : ranges_Count.f k l = some (cntL 0 l) := by
  have h := count_loop l hl l.length 0 k 0 (by omega) hk
  rw [List.drop_zero] at h
  exact h
theorem rfind_f (l : List S28) (hl : l.length ≤ 2000) (a : Int) (k : Nat) (hk : l.length < k) : eponymref03_Find.f k l a = some (findS (rgs l) a) := by
  have h := find_loop l hl a l.length 0 k (by omega) hk
  rw [List.drop_zero] at h
  exact h
theorem find_f (l : List S28) (hl : l.length ≤ 2000) (hT : Tab (-1) (rgs l)) (a : Int) : ranges_Find.f l a = some (findS (rgs l) a) := by
  unfold ranges_Find.f
  rw [if_pos ⟨(tab_iff _).2 hT, by omega⟩]
theorem joins_loop (l m : List S28) (a v : Int) (hl : l.length ≤ 60) (hm : m.length ≤ 60) (hT : Tab (-1) (rgs l)) (hTm : Tab (-1) (rgs m)) (hA : NoAdj m) (hF : findS (rgs m) a = findS (rgs l) a) (hS : cntL 0 m = cntL 0 l) :
    ∀ (n i k : Nat), i + n = m.length + 1 → 1 ≤ i → n + 100 < k → eponymlaw03_RangesJoins.l0 k l a v m (i : Int) = some true := by
  have hTf := tab_filter v l (-1) hT
  have hlf : (l.filter fun x => decide (x.f2 = v)).length ≤ 60 := Nat.le_trans (List.length_filter_le _ _) hl
  intro n
  induction n with
  | zero =>
    intro i k hi h1 hk
    obtain ⟨k, rfl⟩ : ∃ k', k = k' + 1 := ⟨k - 1, by omega⟩
    have ho := only_loop l (by omega) v l.length 0 k [] (by omega) (by omega) (by simp)
    rw [List.drop_zero, List.nil_append] at ho
    rw [eponymlaw03_RangesJoins.l0, if_neg (by omega), find_f m (by omega) hTm, Option.bind_some, rfind_f l (by omega) a k (by omega), Option.bind_some]
    unfold ranges_Only.f
    have ho' : ranges_Only.l0 k v [] l (l.length : Int) 0 = some (l.filter fun x => decide (x.f2 = v)) := ho
    rw [ho', Option.bind_some, find_f _ (by omega) hTf, Option.bind_some, right_tab m (by omega) hTm k (by omega), Option.bind_some, if_pos rfl, count_f m (by omega) k (by omega), Option.bind_some, count_f l (by omega) k (by omega), Option.bind_some, if_pos hS, hF, if_pos rfl,
      if_pos (by simp), right_tab _ (by omega) hTf k (by omega), Option.bind_some, if_pos rfl, find_filter v a l (-1) hT]
    obtain ⟨q1, q2⟩ := findS (rgs l) a
    dsimp only
    cases q2
    · simp
    · by_cases hq : q1 = v
      · simp [hq]
      · simp [hq]
  | succ n ih =>
    intro i k hi h1 hk
    by_cases hlast : i = m.length + 1
    · omega
    · obtain ⟨k, rfl⟩ : ∃ k', k = k' + 1 := ⟨k - 1, by omega⟩
      by_cases him : i < m.length
      · have hb := tab_bounds m _ hTm _ (List.getElem_mem (show i - 1 < m.length by omega))
        have hn := noAdj_at m hA i (by omega) him
        rw [eponymlaw03_RangesJoins.l0, if_pos (by omega), if_pos (by omega), w64_pred i (by omega) (by omega), if_pos (by omega), if_pos (by omega), rd_at m i him, rd_at m (i - 1) (by omega), w32_in _ (by omega) (by omega), w64_succ i (by omega)]
        have hih := ih (i + 1) k (by omega) (by omega) (by omega)
        by_cases h2 : m[i].f2 = m[i - 1].f2
        · rw [if_pos h2, if_neg (fun h => hn ⟨h2, h⟩)]
          exact hih
        · rw [if_neg h2]
          exact hih
      · have hi' : i = m.length := by omega
        have ho := only_loop l (by omega) v l.length 0 k [] (by omega) (by omega) (by simp)
        rw [List.drop_zero, List.nil_append] at ho
        rw [eponymlaw03_RangesJoins.l0, if_neg (by omega), find_f m (by omega) hTm, Option.bind_some, rfind_f l (by omega) a k (by omega), Option.bind_some]
        unfold ranges_Only.f
        have ho' : ranges_Only.l0 k v [] l (l.length : Int) 0 = some (l.filter fun x => decide (x.f2 = v)) := ho
        rw [ho', Option.bind_some, find_f _ (by omega) hTf, Option.bind_some, right_tab m (by omega) hTm k (by omega), Option.bind_some, if_pos rfl, count_f m (by omega) k (by omega), Option.bind_some, count_f l (by omega) k (by omega), Option.bind_some, if_pos hS, hF, if_pos rfl,
          if_pos (by simp), right_tab _ (by omega) hTf k (by omega), Option.bind_some, if_pos rfl, find_filter v a l (-1) hT]
        obtain ⟨q1, q2⟩ := findS (rgs l) a
        dsimp only
        cases q2
        · simp
        · by_cases hq : q1 = v
          · simp [hq]
          · simp [hq]
theorem joins_f (l : List S28) (a v : Int) : eponymlaw03_RangesJoins.f 400 l a v = some true := by
  unfold eponymlaw03_RangesJoins.f eponymlaw03_awake.f
  rw [Option.bind_some, if_pos rfl]
  by_cases hl : (l.length : Int) > 60
  · rw [if_pos hl, eponymlaw03_RangesJoins.j0, if_pos rfl]
  · rw [if_neg hl]
    obtain ⟨c1, c2, hc, hct⟩ := check_loop l (by omega) l.length 0 400 (by omega) (by omega)
    rw [List.drop_zero] at hct
    unfold eponymlaw03_Right.f eponymref03_Check.f
    rw [if_neg (by omega), show (0 : Int) = ((0 : Nat) : Int) from rfl, hc, Option.bind_some, Option.bind_some]
    by_cases h2 : c2 = 0
    · have hT := hct.1 h2
      rw [show (!(c2 == ((0 : Nat) : Int))) = false by simp [h2], eponymlaw03_RangesJoins.j0, if_neg (by simp), join_f l (by omega) hT 399 (by omega), Option.bind_some]
      have hlen : (joinA l).length ≤ l.length := by
        cases l with
        | nil => simp [joinA]
        | cons x r => have := joinR_len r x; simpa [joinA] using this
      have hTm : Tab (-1) (rgs (joinA l)) := by
        cases l with
        | nil => exact hT
        | cons x r => exact joinR_tab r x (-1) hT
      have hA : NoAdj (joinA l) := by
        cases l with
        | nil => trivial
        | cons x r => exact joinR_adj r x
      have hF : findS (rgs (joinA l)) a = findS (rgs l) a := by
        cases l with
        | nil => rfl
        | cons x r => exact joinR_find a r x (-1) hT
      have hS : cntL 0 (joinA l) = cntL 0 l := by
        rw [cnt_sum _ (-1) 0 hTm (by omega) (by omega), cnt_sum _ (-1) 0 hT (by omega) (by omega)]
        cases l with
        | nil => rfl
        | cons x r => rw [show joinA (x :: r) = joinR x r from rfl, joinR_sum]
      exact joins_loop l (joinA l) a v (by omega) (by omega) hT hTm hA hF hS (joinA l).length 1 399 (by omega) (by omega) (by omega)
    · rw [show (!(c2 == ((0 : Nat) : Int))) = true by simp [h2], eponymlaw03_RangesJoins.j0, if_pos rfl]
end Go.Proofs.YthggpjiabklekaaGreatDoor.PRg
