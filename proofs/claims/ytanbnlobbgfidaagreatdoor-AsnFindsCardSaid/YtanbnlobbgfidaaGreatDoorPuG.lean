/- AsnGaps in plain Lean: the printed law answers true. -/
import Derived.Test.YtanbnlobbgfidaaGreatDoorPuU
namespace Go.Proofs.YtanbnlobbgfidaaGreatDoor
set_option linter.unusedSimpArgs false
set_option linter.unusedVariables false
open Go.RowKit Go.Proofs.YtanbnlobbgfidaaGreatDoorW.PrintWords Go.Proofs.YtanbnlobbgfidaaGreatDoor.PAu

theorem u64w (n : Int) (h1 : 0 ≤ n) (h2 : n < 18446744073709551616) : IntKind.u64.wrap n = n := IntWalk.u64_in n ⟨h1, by omega⟩
theorem drop_ps (l : List SS) (i : Nat) (hi : i < l.length) : ps (l.drop i) = (l[i].f0, l[i].f1) :: ps (l.drop (i + 1)) := by
  unfold ps
  rw [List.drop_eq_getElem_cons hi]
  rfl
theorem adj_pair (l : List Sp) (hr : ∀ j (hj : j < l.length), l[j].1 ≤ l[j].2) (ha : ∀ j (hj : j + 1 < l.length), l[j].2 < l[j + 1].1) : RowS l := by
  refine ⟨List.pairwise_iff_getElem.2 fun i j hi hj hij => ?_, fun x hx => ?_⟩
  · have key : ∀ d i (h : i + d + 1 < l.length), l[i].2 < l[i + d + 1].1 := by
      intro d
      induction d with
      | zero => intro i h; exact ha i h
      | succ d ih =>
        intro i h
        have h1 := ih i (by omega)
        have h2 := hr (i + d + 1) (by omega)
        have h3 := ha (i + d + 1) (by omega)
        exact Int.lt_trans (Int.lt_of_lt_of_le h1 h2) h3
    have := key (j - i - 1) i (by omega)
    have e : i + (j - i - 1) + 1 = j := by omega
    simpa only [e] using this
  · obtain ⟨j, hj, rfl⟩ := List.getElem_of_mem hx
    exact hr j hj
/-- The document's Check, of any list. -/
theorem check_run (l : List SS) (hl : l.length ≤ 1000000) : ∀ (d i k : Nat), i + d = l.length → d < k → ∃ r, eponymref15_Check.l0 k l (i : Int) = some r ∧ (r.2 = 0 → ∀ j (hj : j < l.length), i ≤ j → l[j].f0 ≤ l[j].f1 ∧ (0 < j → l[j - 1].f1 < l[j].f0))
  | 0, i, k, h, hk => by
    obtain ⟨k, rfl⟩ : ∃ m, k = m + 1 := ⟨k - 1, by omega⟩
    simp only [eponymref15_Check.l0]
    rw [if_neg (by omega)]
    exact ⟨_, rfl, fun _ j hj hij => by omega⟩
  | d + 1, i, k, h, hk => by
    obtain ⟨k, rfl⟩ : ∃ m, k = m + 1 := ⟨k - 1, by omega⟩
    have hi : i < l.length := by omega
    obtain ⟨r, ih, ih2⟩ := check_run l hl d (i + 1) k (by omega) (by omega)
    have e : wrap64 ((i : Int) + 1) = ((i + 1 : Nat) : Int) := by rw [w64 _ (by omega) (by omega)]; rfl
    simp only [eponymref15_Check.l0]
    rw [if_pos (by omega), if_pos (by omega), rd_at l i hi, e, ih]
    by_cases hb : l[i].f0 > l[i].f1
    · rw [if_pos hb]
      exact ⟨_, rfl, fun h => by cases h⟩
    · rw [if_neg hb]
      by_cases h0 : (i : Int) > 0
      · have e2 : wrap64 ((i : Int) - 1) = ((i - 1 : Nat) : Int) := by rw [w64 _ (by omega) (by omega)]; omega
        rw [if_pos h0, e2, if_pos (by omega), if_pos (by omega), rd_at l (i - 1) (by omega)]
        by_cases hc : l[i].f0 ≤ l[i - 1].f1
        · rw [if_pos hc]
          exact ⟨_, rfl, fun h => by cases h⟩
        · rw [if_neg hc]
          refine ⟨r, rfl, fun h j hj hij => ?_⟩
          by_cases hje : j = i
          · subst hje; exact ⟨by omega, fun _ => by omega⟩
          · exact ih2 h j hj (by omega)
      · rw [if_neg h0]
        refine ⟨r, rfl, fun h j hj hij => ?_⟩
        by_cases hje : j = i
        · subst hje; exact ⟨by omega, fun _ => by omega⟩
        · exact ih2 h j hj (by omega)
theorem row_run (l : List SS) (hl : l.length ≤ 1000000) (k : Nat) (hk : l.length < k) : ∃ b, eponymlaw15_Row.f k l = some b ∧ (b = true → RowS (ps l)) := by
  unfold eponymlaw15_Row.f eponymref15_Check.f
  obtain ⟨r, h1, h2⟩ := check_run l hl l.length 0 k (by omega) hk
  rw [show ((0 : Nat) : Int) = 0 from rfl] at h1
  rw [h1]
  refine ⟨_, rfl, fun hb => adj_pair _ (fun j hj => ?_) (fun j hj => ?_)⟩
  · have hj' : j < l.length := by rw [ps_length] at hj; exact hj
    rw [ps_get l j hj']
    exact (h2 (by simpa using hb) j hj' (by omega)).1
  · have hj' : j + 1 < l.length := by rw [ps_length] at hj; exact hj
    rw [ps_get l (j + 1) hj', ps_get l j (by omega)]
    exact (h2 (by simpa using hb) (j + 1) hj' (by omega)).2 (by omega)
/-- asn.Gaps. -/
theorem gaps_loop (l : List SS) (hl : l.length ≤ 1000000) (hu : U32s (ps l)) : ∀ (d i k : Nat) (out : List SS) (next : Int), i + d = l.length → d < k → out.length ≤ i → 0 ≤ next → next ≤ 4294967296 →
    asn_Gaps.l0 k out next l (l.length : Int) (i : Int) = some (out ++ (gapS next (ps (l.drop i))).map untup)
  | 0, i, k, out, next, h, hk, ho, hn0, hn => by
    obtain ⟨k, rfl⟩ : ∃ m, k = m + 1 := ⟨k - 1, by omega⟩
    simp only [asn_Gaps.l0]
    rw [if_neg (by omega), List.drop_eq_nil_of_le (by omega)]
    show _ = some (out ++ (gapS next []).map untup)
    unfold gapS
    by_cases h1 : next ≤ 4294967295
    · rw [if_pos h1, if_pos h1, if_pos (by omega), show next % 4294967296 = next by omega]
      rfl
    · rw [if_neg h1, if_neg h1]
      simp
  | d + 1, i, k, out, next, h, hk, ho, hn0, hn => by
    obtain ⟨k, rfl⟩ : ∃ m, k = m + 1 := ⟨k - 1, by omega⟩
    have hi : i < l.length := by omega
    have e : wrap64 ((i : Int) + 1) = ((i + 1 : Nat) : Int) := by rw [w64 _ (by omega) (by omega)]; rfl
    have hx := hu _ (ps_mem.2 ⟨l[i], List.getElem_mem hi, rfl⟩)
    simp only at hx
    obtain ⟨x1, x2, x3, x4⟩ := hx
    simp only [asn_Gaps.l0]
    rw [if_pos (by omega), if_pos (by omega), if_pos (by omega), rd_at l i hi, e, u64w l[i].f0 (by omega) (by omega), u64w l[i].f1 (by omega) (by omega), u64w (l[i].f1 + 1) (by omega) (by omega), drop_ps l i hi]
    unfold gapS
    by_cases hg : l[i].f0 > next
    · rw [if_pos hg, if_pos hg, if_pos (by omega), show next % 4294967296 = next by omega, show (l[i].f0 - 1) % 4294967296 = l[i].f0 - 1 by omega,
        gaps_loop l hl hu d (i + 1) k _ _ (by omega) (by omega) (by simp; omega) (by omega) (by omega), List.append_assoc]
      rfl
    · rw [if_neg hg, if_neg hg, gaps_loop l hl hu d (i + 1) k _ _ (by omega) (by omega) (by omega) (by omega) (by omega)]
theorem gaps_f (l : List SS) (hl : l.length ≤ 1000000) (hu : U32s (ps l)) (k : Nat) (hk : l.length < k) : asn_Gaps.f k l = some ((gapS 0 (ps l)).map untup) := by
  unfold asn_Gaps.f
  have := gaps_loop l hl hu l.length 0 k [] 0 (by omega) hk (by simp) (by omega) (by omega)
  rw [List.drop_zero, List.nil_append] at this
  exact this
/-- asn.Size. -/
theorem size_ge : ∀ (l : List Sp), RightS l → 0 ≤ sizeS l
  | [], _ => Int.le_refl _
  | x :: r, h => by
    have := size_ge r (fun z hz => h z (List.mem_cons_of_mem _ hz))
    have hx := h x (List.mem_cons_self ..)
    simp only [sizeS]
    omega
theorem right_drop {l : List SS} (h : RightS (ps l)) (i : Nat) : RightS (ps (l.drop i)) := fun x hx => by
  obtain ⟨y, hy, rfl⟩ := ps_mem.1 hx
  exact h _ (ps_mem.2 ⟨y, List.mem_of_mem_drop hy, rfl⟩)
theorem size_loop (l : List SS) (hl : l.length ≤ 1000000) (hu : U32s (ps l)) (hr : RightS (ps l)) (d : Nat) : ∀ (i k : Nat) (n : Int), i + d = l.length → d < k → 0 ≤ n → n + sizeS (ps (l.drop i)) ≤ 9000000000000000000 →
    asn_Size.l0 k n l (l.length : Int) (i : Int) = some (n + sizeS (ps (l.drop i))) := by
  induction d with
  | zero =>
    intro i k n h hk hn0 hn
    obtain ⟨k, rfl⟩ : ∃ m, k = m + 1 := ⟨k - 1, by omega⟩
    simp only [asn_Size.l0]
    rw [if_neg (by omega), List.drop_eq_nil_of_le (by omega)]
    show _ = some (n + 0)
    rw [Int.add_zero]
  | succ d ih =>
    intro i k n h hk hn0 hn
    obtain ⟨k, rfl⟩ : ∃ m, k = m + 1 := ⟨k - 1, by omega⟩
    have hi : i < l.length := by omega
    have e : wrap64 ((i : Int) + 1) = ((i + 1 : Nat) : Int) := by rw [w64 _ (by omega) (by omega)]; rfl
    have hx := hu _ (ps_mem.2 ⟨l[i], List.getElem_mem hi, rfl⟩)
    have hy := hr _ (ps_mem.2 ⟨l[i], List.getElem_mem hi, rfl⟩)
    simp only at hx hy
    obtain ⟨x1, x2, x3, x4⟩ := hx
    rw [drop_ps l i hi] at hn ⊢
    simp only [sizeS] at hn ⊢
    have hge := size_ge _ (right_drop hr (i + 1))
    simp only [asn_Size.l0]
    rw [if_pos (by omega), if_pos (by omega), if_pos (by omega), rd_at l i hi, e, u64w l[i].f0 (by omega) (by omega), u64w l[i].f1 (by omega) (by omega), u64w (l[i].f1 - l[i].f0) (by omega) (by omega), u64w (l[i].f1 - l[i].f0 + 1) (by omega) (by omega), u64w (n + _) (by omega) (by omega),
      ih (i + 1) k _ (by omega) (by omega) (by omega) (by omega)]
    rw [Int.add_assoc]
theorem size_f (l : List SS) (hl : l.length ≤ 1000000) (hu : U32s (ps l)) (hr : RightS (ps l)) (hs : sizeS (ps l) ≤ 9000000000000000000) (k : Nat) (hk : l.length < k) : asn_Size.f k l = some (sizeS (ps l)) := by
  unfold asn_Size.f
  have := size_loop l hl hu hr l.length 0 k 0 (by omega) hk (by omega) (by rw [List.drop_zero]; omega)
  rw [List.drop_zero, Int.zero_add] at this
  exact this

theorem gaps_l1 (a b : List SS) (ha : a.length ≤ 100) (hb : b.length ≤ 100) (es : List Int) (he : es.length ≤ 1000000) (hh : ∀ n ∈ es, (Has (ps b) n ↔ ¬ Has (ps a) n)) : ∀ (d i k : Nat), i + d = es.length → d + 200 < k → eponymlaw15_AsnGaps.l1 k a b es (i : Int) = some true
  | 0, i, k, h, hk => by
    obtain ⟨k, rfl⟩ : ∃ m, k = m + 1 := ⟨k - 1, by omega⟩
    simp only [eponymlaw15_AsnGaps.l1]
    rw [if_neg (by omega)]
  | d + 1, i, k, h, hk => by
    obtain ⟨k, rfl⟩ : ∃ m, k = m + 1 := ⟨k - 1, by omega⟩
    have hi : i < es.length := by omega
    have e : wrap64 ((i : Int) + 1) = ((i + 1 : Nat) : Int) := by rw [w64 _ (by omega) (by omega)]; rfl
    have ih := gaps_l1 a b ha hb es he hh d (i + 1) k (by omega) (by omega)
    have er : rd es (i : Int) = es[i] := by
      unfold rd
      rw [Int.toNat_natCast, List.getD_eq_getElem?_getD, List.getElem?_eq_getElem hi]
      rfl
    have hm := hh _ (List.getElem_mem hi)
    simp only [eponymlaw15_AsnGaps.l1]
    rw [if_pos (by omega), if_pos (by omega), er, has_f b _ (by omega) k (by omega), has_f a _ (by omega) k (by omega), e]
    simp only [Option.bind_some]
    rw [if_neg ?_]
    · exact ih
    · rw [beq_iff_eq, decide_eq_decide]
      intro h
      by_cases hq : Has (ps a) es[i]
      · exact (hm.1 (h.2 hq)) hq
      · exact hq (h.1 (hm.2 hq))
theorem gaps_l0 (a b u : List SS) (ha : a.length ≤ 100) (hb : b.length ≤ 100) (hul : u.length ≤ 100) (hua : U32s (ps a)) (hub : U32s (ps b)) (hh : ∀ n, 0 ≤ n → n < 4294967296 → (Has (ps b) n ↔ ¬ Has (ps a) n)) : ∀ (d i k : Nat), i + d = u.length → d + 1500 < k → eponymlaw15_AsnGaps.l0 k a b u u (i : Int) = some true
  | 0, i, k, h, hk => by
    obtain ⟨k, rfl⟩ : ∃ m, k = m + 1 := ⟨k - 1, by omega⟩
    obtain ⟨ea, h2, h3, h6⟩ := edges_f a (by omega) hua k (by omega)
    obtain ⟨eb, h4, h5, h7⟩ := edges_f b (by omega) hub k (by omega)
    simp only [eponymlaw15_AsnGaps.l0]
    rw [if_neg (by omega), h2, h4]
    simp only [Option.bind_some]
    rw [if_pos (by omega)]
    refine gaps_l1 a b ha hb (ea ++ eb) (by simp; omega) (fun n hn => ?_) (ea ++ eb).length 0 k (by omega) (by simp; omega)
    rcases List.mem_append.1 hn with hn | hn
    · exact hh n (h6 n hn).1 (h6 n hn).2
    · exact hh n (h7 n hn).1 (h7 n hn).2
  | d + 1, i, k, h, hk => by
    obtain ⟨k, rfl⟩ : ∃ m, k = m + 1 := ⟨k - 1, by omega⟩
    have e : wrap64 ((i : Int) + 1) = ((i + 1 : Nat) : Int) := by rw [w64 _ (by omega) (by omega)]; rfl
    have ih := gaps_l0 a b u ha hb hul hua hub hh d (i + 1) k (by omega) (by omega)
    simp only [eponymlaw15_AsnGaps.l0]
    rw [if_pos (by omega), if_pos (by omega), if_pos (by omega), e, if_neg (by simp)]
    exact ih
theorem ps_untup (l : List Sp) : ps (l.map untup) = l := by
  unfold ps
  rw [List.map_map]
  exact List.map_id _
theorem asnGaps_f (l : List SS) (hu : ∀ x ∈ l, 0 ≤ x.f0 ∧ x.f0 < 4294967296 ∧ 0 ≤ x.f1 ∧ x.f1 < 4294967296) : eponymlaw15_AsnGaps.f 2000 l = some true := by
  unfold eponymlaw15_AsnGaps.f eponymlaw15_awake.f
  simp only [Option.bind_some, if_true]
  by_cases hl : (l.length : Int) > 30
  · rw [if_pos hl]
    simp only [eponymlaw15_AsnGaps.j0, if_true]
  · rw [if_neg hl]
    have hU : U32s (ps l) := fun x hx => by obtain ⟨y, hy, rfl⟩ := ps_mem.1 hx; exact hu y hy
    obtain ⟨b, hb1, hb2⟩ := row_run l (by omega) 2000 (by omega)
    rw [hb1]
    simp only [Option.bind_some]
    cases b with
    | false => simp only [eponymlaw15_AsnGaps.j0, Bool.not_false, if_true]
    | true =>
      have hR := hb2 rfl
      obtain ⟨g1, g2, g3⟩ := gap_good (ps l) 0 hR (fun x hx => (hU x hx).1) (fun x hx => by have := (hU x hx).2.2.2; omega) (by omega)
      have gl := gap_len (ps l) 0
      rw [ps_length] at gl
      have gu : U32s (gapS 0 (ps l)) := fun x hx => by
        have h1 := g2 x hx
        have h2 := g1.2 x hx
        exact ⟨by omega, by omega, by omega, by omega⟩
      have ga := gap_gap (ps l) hR hU
      have gs := gap_size (ps l) 0 hR (fun x hx => (hU x hx).1) (fun x hx => by have := (hU x hx).2.2.2; omega) (by omega)
      obtain ⟨g, hg⟩ : ∃ g, (gapS 0 (ps l)).map untup = g := ⟨_, rfl⟩
      have hpg : ps g = gapS 0 (ps l) := by rw [← hg, ps_untup]
      have hgl : g.length ≤ 31 := by rw [← hg, List.length_map]; omega
      obtain ⟨u, hu2⟩ : ∃ u, (unionS (ps l)).map untup = u := ⟨_, rfl⟩
      have hul : u.length ≤ 30 := by rw [← hu2, List.length_map]; have := union_len (ps l); rw [ps_length] at this; omega
      have hun : asn_Union.f l = some u := by
        unfold asn_Union.f
        rw [if_pos ⟨by omega, hu⟩]
        exact congrArg some hu2
      have sz0 := size_ge _ g1.2
      have sz1 := size_ge _ hR.2
      simp only [eponymlaw15_AsnGaps.j0]
      rw [if_neg (by simp), gaps_f l (by omega) hU 1999 (by omega), hg]
      simp only [Option.bind_some]
      rw [gaps_f g (by omega) (by rw [hpg]; exact gu) 1999 (by omega), hpg, ga, hu2]
      simp only [Option.bind_some]
      rw [hun]
      simp only [Option.bind_some]
      rw [row_f g (by rw [hpg]; exact g1.row) (by omega) 1999 (by omega)]
      simp only [Option.bind_some, if_true]
      rw [size_f g (by omega) (by rw [hpg]; exact gu) (by rw [hpg]; exact g1.2) (by rw [hpg]; omega) 1999 (by omega)]
      simp only [Option.bind_some]
      rw [size_f l (by omega) hU hR.2 (by omega) 1999 (by omega)]
      simp only [Option.bind_some]
      rw [hpg, u64w _ (by omega) (by omega), if_pos (by omega)]
      simp only [eponymlaw15_AsnGaps.j1]
      rw [if_neg (by simp)]
      exact gaps_l0 l g u (by omega) (by omega) (by omega) hU (by rw [hpg]; exact gu) (fun n h1 h2 => by
        rw [hpg, g3]
        exact ⟨fun h => h.2.2, fun h => ⟨h1, by omega, h⟩⟩) u.length 0 1998 (by omega) (by omega)
end Go.Proofs.YtanbnlobbgfidaaGreatDoor
