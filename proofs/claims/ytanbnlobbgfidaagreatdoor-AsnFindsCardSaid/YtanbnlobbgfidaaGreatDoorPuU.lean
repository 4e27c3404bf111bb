/- AsnUnions in plain Lean: the printed law answers true. -/
import Derived.Test.YtanbnlobbgfidaaGreatDoorPAux4
import Derived.Test.YtanbnlobbgfidaaGreatDoorPlU
namespace Go.Proofs.YtanbnlobbgfidaaGreatDoor
set_option linter.unusedSimpArgs false
set_option linter.unusedVariables false
open Go.RowKit Go.Proofs.YtanbnlobbgfidaaGreatDoorW.PrintWords Go.Proofs.YtanbnlobbgfidaaGreatDoor.PAu

abbrev SS := S28
theorem w64 (n : Int) (h1 : -9223372036854775808 ≤ n) (h2 : n ≤ 9223372036854775807) : wrap64 n = n := by unfold wrap64; omega
theorem rd_at (l : List SS) (i : Nat) (h : i < l.length) : rd_T28 l (i : Int) = l[i] := by
  unfold rd_T28
  rw [Int.toNat_natCast, List.getD_eq_getElem?_getD, List.getElem?_eq_getElem h]
  rfl
/-- A list of spans, as pairs. -/
def ps (l : List SS) : List Sp := l.map tup
theorem ps_get (l : List SS) (i : Nat) (h : i < l.length) : (ps l)[i]'(by unfold ps; rw [List.length_map]; exact h) = (l[i].f0, l[i].f1) := by
  unfold ps
  simp [tup]
theorem ps_length (l : List SS) : (ps l).length = l.length := by unfold ps; rw [List.length_map]
theorem ps_mem {l : List SS} {x : Sp} : x ∈ ps l ↔ ∃ y ∈ l, (y.f0, y.f1) = x := by
  unfold ps
  rw [List.mem_map]
  rfl

instance (l : List Sp) (n : Int) : Decidable (Has l n) := by unfold Has; infer_instance
/-- The document's Has. -/
theorem has_loop (l : List SS) (n : Int) (hl : l.length ≤ 1000000) : ∀ (d i k : Nat), i + d = l.length → d < k → eponymref15_Has.l0 k l n (i : Int) = some (decide (∃ x ∈ l.drop i, x.f0 ≤ n ∧ n ≤ x.f1))
  | 0, i, k, h, hk => by
    obtain ⟨k, rfl⟩ : ∃ m, k = m + 1 := ⟨k - 1, by omega⟩
    simp only [eponymref15_Has.l0]
    rw [if_neg (by omega), List.drop_eq_nil_of_le (by omega)]
    simp
  | d + 1, i, k, h, hk => by
    obtain ⟨k, rfl⟩ : ∃ m, k = m + 1 := ⟨k - 1, by omega⟩
    have hi : i < l.length := by omega
    have ih := has_loop l n hl d (i + 1) k (by omega) (by omega)
    have e : wrap64 ((i : Int) + 1) = ((i + 1 : Nat) : Int) := by rw [w64 _ (by omega) (by omega)]; rfl
    simp only [eponymref15_Has.l0]
    rw [if_pos (by omega), if_pos (by omega), rd_at l i hi, e, ih]
    have hd : l.drop i = l[i] :: l.drop (i + 1) := List.drop_eq_getElem_cons hi
    have hm : (∃ x ∈ l.drop i, x.f0 ≤ n ∧ n ≤ x.f1) ↔ (l[i].f0 ≤ n ∧ n ≤ l[i].f1) ∨ ∃ x ∈ l.drop (i + 1), x.f0 ≤ n ∧ n ≤ x.f1 := by
      rw [hd]
      constructor
      · rintro ⟨x, hx, h⟩
        rcases List.mem_cons.1 hx with rfl | hx
        · exact .inl h
        · exact .inr ⟨x, hx, h⟩
      · rintro (h | ⟨x, hx, h⟩)
        · exact ⟨_, List.mem_cons_self .., h⟩
        · exact ⟨x, List.mem_cons_of_mem _ hx, h⟩
    by_cases h1 : l[i].f0 ≤ n
    · rw [if_pos h1]
      by_cases h2 : n ≤ l[i].f1
      · rw [if_pos h2]
        exact congrArg some (decide_eq_true (hm.2 (.inl ⟨h1, h2⟩))).symm
      · rw [if_neg h2]
        congr 1
        rw [decide_eq_decide, hm]
        exact ⟨.inr, fun h => h.resolve_left (fun h => h2 h.2)⟩
    · rw [if_neg h1]
      congr 1
      rw [decide_eq_decide, hm]
      exact ⟨.inr, fun h => h.resolve_left (fun h => h1 h.1)⟩
theorem has_f (l : List SS) (n : Int) (hl : l.length ≤ 1000000) (k : Nat) (hk : l.length < k) : eponymref15_Has.f k l n = some (decide (Has (ps l) n)) := by
  unfold eponymref15_Has.f
  have := has_loop l n hl l.length 0 k (by omega) hk
  rw [show ((0 : Nat) : Int) = 0 from rfl, List.drop_zero] at this
  rw [this]
  congr 1
  rw [decide_eq_decide]
  unfold Has
  constructor
  · rintro ⟨x, hx, h⟩; exact ⟨(x.f0, x.f1), ps_mem.2 ⟨x, hx, rfl⟩, h⟩
  · rintro ⟨x, hx, h⟩
    obtain ⟨y, hy, rfl⟩ := ps_mem.1 hx
    exact ⟨y, hy, h⟩
/-- The document's Check, of a row. -/
theorem check_loop (l : List SS) (hr : RowS (ps l)) (hl : l.length ≤ 1000000) : ∀ (d i k : Nat), i + d = l.length → d < k → eponymref15_Check.l0 k l (i : Int) = some (0, 0)
  | 0, i, k, h, hk => by
    obtain ⟨k, rfl⟩ : ∃ m, k = m + 1 := ⟨k - 1, by omega⟩
    simp only [eponymref15_Check.l0]
    rw [if_neg (by omega)]
  | d + 1, i, k, h, hk => by
    obtain ⟨k, rfl⟩ : ∃ m, k = m + 1 := ⟨k - 1, by omega⟩
    have hi : i < l.length := by omega
    have ih := check_loop l hr hl d (i + 1) k (by omega) (by omega)
    have e : wrap64 ((i : Int) + 1) = ((i + 1 : Nat) : Int) := by rw [w64 _ (by omega) (by omega)]; rfl
    have hright := hr.2 _ (ps_mem.2 ⟨l[i], List.getElem_mem hi, rfl⟩)
    simp only at hright
    simp only [eponymref15_Check.l0]
    rw [if_pos (by omega), if_pos (by omega), rd_at l i hi, if_neg (by omega), e]
    by_cases h0 : (i : Int) > 0
    · have e2 : wrap64 ((i : Int) - 1) = ((i - 1 : Nat) : Int) := by rw [w64 _ (by omega) (by omega)]; omega
      rw [if_pos h0, e2, if_pos (by omega), if_pos (by omega), rd_at l (i - 1) (by omega)]
      have hp := List.pairwise_iff_getElem.1 hr.1 (i - 1) i (by rw [ps_length]; omega) (by rw [ps_length]; omega) (by omega)
      rw [ps_get l (i - 1) (by omega), ps_get l i hi] at hp
      simp only at hp
      rw [if_neg (by omega)]
      exact ih
    · rw [if_neg h0]
      exact ih
theorem row_f (l : List SS) (hr : RowS (ps l)) (hl : l.length ≤ 1000000) (k : Nat) (hk : l.length < k) : eponymlaw15_Row.f k l = some true := by
  unfold eponymlaw15_Row.f eponymref15_Check.f
  have := check_loop l hr hl l.length 0 k (by omega) hk
  rw [show ((0 : Nat) : Int) = 0 from rfl] at this
  rw [this]
  rfl
/-- The edges: there are some, each of 32 bits. -/
theorem edges_loop (l : List SS) (hl : l.length ≤ 1000000) (hu : U32s (ps l)) : ∀ (d i k : Nat) (acc : List Int), i + d = l.length → d < k → acc.length ≤ 2 + 4 * i → (∀ n ∈ acc, 0 ≤ n ∧ n < 4294967296) →
    ∃ es, eponymref15_Edges.l0 k l acc (i : Int) = some es ∧ es.length ≤ 2 + 4 * l.length ∧ ∀ n ∈ es, 0 ≤ n ∧ n < 4294967296
  | 0, i, k, acc, h, hk, ha, hb => by
    obtain ⟨k, rfl⟩ : ∃ m, k = m + 1 := ⟨k - 1, by omega⟩
    refine ⟨acc, ?_, by omega, hb⟩
    simp only [eponymref15_Edges.l0]
    rw [if_neg (by omega)]
  | d + 1, i, k, acc, h, hk, ha, hb => by
    obtain ⟨k, rfl⟩ : ∃ m, k = m + 1 := ⟨k - 1, by omega⟩
    have hi : i < l.length := by omega
    have e : wrap64 ((i : Int) + 1) = ((i + 1 : Nat) : Int) := by rw [w64 _ (by omega) (by omega)]; rfl
    have hx := hu _ (ps_mem.2 ⟨l[i], List.getElem_mem hi, rfl⟩)
    simp only at hx
    obtain ⟨es, h1, h2⟩ := edges_loop l hl hu d (i + 1) k (acc ++ [(l[i].f0 - 1) % 4294967296, l[i].f0, l[i].f1, (l[i].f1 + 1) % 4294967296]) (by omega) (by omega) (by simp; omega) (fun n hn => by
      rcases List.mem_append.1 hn with hn | hn
      · exact hb n hn
      · simp at hn
        rcases hn with rfl | rfl | rfl | rfl <;> omega)
    refine ⟨es, ?_, h2⟩
    simp only [eponymref15_Edges.l0, Option.bind_some]
    rw [if_pos (by omega), if_pos (by omega), rd_at l i hi, e, if_pos (by simp; omega)]
    exact h1
theorem edges_f (l : List SS) (hl : l.length ≤ 1000000) (hu : U32s (ps l)) (k : Nat) (hk : l.length < k) : ∃ es, eponymref15_Edges.f k l = some es ∧ es.length ≤ 2 + 4 * l.length ∧ ∀ n ∈ es, 0 ≤ n ∧ n < 4294967296 := by
  unfold eponymref15_Edges.f
  have := edges_loop l hl hu l.length 0 k [0, 4294967295] (by omega) hk (by simp) (fun n hn => by simp at hn; rcases hn with rfl | rfl <;> omega)
  rw [show ((0 : Nat) : Int) = 0 from rfl] at this
  exact this

theorem unions_l1 (a b : List SS) (ha : a.length ≤ 100) (hb : b.length ≤ 100) (hh : ∀ n, Has (ps a) n ↔ Has (ps b) n) (es : List Int) (he : es.length ≤ 1000000) : ∀ (d i k : Nat), i + d = es.length → d + 200 < k → eponymlaw15_AsnUnions.l1 k a b es (i : Int) = some true
  | 0, i, k, h, hk => by
    obtain ⟨k, rfl⟩ : ∃ m, k = m + 1 := ⟨k - 1, by omega⟩
    simp only [eponymlaw15_AsnUnions.l1]
    rw [if_neg (by omega)]
  | d + 1, i, k, h, hk => by
    obtain ⟨k, rfl⟩ : ∃ m, k = m + 1 := ⟨k - 1, by omega⟩
    have e : wrap64 ((i : Int) + 1) = ((i + 1 : Nat) : Int) := by rw [w64 _ (by omega) (by omega)]; rfl
    have ih := unions_l1 a b ha hb hh es he d (i + 1) k (by omega) (by omega)
    simp only [eponymlaw15_AsnUnions.l1]
    rw [if_pos (by omega), if_pos (by omega), has_f b _ (by omega) k (by omega), has_f a _ (by omega) k (by omega), e]
    simp only [Option.bind_some]
    rw [if_neg ?_]
    · exact ih
    · rw [Bool.not_eq_true, bne_eq_false_iff_eq, Bool.eq_iff_iff, decide_eq_true_eq, decide_eq_true_eq]
      exact (hh _).symm
theorem unions_l0 (a b : List SS) (ha : a.length ≤ 100) (hb : b.length ≤ 100) (hua : U32s (ps a)) (hub : U32s (ps b)) (hg : GoodS (ps b)) (hh : ∀ n, Has (ps a) n ↔ Has (ps b) n) : ∀ (d i k : Nat), b.length ≤ i + d → (d = 0 ∨ i + d = b.length) → 1 ≤ i → d + 1500 < k → eponymlaw15_AsnUnions.l0 k a b (i : Int) = some true
  | 0, i, k, h, hz, h1, hk => by
    obtain ⟨k, rfl⟩ : ∃ m, k = m + 1 := ⟨k - 1, by omega⟩
    obtain ⟨ea, h2, h3, -⟩ := edges_f a (by omega) hua k (by omega)
    obtain ⟨eb, h4, h5, -⟩ := edges_f b (by omega) hub k (by omega)
    simp only [eponymlaw15_AsnUnions.l0]
    rw [if_neg (by omega), h2, h4]
    simp only [Option.bind_some]
    rw [if_pos (by omega)]
    exact unions_l1 a b ha hb hh (ea ++ eb) (by simp; omega) (ea ++ eb).length 0 k (by omega) (by simp; omega)
  | d + 1, i, k, h, hz, h1, hk => by
    obtain ⟨k, rfl⟩ : ∃ m, k = m + 1 := ⟨k - 1, by omega⟩
    have hi : i < b.length := by omega
    have e : wrap64 ((i : Int) + 1) = ((i + 1 : Nat) : Int) := by rw [w64 _ (by omega) (by omega)]; rfl
    have e2 : wrap64 ((i : Int) - 1) = ((i - 1 : Nat) : Int) := by rw [w64 _ (by omega) (by omega)]; omega
    have ih := unions_l0 a b ha hb hua hub hg hh d (i + 1) k (by omega) (by omega) (by omega) (by omega)
    have hp := List.pairwise_iff_getElem.1 hg.1 (i - 1) i (by rw [ps_length]; omega) (by rw [ps_length]; omega) (by omega)
    rw [ps_get b (i - 1) (by omega), ps_get b i hi] at hp
    have hx := hub _ (ps_mem.2 ⟨b[i], List.getElem_mem hi, rfl⟩)
    have hy := hub _ (ps_mem.2 ⟨b[i - 1], List.getElem_mem (by omega), rfl⟩)
    simp only at hp hx hy
    simp only [eponymlaw15_AsnUnions.l0]
    rw [if_pos (by omega), e2, if_pos (by omega), if_pos (by omega), if_pos (by omega), rd_at b (i - 1) (by omega), rd_at b i hi, if_neg (by omega), e]
    exact ih
theorem asnUnions_f (l : List SS) (hu : ∀ x ∈ l, 0 ≤ x.f0 ∧ x.f0 < 4294967296 ∧ 0 ≤ x.f1 ∧ x.f1 < 4294967296) : eponymlaw15_AsnUnions.f 2000 l = some true := by
  unfold eponymlaw15_AsnUnions.f eponymlaw15_awake.f
  simp only [Option.bind_some, if_true]
  by_cases hl : (l.length : Int) > 30
  · rw [if_pos hl]
  · rw [if_neg hl]
    have hU : U32s (ps l) := fun x hx => by obtain ⟨y, hy, rfl⟩ := ps_mem.1 hx; exact hu y hy
    unfold asn_Union.f
    rw [if_pos ⟨by omega, hu⟩]
    simp only [Option.bind_some]
    have hlen : ((unionS (ps l)).map untup).length ≤ 30 := by rw [List.length_map]; have := union_len (ps l); rw [ps_length] at this; omega
    have hps : ps ((unionS (ps l)).map untup) = unionS (ps l) := by
      unfold ps
      rw [List.map_map]
      exact List.map_id _
    obtain ⟨hg, hh⟩ := union_good (ps l)
    obtain ⟨b, hbb⟩ : ∃ b, (unionS (ps l)).map untup = b := ⟨_, rfl⟩
    have hb2 : List.map untup (unionS (List.map tup l)) = b := hbb
    rw [hbb] at hlen hps
    rw [hb2]
    rw [row_f b (by rw [hps]; exact hg.row) (by omega) 2000 (by omega)]
    simp only [Option.bind_some, if_true]
    refine unions_l0 l b (by omega) (by omega) hU (by rw [hps]; exact union_u32 hU) (by rw [hps]; exact hg) (by rw [hps]; exact fun n => (hh n).symm) (b.length - 1) 1 2000 (by omega) (by omega) (by omega) (by omega)
end Go.Proofs.YtanbnlobbgfidaaGreatDoor
