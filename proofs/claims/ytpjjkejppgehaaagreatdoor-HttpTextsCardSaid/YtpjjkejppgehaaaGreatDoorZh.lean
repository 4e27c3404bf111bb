/- What is read of a right response's bytes is that response: in the forms of the walk. -/
import Derived.Test.YtpjjkejppgehaaaGreatDoorZf
import Derived.Test.YtpjjkejppgehaaaGreatDoorZg
namespace Go.Proofs.YtpjjkejppgehaaaGreatDoor
set_option linter.unusedSimpArgs false
set_option linter.unusedVariables false
open Go.RowKit Go.Lib

theorem ba_ext {a b : ByteArray} (h : a.data.toList = b.data.toList) : a = b := by
  apply ByteArray.ext
  exact Array.ext' h
theorem rows_data (s : ByteArray) : (rowsB s).map (·.data.toList) = split s.data.toList sepL := splitB_data sepB 0 _ s
theorem cut_data (s p : ByteArray) : (cutB s p).1.data.toList = (cut s.data.toList p.data.toList).1 ∧ (cutB s p).2.1.data.toList = (cut s.data.toList p.data.toList).2.1 := ⟨by simp [cutB], by simp [cutB]⟩
theorem lines_data : ∀ L : List ByteArray, (linesB L).map plainH = linesP (L.map (·.data.toList))
  | [] => rfl
  | x :: r => by
    have ih := lines_data r
    obtain ⟨c1, c2⟩ := cut_data x colonB
    have c3 : (cutB x colonB).2.2 = (cut x.data.toList colonL).2.2 := rfl
    rw [List.map_cons, linesB, linesP, ← ih, c3]
    split
    · rw [Option.map_map, Option.map_map]
      congr 1
    · rfl
theorem plainH_inj : ∀ l m : HL, plainH l = plainH m → l = m
  | [], [], _ => rfl
  | [], y :: m, h => by cases h
  | x :: l, [], h => by cases h
  | x :: l, y :: m, h => by
    simp only [plainH, List.map_cons, List.cons.injEq, Prod.mk.injEq] at h
    obtain ⟨⟨h1, h2⟩, h3⟩ := h
    rw [plainH_inj l m h3]
    obtain ⟨a, b⟩ := x
    obtain ⟨c, d⟩ := y
    rw [show a = c from ba_ext h1, show b = d from ba_ext h2]
theorem read_of_head (s : ByteArray) (n : Int) (l : HL) (b : ByteArray) (h : headP s.data.toList = some (n, plainH l, b.data.toList)) (ht : textB n l b = s) : readP s = some (n, l, b) := by
  obtain ⟨d1, d2⟩ := cut_data s sep2B
  have d3 : (cutB s sep2B).2.2 = (cut s.data.toList sep2).2.2 := rfl
  have hr := rows_data (cutB s sep2B).1
  have e1 : (cutB s sep2B).1.data.toList = (cut s.data.toList sep2).1 := d1
  have e2 : (cutB s sep2B).2.1.data.toList = (cut s.data.toList sep2).2.1 := d2
  rw [e1] at hr
  have hlen : (split (cut s.data.toList sep2).1 sepL).length = (rowsB (cutB s sep2B).1).length := by rw [← hr, List.length_map]
  have hhd : (split (cut s.data.toList sep2).1 sepL).headD [] = ((rowsB (cutB s sep2B).1).headD ⟨#[]⟩).data.toList := by
    rw [← hr]
    cases rowsB (cutB s sep2B).1 <;> rfl
  have htl : ((split (cut s.data.toList sep2).1 sepL).drop 1).dropLast = (((rowsB (cutB s sep2B).1).drop 1).dropLast).map (·.data.toList) := by
    rw [← hr, ← List.map_drop, List.map_dropLast]
  have htr : trimPrefix ((rowsB (cutB s sep2B).1).headD ⟨#[]⟩).data.toList verL = (trimP ((rowsB (cutB s sep2B).1).headD ⟨#[]⟩)).data.toList := by
    simp [trimP]; rfl
  have hex : ((trimP ((rowsB (cutB s sep2B).1).headD ⟨#[]⟩)).extract 0 3).data.toList = (trimP ((rowsB (cutB s sep2B).1).headD ⟨#[]⟩)).data.toList.take 3 := extract_from_zero _ _
  unfold headP at h
  rw [hhd, hlen, htl, htr] at h
  unfold readP
  have hp : hasP ((rowsB (cutB s sep2B).1).headD ⟨#[]⟩) = hasPrefix ((rowsB (cutB s sep2B).1).headD ⟨#[]⟩).data.toList verL := rfl
  rw [d3, hp, hex]
  rw [szL] at h
  split at h
  · rename_i hc
    rw [if_pos hc]
    split at h
    · cases h
    · rename_i m hm
      rw [hm]
      dsimp only
      rw [← lines_data, Option.map_map] at h
      obtain ⟨l', hl', h2⟩ := Option.map_eq_some_iff.1 h
      simp only [Function.comp, Prod.mk.injEq] at h2
      obtain ⟨rfl, h3, h4⟩ := h2
      rw [hl']
      dsimp only
      obtain rfl := plainH_inj _ _ h3
      have hb : (cutB s sep2B).2.1 = b := ba_ext (by rw [e2, h4])
      rw [hb, if_pos ht]
  · cases h
theorem sort_not13 (c : UInt8) (h : isSort 1 c = true) : c ≠ 13 ∧ c ≠ 58 := by
  constructor
  · rintro rfl; revert h; decide
  · rintro rfl; revert h; decide
theorem sort2_not13 (c : UInt8) (h : isSort 2 c = true) : c ≠ 13 := by
  rintro rfl; revert h; decide
theorem firstBad_none : ∀ (l : HL) (i : Nat), firstBad l i = none → ∀ x ∈ l, badH x.1 x.2 = false
  | [], _, _, x, hx => by cases hx
  | (n, v) :: r, i, h, x, hx => by
    rw [firstBad] at h
    split at h
    · cases h
    · rename_i hb
      rcases List.mem_cons.1 hx with rfl | hx
      · simpa using hb
      · exact firstBad_none r (i + 1) h x hx
theorem right_of (st : Int) (l : HL) (b : ByteArray) (h : checkP st l b = none) : RightP st (wordB st).data.toList (plainH l) := by
  unfold checkP at h
  split at h
  · cases h
  · split at h
    · cases h
    · rename_i h1 h2
      have hf : firstBad l 0 = none := by
        split at h
        · cases h
        · assumption
      have hg := firstBad_none l 0 hf
      have key : ∀ x ∈ l, allS 1 x.1 = true ∧ allS 2 x.2 = true := by
        intro x hx
        have := hg x hx
        unfold badH at this
        simp only [Bool.or_eq_false_iff, Bool.not_eq_false'] at this
        exact ⟨this.1.1.1.2, this.1.1.2⟩
      refine ⟨by omega, by omega, ?_, ?_, ?_⟩
      · unfold wordB
        repeat' split
        all_goals decide
      · intro y hy
        rw [plainH, List.mem_map] at hy
        obtain ⟨x, hx, rfl⟩ := hy
        have := (key x hx).1
        unfold allS at this
        rw [List.all_eq_true] at this
        exact ⟨fun hm => (sort_not13 _ (this _ hm)).1 rfl, fun hm => (sort_not13 _ (this _ hm)).2 rfl⟩
      · intro y hy
        rw [plainH, List.mem_map] at hy
        obtain ⟨x, hx, rfl⟩ := hy
        have := (key x hx).2
        unfold allS at this
        rw [List.all_eq_true] at this
        exact fun hm => sort2_not13 _ (this _ hm) rfl
/-- What is read of a right response's bytes. -/
theorem read_text (st : Int) (l : HL) (b : ByteArray) (h : checkP st l b = none) : readP (textB st l b) = some (st, l, b) := by
  refine read_of_head _ st l b ?_ rfl
  have := head_text st (wordB st).data.toList (plainH l) b.data.toList (right_of st l b h)
  rw [textB, if_pos h]
  simpa using this
theorem textB_len (st : Int) (l : HL) (b : ByteArray) (h : checkP st l b = none) (hb : b.size ≤ 500) (hx : ∀ j (hj : j < l.length), l[j].1.size ≤ 100 ∧ l[j].2.size ≤ 100) : (textB st l b).size ≤ 20000 := by
  have hr := right_of st l b h
  have hl : l.length < 64 := by
    unfold checkP at h
    split at h
    · cases h
    · split at h
      · cases h
      · omega
  have h3 := itoa_len st (by have := hr.lo; omega) (by have := hr.hi; omega)
  have h4 := wordB_len st
  have h5 : (headsL (plainH l)).length ≤ (plainH l).length * (2 * 100 + 4) := by
    apply headsL_len
    intro x hx'
    rw [plainH, List.mem_map] at hx'
    obtain ⟨y, hy, rfl⟩ := hx'
    obtain ⟨j, hj, rfl⟩ := List.getElem_of_mem hy
    simp only [szL]
    exact hx j hj
  have h6 : (plainH l).length = l.length := by rw [plainH, List.length_map]
  have h7 : (plainH l).length * (2 * 100 + 4) ≤ 63 * 204 := Nat.mul_le_mul (by omega) (by omega)
  have h8 := itoa_len (b.data.toList.length : Int) (by omega) (by rw [szL]; omega)
  have h9 := szL b
  have h10 := szL (wordB st)
  rw [textB, if_pos h, szM]
  unfold textL
  simp only [List.length_append, List.length_cons, List.length_nil, show verL.length = 9 from rfl, show sepL.length = 2 from rfl, show sep2.length = 4 from rfl, show clenL.length = 16 from rfl]
  omega
end Go.Proofs.YtpjjkejppgehaaaGreatDoor

/- HttpTexts: the law's walk at any response. -/
namespace Go.Proofs.YtpjjkejppgehaaaGreatDoor
set_option linter.unusedSimpArgs false
set_option linter.unusedVariables false
open Go.RowKit Go.Lib Go.Proofs.YtpjjkejppgehaaaGreatDoorW.PrintWords Go.Proofs.YtpjjkejppgehaaaGreatDoor.PRf

theorem lies_C {w : World} {A : Option Addr} {l : HL} (h : LiesH w A l) (hl : l.length ≤ 9223372036854775807) : Kd.C k43 w A l.length (toS l) := by
  refine ⟨toS_len l, hl, fun hp => ?_⟩
  obtain ⟨ad, h1, h2⟩ := h hp
  refine ⟨ad, h1, fun j p hj => ?_⟩
  have hjl : j < l.length := by rw [← toS_len l]; exact (List.getElem?_eq_some_iff.1 hj).1
  obtain rfl : p = ⟨l[j].1, l[j].2⟩ := by
    unfold toS at hj
    rw [List.getElem?_map, List.getElem?_eq_getElem hjl] at hj
    exact (Option.some.inj hj).symm
  refine ⟨[.string l[j].1, .string l[j].2], rfl, k43_mk w _, fun i u hi => ?_⟩
  obtain ⟨e1, e2⟩ := h2 j hjl
  match i, hi with
  | 0, hi => obtain rfl := Option.some.inj hi; exact e1
  | 1, hi => obtain rfl := Option.some.inj hi; exact e2
theorem great_call (st : Int) (A : Option Addr) (c : Nat) (l : HL) (b : ByteArray) (w : World) (hA : LiesH w A l) (hc : l.length ≤ c) (hcm : l.length ≤ 9223372036854775807) (hx : ∀ j (hj : j < l.length), l[j].1.size ≤ 140737488355328 ∧ l[j].2.size ≤ 140737488355328) :
    Calls Tryz.prog 6 #[.agg #[.int .i64 st, .slice A l.length c, .string b]] w fun e w' => e = .returned (.bool (greatB l b)) ∧ Below w.heap.size w w' := by
  have h := eponymlaw27_great.calls 73 st A c (toS l) b _ w (by rw [toS_len]; exact lies_C hA hcm) (by rw [toS_len]; exact hc) (great_f st l b hx)
  rw [toS_len] at h
  exact h
theorem rcheck_call (st : Int) (A : Option Addr) (c : Nat) (l : HL) (b : ByteArray) (w : World) (hA : LiesH w A l) (hc : l.length ≤ c) (hl : l.length ≤ 1000) (hx : ∀ j (hj : j < l.length), l[j].1.size ≤ 1000 ∧ l[j].2.size ≤ 1000) :
    Calls Tryz.prog 7 #[.agg #[.int .i64 st, .slice A l.length c, .string b]] w fun e w' => e = .returned (.tuple #[.int .i64 (errP (checkP st l b)).1, .int .i64 (errP (checkP st l b)).2]) ∧ Below w.heap.size w w' := by
  obtain ⟨k, hk⟩ := (check_ev st l b (by omega) (fun j hj => by have := hx j hj; omega)).rounds
  have h := eponymref27_Check.calls k st A c (toS l) b _ _ w (by rw [toS_len]; exact lies_C hA (by omega)) (by rw [toS_len]; exact hc) hk
  rw [toS_len] at h
  exact h
theorem rtext_call (st : Int) (A : Option Addr) (c : Nat) (l : HL) (b : ByteArray) (w : World) (hA : LiesH w A l) (hc : l.length ≤ c) (hl : l.length ≤ 1000) (hx : ∀ j (hj : j < l.length), l[j].1.size ≤ 1000 ∧ l[j].2.size ≤ 1000) (hb : b.size ≤ 1000) (hn : checkP st l b = none) :
    Calls Tryz.prog 12 #[.agg #[.int .i64 st, .slice A l.length c, .string b]] w fun e w' => e = .returned (.string (textB st l b)) ∧ Below w.heap.size w w' := by
  obtain ⟨k, hk⟩ := (text_ev st l b (fun j hj => by have := hx j hj; omega) (by omega) hn).rounds
  have h := eponymref27_Text.calls k st A c (toS l) b _ w (by rw [toS_len]; exact lies_C hA (by omega)) (by rw [toS_len]; exact hc) hk
  rw [toS_len] at h
  exact h
theorem same_call (A A' : Option Addr) (c c' : Nat) (l : HL) (w : World) (hA : LiesH w A l) (hA' : LiesH w A' l) (hc : l.length ≤ c) (hc' : l.length ≤ c') (hl : l.length ≤ 1000) :
    Calls Tryz.prog 13 #[.slice A l.length c, .slice A' l.length c'] w fun e w' => e = .returned (.bool true) ∧ Below w.heap.size w w' := by
  have h := eponymref27_SameHeaders.calls (l.length + 1) A c (toS l) A' c' (toS l) _ w (by rw [toS_len]; exact lies_C hA (by omega)) (by rw [toS_len]; exact hc) (by rw [toS_len]; exact lies_C hA' (by omega)) (by rw [toS_len]; exact hc') (same_f l (by omega))
  rw [toS_len] at h
  refine h.mono ?_
  rintro e w' ⟨rfl, n, rfl⟩
  exact ⟨rfl, Below.drewN (Below.refl _ _) n⟩
theorem great_not (l : HL) (b : ByteArray) (h : greatB l b = false) : l.length ≤ 70 ∧ b.size ≤ 500 ∧ ∀ j (hj : j < l.length), l[j].1.size ≤ 100 ∧ l[j].2.size ≤ 100 := by
  unfold greatB at h
  simp only [Bool.or_eq_false_iff, decide_eq_false_iff_not] at h
  obtain ⟨⟨h1, h2⟩, h3⟩ := h
  refine ⟨by omega, by omega, fun j hj => ?_⟩
  rw [List.any_eq_false] at h3
  have := h3 _ (List.getElem_mem hj)
  unfold bigH at this
  rw [decide_eq_true_eq] at this
  omega
theorem isB_self (x : Option (Int × Nat)) (h : ∀ a c, x = some (a, c) → 1 ≤ c ∧ c ≤ 18) : isB x (errP x).1 (errP x).2 = true ∧ 0 ≤ (errP x).2 ∧ (errP x).2 ≤ 18 := by
  match x with
  | none => exact ⟨rfl, by decide, by decide⟩
  | some (a, c) =>
    obtain ⟨h1, h2⟩ := h a c rfl
    refine ⟨?_, ?_, ?_⟩
    · simp only [isB, errP]
      simp
      omega
    · show 0 ≤ (c : Int); omega
    · show (c : Int) ≤ 18; omega
theorem check_code (st : Int) (l : HL) (b : ByteArray) (a : Int) (c : Nat) (h : checkP st l b = some (a, c)) : 1 ≤ c ∧ c ≤ 18 := by
  unfold checkP at h
  split at h
  · injection h with h; injection h with _ h; omega
  · split at h
    · injection h with h; injection h with _ h; omega
    · split at h
      · injection h with h; injection h with _ h; omega
      · split at h
        · injection h with h; injection h with _ h; omega
        · cases h
set_option maxRecDepth 20000 in
set_option maxHeartbeats 4000000 in
theorem texts_great (st : Int) (A : Option Addr) (c : Nat) (l : HL) (b : ByteArray) (w : World) (hI : RInv w) (hA : LiesH w A l) (hc : l.length ≤ c) (hcm : l.length ≤ 9223372036854775807) (hx : ∀ j (hj : j < l.length), l[j].1.size ≤ 140737488355328 ∧ l[j].2.size ≤ 140737488355328) (hg : greatB l b = true) :
    Calls Tryz.prog 3 #[.agg #[.int .i64 st, .slice A l.length c, .string b]] w fun e w' => e = .returned (.bool true) ∧ Below w.heap.size w w' := by
  have hb0 : Below w.heap.size w (w.alloc (.cells #[.int .i64 st, .slice A l.length c, .string b] 24)) := (Below.refl _ _).alloc (Nat.le_refl _) _
  have HN := Lib.hid (heap_alloc_new w (.cells #[.int .i64 st, .slice A l.length c, .string b] 24))
  have HB0 := Lib.hid hb0
  have HW := Lib.hid (awake_any (w.alloc (.cells #[.int .i64 st, .slice A l.length c, .string b] 24)))
  have C := Lib.hid (fun x (h : LiesH x A l) => great_call st A c l b x h hc hcm hx)
  rw [hg] at C
  have HA := Lib.hid (hA.below hb0)
  clear hb0 hI hA hc hcm hx hg
  go_enter Tryz.func3, Tryz.ntmps3
  go_wp2_with (first
    | (go_at_call 5; (with_reducible refine Calls.mono HW.out ?_); rintro e w1 ⟨rfl, hb⟩; have HB1 := Lib.hid hb; have hn := below_blk hb HN.out; have q0 := (blk_cell hn 0).trans rfl; have q1 := (blk_cell hn 1).trans rfl; have q2 := (blk_cell hn 2).trans rfl; have HA1 := Lib.hid (HA.out.below hb); clear hb hn)
    | (go_at_call 6; (with_reducible refine Calls.mono (C.out _ HA1.out) ?_); rintro e w2 ⟨rfl, hb⟩; have HB2 := Lib.hid hb; clear hb))
  go_ret
  exact ⟨rfl, below_to HB0.out (below_to HB1.out HB2.out)⟩
set_option maxRecDepth 20000 in
set_option maxHeartbeats 8000000 in
theorem texts_bad (st : Int) (A : Option Addr) (c : Nat) (l : HL) (b : ByteArray) (w : World) (hI : RInv w) (hA : LiesH w A l) (hc : l.length ≤ c) (hg : greatB l b = false) (a : Int) (m : Nat) (hk : checkP st l b = some (a, m)) :
    Calls Tryz.prog 3 #[.agg #[.int .i64 st, .slice A l.length c, .string b]] w fun e w' => e = .returned (.bool true) ∧ Below w.heap.size w w' := by
  have hb0 : Below w.heap.size w (w.alloc (.cells #[.int .i64 st, .slice A l.length c, .string b] 24)) := (Below.refl _ _).alloc (Nat.le_refl _) _
  have HN := Lib.hid (heap_alloc_new w (.cells #[.int .i64 st, .slice A l.length c, .string b] 24))
  have HB0 := Lib.hid hb0
  have HW := Lib.hid (awake_any (w.alloc (.cells #[.int .i64 st, .slice A l.length c, .string b] 24)))
  obtain ⟨g1, g2, g3⟩ := great_not l b hg
  have C := Lib.hid (fun x (h : LiesH x A l) => great_call st A c l b x h hc (by omega) (fun j hj => by have := g3 j hj; omega))
  rw [hg] at C
  have CR := Lib.hid (fun x (h : LiesH x A l) => rcheck_call st A c l b x h hc (by omega) (fun j hj => by have := g3 j hj; omega))
  have CT := Lib.hid (fun x (hr : RInv x) (h : LiesH x A l) => text_any st A c l b x hr.is hr.pow h (fun j hj => by have := g3 j hj; omega) (by omega))
  have CC := Lib.hid (fun x (hr : RInv x) (h : LiesH x A l) => check_all st A c l b x hr.is h (fun j hj => by have := g3 j hj; omega) (by omega))
  have HA := Lib.hid (hA.below hb0)
  have HR := Lib.hid (hI.below hb0)
  have hm := check_code st l b a m hk
  obtain ⟨hi1, hi2, hi3⟩ := isB_self (checkP st l b) (fun a c h => check_code st l b a c h)
  have CI := Lib.hid (fun (v : Value) x (hf : FltIs x v (checkP st l b)) (hx : IsInv x) => is_any v _ (errP (checkP st l b)).1 (errP (checkP st l b)).2 hi2 hi3 x hf hx)
  rw [hi1] at CI
  have hT : textB st l b = ⟨#[]⟩ := by rw [textB, if_neg (by rw [hk]; simp)]
  rw [hT] at CT
  rw [hk] at CR CC CI
  have CR : Hid (∀ x, LiesH x A l → Calls Tryz.prog 7 #[.agg #[.int .i64 st, .slice A l.length c, .string b]] x fun e w' => e = .returned (.tuple #[.int .i64 a, .int .i64 (m : Int)]) ∧ Below x.heap.size x w') := CR
  have CI : Hid (∀ (v : Value) (x : World), FltIs x v (some (a, m)) → IsInv x → Calls Tryz.prog 9 #[v, .int .i64 a, .int .i64 (m : Int)] x fun e w' => e = .returned (.bool true) ∧ Below x.heap.size x w') := CI
  have hm0 : ((m : Int) != 0) = true := by rw [bne_iff_ne]; omega
  have hm1 : ((m : Int) == 0) = false := by rw [beq_eq_false_iff_ne]; omega
  clear hb0 hI hA hc hg g1 g2 g3 hk hm hi1 hi2 hi3 hT
  go_enter Tryz.func3, Tryz.ntmps3
  go_wp2_with (first
    | (go_at_call 5; (with_reducible refine Calls.mono HW.out ?_); rintro e w1 ⟨rfl, hb⟩; have HB1 := Lib.hid (below_to HB0.out hb); have hn := below_blk hb HN.out; have HN1 := Lib.hid hn; have q0 := (blk_cell hn 0).trans rfl; have q1 := (blk_cell hn 1).trans rfl; have q2 := (blk_cell hn 2).trans rfl; have HA1 := Lib.hid (HA.out.below hb); have HR1 := Lib.hid (HR.out.below hb); clear hb hn)
    | (go_at_call 6; (with_reducible refine Calls.mono (C.out _ HA1.out) ?_); rintro e w2 ⟨rfl, hb⟩; have HB2 := Lib.hid (below_to HB1.out hb); have hn := below_blk hb HN1.out; have HN2 := Lib.hid hn; have q0 := (blk_cell hn 0).trans rfl; have q1 := (blk_cell hn 1).trans rfl; have q2 := (blk_cell hn 2).trans rfl; have HA2 := Lib.hid (HA1.out.below hb); have HR2 := Lib.hid (HR1.out.below hb); clear hb hn)
    | (go_at_call 7; (with_reducible refine Calls.mono (CR.out _ HA2.out) ?_); rintro e w3 ⟨rfl, hb⟩; have HB3 := Lib.hid (below_to HB2.out hb); have hn := below_blk hb HN2.out; have HN3 := Lib.hid hn; have q0 := (blk_cell hn 0).trans rfl; have q1 := (blk_cell hn 1).trans rfl; have q2 := (blk_cell hn 2).trans rfl; have HA3 := Lib.hid (HA2.out.below hb); have HR3 := Lib.hid (HR2.out.below hb); clear hb hn)
    | (go_at_call 8; (with_reducible refine Calls.mono (CT.out _ HR3.out HA3.out) ?_); rintro e w4 ⟨rfl, hb⟩; have HB4 := Lib.hid (below_to HB3.out hb); have hn := below_blk hb HN3.out; have HN4 := Lib.hid hn; have q0 := (blk_cell hn 0).trans rfl; have q1 := (blk_cell hn 1).trans rfl; have q2 := (blk_cell hn 2).trans rfl; have HA4 := Lib.hid (HA3.out.below hb); have HR4 := Lib.hid (HR3.out.below hb); clear hb hn)
    | (go_at_call 10; (with_reducible refine Calls.mono (CC.out _ HR4.out HA4.out) ?_); rintro e w5 ⟨v, rfl, hv, hb⟩; have HV := Lib.hid hv; have HB5 := Lib.hid (below_to HB4.out hb); have hn := below_blk hb HN4.out; have HN5 := Lib.hid hn; have q0 := (blk_cell hn 0).trans rfl; have q1 := (blk_cell hn 1).trans rfl; have q2 := (blk_cell hn 2).trans rfl; have HA5 := Lib.hid (HA4.out.below hb); have HR5 := Lib.hid (HR4.out.below hb); clear hb hn hv)
    | (go_at_call 9; (with_reducible refine Calls.mono (CI.out _ _ HV.out HR5.out.is) ?_); rintro e w6 ⟨rfl, hb⟩; have HB6 := Lib.hid (below_to HB5.out hb); have hn := below_blk hb HN5.out; have HN6 := Lib.hid hn; have q0 := (blk_cell hn 0).trans rfl; have q1 := (blk_cell hn 1).trans rfl; have q2 := (blk_cell hn 2).trans rfl; have HA6 := Lib.hid (HA5.out.below hb); have HR6 := Lib.hid (HR5.out.below hb); clear hb hn))
  go_ret
  exact ⟨by simp, HB6.out⟩
set_option maxRecDepth 20000 in
set_option maxHeartbeats 8000000 in
theorem texts_good (st : Int) (A : Option Addr) (c : Nat) (l : HL) (b : ByteArray) (w : World) (hI : RInv w) (hA : LiesH w A l) (hc : l.length ≤ c) (hg : greatB l b = false) (hk : checkP st l b = none) :
    Calls Tryz.prog 3 #[.agg #[.int .i64 st, .slice A l.length c, .string b]] w fun e w' => e = .returned (.bool true) ∧ Below w.heap.size w w' := by
  have hb0 : Below w.heap.size w (w.alloc (.cells #[.int .i64 st, .slice A l.length c, .string b] 24)) := (Below.refl _ _).alloc (Nat.le_refl _) _
  have HN := Lib.hid (heap_alloc_new w (.cells #[.int .i64 st, .slice A l.length c, .string b] 24))
  have HB0 := Lib.hid hb0
  have HW := Lib.hid (awake_any (w.alloc (.cells #[.int .i64 st, .slice A l.length c, .string b] 24)))
  obtain ⟨g1, g2, g3⟩ := great_not l b hg
  have C := Lib.hid (fun x (h : LiesH x A l) => great_call st A c l b x h hc (by omega) (fun j hj => by have := g3 j hj; omega))
  rw [hg] at C
  have CR := Lib.hid (fun x (h : LiesH x A l) => rcheck_call st A c l b x h hc (by omega) (fun j hj => by have := g3 j hj; omega))
  have CT := Lib.hid (fun x (hr : RInv x) (h : LiesH x A l) => text_any st A c l b x hr.is hr.pow h (fun j hj => by have := g3 j hj; omega) (by omega))
  have CC := Lib.hid (fun x (hr : RInv x) (h : LiesH x A l) => check_all st A c l b x hr.is h (fun j hj => by have := g3 j hj; omega) (by omega))
  have HA := Lib.hid (hA.below hb0)
  have HR := Lib.hid (hI.below hb0)
  have CI := Lib.hid (fun (v : Value) x (hf : FltIs x v none) (hx : IsInv x) => is_any v none 0 0 (by decide) (by decide) x hf hx)
  have hsz := textB_len st l b hk g2 g3
  have hrd := read_text st l b hk
  have CX := Lib.hid (fun x (h : LiesH x A l) => rtext_call st A c l b x h hc (by omega) (fun j hj => by have := g3 j hj; omega) (by omega) hk)
  have CRd := Lib.hid (fun x (hx : RInv x) => read_any (textB st l b) hsz x hx)
  have CS := Lib.hid (fun (A' : Option Addr) (c' : Nat) x (h : LiesH x A l) (h' : LiesH x A' l) (hc' : l.length ≤ c') => same_call A' A c' c l x h' h hc' hc (by omega))
  rw [hrd] at CRd
  generalize textB st l b = T at CT CX CRd
  rw [hk] at CR CC
  have CR : Hid (∀ x, LiesH x A l → Calls Tryz.prog 7 #[.agg #[.int .i64 st, .slice A l.length c, .string b]] x fun e w' => e = .returned (.tuple #[.int .i64 0, .int .i64 0]) ∧ Below x.heap.size x w') := CR
  have CI : Hid (∀ (v : Value) (x : World), FltIs x v none → IsInv x → Calls Tryz.prog 9 #[v, .int .i64 0, .int .i64 0] x fun e w' => e = .returned (.bool true) ∧ Below x.heap.size x w') := CI
  clear hb0 hI hA hc hg g1 g2 g3 hk hsz hrd
  go_enter Tryz.func3, Tryz.ntmps3
  go_wp2_with (first
    | (go_at_call 5; (with_reducible refine Calls.mono HW.out ?_); rintro e w1 ⟨rfl, hb⟩; have HB1 := Lib.hid (below_to HB0.out hb); have hn := below_blk hb HN.out; have HN1 := Lib.hid hn; have q0 := (blk_cell hn 0).trans rfl; have q1 := (blk_cell hn 1).trans rfl; have q2 := (blk_cell hn 2).trans rfl; have HA1 := Lib.hid (HA.out.below hb); have HR1 := Lib.hid (HR.out.below hb); clear hb hn)
    | (go_at_call 6; (with_reducible refine Calls.mono (C.out _ HA1.out) ?_); rintro e w2 ⟨rfl, hb⟩; have HB2 := Lib.hid (below_to HB1.out hb); have hn := below_blk hb HN1.out; have HN2 := Lib.hid hn; have q0 := (blk_cell hn 0).trans rfl; have q1 := (blk_cell hn 1).trans rfl; have q2 := (blk_cell hn 2).trans rfl; have HA2 := Lib.hid (HA1.out.below hb); have HR2 := Lib.hid (HR1.out.below hb); clear hb hn)
    | (go_at_call 7; (with_reducible refine Calls.mono (CR.out _ HA2.out) ?_); rintro e w3 ⟨rfl, hb⟩; have HB3 := Lib.hid (below_to HB2.out hb); have hn := below_blk hb HN2.out; have HN3 := Lib.hid hn; have q0 := (blk_cell hn 0).trans rfl; have q1 := (blk_cell hn 1).trans rfl; have q2 := (blk_cell hn 2).trans rfl; have HA3 := Lib.hid (HA2.out.below hb); have HR3 := Lib.hid (HR2.out.below hb); clear hb hn)
    | (go_at_call 8; (with_reducible refine Calls.mono (CT.out _ HR3.out HA3.out) ?_); rintro e w4 ⟨rfl, hb⟩; have HB4 := Lib.hid (below_to HB3.out hb); have hn := below_blk hb HN3.out; have HN4 := Lib.hid hn; have q0 := (blk_cell hn 0).trans rfl; have q1 := (blk_cell hn 1).trans rfl; have q2 := (blk_cell hn 2).trans rfl; have HA4 := Lib.hid (HA3.out.below hb); have HR4 := Lib.hid (HR3.out.below hb); clear hb hn)
    | (go_at_call 10; (with_reducible refine Calls.mono (CC.out _ HR4.out HA4.out) ?_); rintro e w5 ⟨v, rfl, hv, hb⟩; have HV := Lib.hid hv; have HB5 := Lib.hid (below_to HB4.out hb); have hn := below_blk hb HN4.out; have HN5 := Lib.hid hn; have q0 := (blk_cell hn 0).trans rfl; have q1 := (blk_cell hn 1).trans rfl; have q2 := (blk_cell hn 2).trans rfl; have HA5 := Lib.hid (HA4.out.below hb); have HR5 := Lib.hid (HR4.out.below hb); clear hb hn hv)
    | (go_at_call 9; (with_reducible refine Calls.mono (CI.out _ _ HV.out HR5.out.is) ?_); rintro e w6 ⟨rfl, hb⟩; have HB6 := Lib.hid (below_to HB5.out hb); have hn := below_blk hb HN5.out; have HN6 := Lib.hid hn; have q0 := (blk_cell hn 0).trans rfl; have q1 := (blk_cell hn 1).trans rfl; have q2 := (blk_cell hn 2).trans rfl; have HA6 := Lib.hid (HA5.out.below hb); have HR6 := Lib.hid (HR5.out.below hb); clear hb hn)
    | (go_at_call 11; (with_reducible refine Calls.mono (CRd.out _ HR6.out) ?_); rintro e w7 ⟨v7, rfl, ⟨A', c', rfl, hl7, hc7⟩, hb⟩; have HL7 := Lib.hid hl7; have HC7 := Lib.hid hc7; have HB7 := Lib.hid (below_to HB6.out hb); have hn := below_blk hb HN6.out; have HN7 := Lib.hid hn; have q0 := (blk_cell hn 0).trans rfl; have q1 := (blk_cell hn 1).trans rfl; have q2 := (blk_cell hn 2).trans rfl; have HA7 := Lib.hid (HA6.out.below hb); have hnz := below_blk ((Below.refl w7.heap.size w7).alloc (Nat.le_refl _) (.cells #[.int .i64 st, .slice A' l.length c', .string b] 24)) hn; have z0 := (blk_cell hnz 0).trans rfl; have z1 := (blk_cell hnz 1).trans rfl; have z2 := (blk_cell hnz 2).trans rfl; clear hb hn hl7 hc7 hnz)
    | (go_at_call 12; (with_reducible refine Calls.mono (CX.out _ (HA7.out.below ((Below.refl _ _).alloc (Nat.le_refl _) _))) ?_); rintro e w8 ⟨rfl, hb⟩; have HB8 := Lib.hid (below_to (HB7.out.alloc HB7.out.size _) hb); have hn := below_blk hb (below_blk ((Below.refl _ _).alloc (Nat.le_refl _) _) HN7.out); have q0 := (blk_cell hn 0).trans rfl; have q1 := (blk_cell hn 1).trans rfl; have q2 := (blk_cell hn 2).trans rfl; have hn2 := below_blk hb (heap_alloc_new w7 _); have y0 := (blk_cell hn2 0).trans rfl; have y1 := (blk_cell hn2 1).trans rfl; have y2 := (blk_cell hn2 2).trans rfl; have HA8 := Lib.hid ((HA7.out.below ((Below.refl _ _).alloc (Nat.le_refl _) _)).below hb); have HL8 := Lib.hid ((HL7.out.below ((Below.refl _ _).alloc (Nat.le_refl _) _)).below hb); clear hb hn hn2)
    | (go_at_call 13; (with_reducible refine Calls.mono (CS.out _ _ _ HA8.out HL8.out HC7.out) ?_); rintro e w9 ⟨rfl, hb⟩; have HB9 := Lib.hid (below_to HB8.out hb); clear hb))
  go_ret
  exact ⟨by simp, HB9.out⟩
/-- HttpTexts answers true. -/
theorem texts_any (st : Int) (A : Option Addr) (c : Nat) (l : HL) (b : ByteArray) (w : World) (hI : RInv w) (hA : LiesH w A l) (hc : l.length ≤ c) (hcm : l.length ≤ 9223372036854775807) (hx : ∀ j (hj : j < l.length), l[j].1.size ≤ 140737488355328 ∧ l[j].2.size ≤ 140737488355328) :
    Calls Tryz.prog 3 #[.agg #[.int .i64 st, .slice A l.length c, .string b]] w fun e w' => e = .returned (.bool true) ∧ Below w.heap.size w w' := by
  cases hg : greatB l b with
  | true => exact texts_great st A c l b w hI hA hc hcm hx hg
  | false =>
    cases hk : checkP st l b with
    | none => exact texts_good st A c l b w hI hA hc hg hk
    | some x =>
      obtain ⟨a, m⟩ := x
      exact texts_bad st A c l b w hI hA hc hg a m hk
end Go.Proofs.YtpjjkejppgehaaaGreatDoor
