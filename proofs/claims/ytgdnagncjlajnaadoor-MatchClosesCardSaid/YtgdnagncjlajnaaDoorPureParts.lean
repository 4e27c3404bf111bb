/- The parts of a text by its dots: the library's split and the document's own loop tell the same. -/
import Derived.Test.YtgdnagncjlajnaaDoorPAllx5
import Derived.Test.YtgdnagncjlajnaaDoorPureGlobs
namespace Go.Proofs.YtgdnagncjlajnaaDoor.Pure
set_option linter.unusedSimpArgs false
open Go.RowKit Go.Proofs.YtgdnagncjlajnaaDoor.PAll Go.Proofs.YtgdnagncjlajnaaDoorW.PrintWords Go.Proofs.YtgdnagncjlajnaaDoorW.PrintLast

/-- What stands between dots, some bytes of the first piece being known. -/
def segs : List UInt8 → List UInt8 → List (List UInt8)
  | pre, [] => [pre]
  | pre, b :: t => if b = 46 then pre :: segs [] t else segs (pre ++ [b]) t
/-- The parts of a text. -/
def partsL (s : List UInt8) : List (List UInt8) := if s = [] then [] else segs [] s

theorem idx_none (pre : List UInt8) (h : ∀ x ∈ pre, x ≠ 46) : Lib.index pre [46] = -1 := by
  rw [Lib.index_one]
  induction pre with
  | nil => rfl
  | cons b t ih =>
    rw [Lib.indexByte, if_neg (by simpa using h b (by simp)), ih (fun x hx => h x (by simp [hx]))]; rfl
theorem idx_dot (pre t : List UInt8) (h : ∀ x ∈ pre, x ≠ 46) : Lib.index (pre ++ 46 :: t) [46] = pre.length := by
  rw [Lib.index_one]
  induction pre with
  | nil => simp [Lib.indexByte]
  | cons b l ih =>
    have h1 := ih (fun x hx => h x (by simp [hx]))
    rw [List.cons_append, Lib.indexByte, if_neg (by simpa using h b (by simp)), h1]
    simp
theorem split_segs (rest : List UInt8) : ∀ pre, (∀ x ∈ pre, x ≠ 46) → Lib.splitK [46] 0 (Lib.count (pre ++ rest) [46]) (pre ++ rest) = segs pre rest := by
  induction rest with
  | nil =>
    intro pre h
    rw [List.append_nil, Lib.count_miss (idx_none pre h)]
    rfl
  | cons b t ih =>
    intro pre h
    by_cases hb : b = 46
    · subst hb
      have hi := idx_dot pre t h
      rw [Lib.count_hit (by simp) hi, Nat.add_comm, Lib.splitK, hi]
      have hd : (pre ++ 46 :: t).drop (pre.length + ([46] : List UInt8).length) = t := by
        rw [← List.drop_drop, List.drop_left]; rfl
      rw [if_neg (by simp), segs, if_pos rfl, Int.toNat_natCast, hd, Nat.add_zero, List.take_left]
      have := ih [] (by simp)
      rw [List.nil_append] at this
      rw [this]
    · have := ih (pre ++ [b]) (fun x hx => by
        rcases List.mem_append.1 hx with hx | hx
        · exact h x hx
        · rw [List.mem_singleton] at hx; rw [hx]; exact hb)
      rw [List.append_assoc, List.singleton_append] at this
      rw [this, segs, if_neg hb]

theorem drop_nil (l : List UInt8) (i : Nat) (h : l.length ≤ i) : l.drop i = [] := List.drop_eq_nil_of_le h
theorem toL_nil (s : ByteArray) : (s.toList = ([] : List UInt8)) ↔ s.data.toList = [] := by rw [Lib.toList_data]
/-- The library's way. -/
theorem parts_lib (s : ByteArray) (h : s.size < 4294967281) : ∃ r, name_Parts.f s = some r ∧ r.map (·.data.toList) = partsL s.data.toList := by
  unfold name_Parts.f partsL
  by_cases c : s.data.toList = []
  · rw [if_pos ((toL_nil s).2 c), if_pos c]; exact ⟨[], rfl, rfl⟩
  · rw [if_neg (fun e => c ((toL_nil s).1 e)), if_neg c]
    unfold strings_Split.f
    rw [if_pos h, if_pos (by decide)]
    refine ⟨_, rfl, ?_⟩
    rw [Lib.splitB_data]
    have := split_segs s.data.toList [] (by simp)
    rw [List.nil_append] at this
    exact this

theorem ext_data (s : ByteArray) (a b : Nat) : (s.extract a b).data.toList = (s.data.toList.take b).drop a := by rw [Lib.extract_data, List.drop_take]
theorem map_inj {a b : List ByteArray} (h : a.map (·.data.toList) = b.map (·.data.toList)) : a = b := by
  induction a generalizing b with
  | nil => cases b with
    | nil => rfl
    | cons => simp at h
  | cons x a ih => cases b with
    | nil => simp at h
    | cons y b =>
      simp only [List.map_cons, List.cons.injEq] at h
      rw [WideShapes.bytes_inj h.1, ih h.2]

/-- The document's loop. -/
theorem ref_parts (s : ByteArray) (hs : s.size ≤ 1000000) (d : Nat) : ∀ (i from_ : Nat) (acc : List ByteArray), i + d = s.size → from_ ≤ i → acc.length ≤ i →
    ∃ r, Ev (fun K => eponymref11_Parts.l0 K s acc (from_ : Int) (i : Int)) r ∧ r.map (·.data.toList) = acc.map (·.data.toList) ++ segs ((s.data.toList.take i).drop from_) (s.data.toList.drop i) := by
  have e := size_len s
  induction d with
  | zero =>
    intro i from_ acc hi hf ha
    obtain rfl : i = s.size := by omega
    refine ⟨acc ++ [s.extract from_ s.size], ?_, ?_⟩
    · refine Ev.step (fun K => by rw [eponymref11_Parts.l0]) ?_
      simp only [show ((s.size : Int) ≤ (s.size : Int)) from by omega, show (0 ≤ (from_ : Int)) from by omega, show ((from_ : Int) ≤ (s.size : Int)) from by omega, show acc.length < 8796093022208 from by omega, if_true, Int.toNat_natCast]
      rw [w64 (by omega) (by omega)]
      refine Ev.step (fun K => by rw [eponymref11_Parts.l0]) ?_
      simp only [show ¬ ((s.size : Int) + 1 ≤ (s.size : Int)) from by omega, if_false]
      exact Ev.now _
    · rw [List.map_append, List.map_singleton, ext_data, drop_nil s.data.toList _ (by omega)]; rfl
  | succ d ih =>
    intro i from_ acc hi hf ha
    have hi1 : i < s.data.toList.length := by omega
    have hd : s.data.toList.drop i = s.data.toList[i] :: s.data.toList.drop (i + 1) := List.drop_eq_getElem_cons hi1
    have hr : ∀ r, Ev (fun K => if (bt s (i : Int)) = 46 then (if 0 ≤ (from_ : Int) then (if (from_ : Int) ≤ (i : Int) then (if acc.length < 8796093022208 then (eponymref11_Parts.l0 K s (acc ++ [s.extract (from_ : Int).toNat (i : Int).toNat]) (wrap64 ((i : Int) + 1)) (wrap64 ((i : Int) + 1))) else (none)) else (none)) else (none)) else (eponymref11_Parts.l0 K s acc (from_ : Int) (wrap64 ((i : Int) + 1)))) r → Ev (fun K => eponymref11_Parts.l0 K s acc (from_ : Int) (i : Int)) r := by
      intro r h
      refine Ev.step (fun K => by rw [eponymref11_Parts.l0]) ?_
      simp only [show ((i : Int) ≤ (s.size : Int)) from by omega, show ¬ ((i : Int) = (s.size : Int)) from by omega, show (0 ≤ (i : Int)) from by omega, show ((i : Int) < (s.size : Int)) from by omega, if_true, if_false]
      exact h
    by_cases c : s.data.toList[i] = 46
    · have hb : bt s (i : Int) = 46 := by rw [bt_list s i hi1, c]; rfl
      obtain ⟨r, h1, h2⟩ := ih (i + 1) (i + 1) (acc ++ [s.extract from_ i]) (by omega) (by omega) (by simp; omega)
      refine ⟨r, hr r ?_, ?_⟩
      · simp only [hb, show (0 ≤ (from_ : Int)) from by omega, show ((from_ : Int) ≤ (i : Int)) from by omega, show acc.length < 8796093022208 from by omega, if_true, Int.toNat_natCast]
        rw [w64 (by omega) (by omega)]
        exact h1
      · rw [h2, List.map_append, List.map_singleton, ext_data, drop_nil (s.data.toList.take (i + 1)) _ (by rw [List.length_take]; omega), hd, segs, if_pos c, List.append_assoc]; rfl
    · have hb : ¬ bt s (i : Int) = 46 := by
        rw [bt_list s i hi1]
        intro e
        apply c
        apply UInt8.toNat.inj
        show _ = 46
        omega
      obtain ⟨r, h1, h2⟩ := ih (i + 1) from_ acc (by omega) (by omega) (by omega)
      refine ⟨r, hr r ?_, ?_⟩
      · simp only [hb, if_false]
        rw [w64 (by omega) (by omega)]
        exact h1
      · rw [h2, hd, segs, if_neg c, List.take_succ_eq_append_getElem hi1, List.drop_append_of_le_length (by simp; omega)]
theorem parts_ref (s : ByteArray) (hs : s.size ≤ 1000000) : ∃ r, Ev (fun K => eponymref11_Parts.f K s) r ∧ r.map (·.data.toList) = partsL s.data.toList := by
  unfold eponymref11_Parts.f partsL
  by_cases c : s.data.toList = []
  · simp only [(toL_nil s).2 c, c, if_true]; exact ⟨[], Ev.now _, rfl⟩
  · simp only [show ¬ s.toList = [] from fun e => c ((toL_nil s).1 e), c, if_false]
    obtain ⟨r, h1, h2⟩ := ref_parts s hs s.size 0 0 [] (by omega) (by omega) (by simp)
    exact ⟨r, h1, by rw [h2]; simp⟩

/-! ### Pieces -/
/-- Does a piece mean a text? -/
def pieceB (t : ByteArray) (o : Bool) (s : ByteArray) : Bool := if o then decide (t.size ≤ s.size) && ((s.extract 0 t.size).toList == t.toList) else s.toList == t.toList
theorem piece_is (t : ByteArray) (o : Bool) (s : ByteArray) : match_Piece.f t o s = some (pieceB t o s) := by
  unfold match_Piece.f strings_HasPrefix.f stringslite_HasPrefix.f pieceB
  cases o with
  | false => simp
  | true =>
    simp only [if_true]
    by_cases c : t.size ≤ s.size
    · simp [c, show (s.size : Int) ≥ (t.size : Int) by omega, show (t.size : Int) ≤ (s.size : Int) by omega]
    · simp [c, show ¬ (s.size : Int) ≥ (t.size : Int) by omega]
theorem piece_ref (t : ByteArray) (o : Bool) (s : ByteArray) : eponymref18_Piece.f t o s = some (pieceB t o s) := by
  unfold eponymref18_Piece.f pieceB
  cases o with
  | false => simp
  | true =>
    simp only [if_true]
    by_cases c : t.size ≤ s.size
    · simp [c, show (s.size : Int) ≥ (t.size : Int) by omega, show (t.size : Int) ≤ (s.size : Int) by omega]
    · simp [c, show ¬ (s.size : Int) ≥ (t.size : Int) by omega]
/-- Do pieces mean texts, one by one? -/
def meansL (l : List S28) (t : List ByteArray) : Bool := (List.zip l t).all fun x => pieceB x.1.f0 x.1.f1 x.2
/-- Does a pattern mean a text of these parts? -/
def meansB (whole : Bool) (l : List S28) (s : ByteArray) (t : List ByteArray) : Bool :=
  if whole then l.length == 1 && pieceB (rd_T28 l 0).f0 (rd_T28 l 0).f1 s else t.length == l.length && meansL l t
theorem rd28 (l : List S28) (i : Nat) (h : i < l.length) : rd_T28 l (i : Int) = l[i] := by
  unfold rd_T28; rw [Int.toNat_natCast]; simp [h]
theorem rdB (l : List ByteArray) (i : Nat) (h : i < l.length) : rdOf ByteArray.empty l (i : Int) = l[i] := by
  unfold rdOf; rw [Int.toNat_natCast]; simp [h]
theorem means_step (l : List S28) (t : List ByteArray) (i : Nat) (h1 : i < l.length) (h2 : i < t.length) :
    meansL (l.drop i) (t.drop i) = (pieceB l[i].f0 l[i].f1 t[i] && meansL (l.drop (i + 1)) (t.drop (i + 1))) := by
  rw [List.drop_eq_getElem_cons h1, List.drop_eq_getElem_cons h2]; rfl
theorem means_ev (t : List ByteArray) (l : List S28) (hl : l.length ≤ 1000000) (ht : t.length = l.length) (d : Nat) : ∀ i, i + d = l.length →
    Ev (fun K => match_Means.l0 K t l (l.length : Int) (i : Int)) (meansL (l.drop i) (t.drop i)) := by
  induction d with
  | zero =>
    intro i hi
    refine Ev.step (fun K => by rw [match_Means.l0]) ?_
    simp only [show ¬ ((i : Int) < (l.length : Int)) from by omega, if_false]
    rw [List.drop_eq_nil_of_le (by omega)]
    exact Ev.now _
  | succ d ih =>
    intro i hi
    refine Ev.step (fun K => by rw [match_Means.l0]) ?_
    simp only [show ((i : Int) < (l.length : Int)) from by omega, show (0 ≤ (i : Int)) from by omega, show ((i : Int) < (t.length : Int)) from by omega, if_true]
    rw [rd28 l i (by omega), rdB t i (by omega), piece_is, means_step l t i (by omega) (by omega), w64 (by omega) (by omega)]
    simp only [Option.bind_some]
    cases pieceB l[i].f0 l[i].f1 t[i] with
    | true => simp only [if_true, Bool.true_and]; exact ih (i + 1) (by omega)
    | false => simp only [Bool.false_eq_true, if_false, Bool.false_and]; exact Ev.now _
theorem refmeans_ev (w : Bool) (t : List ByteArray) (l : List S28) (hl : l.length ≤ 1000000) (ht : t.length = l.length) (d : Nat) : ∀ i, i + d = l.length →
    Ev (fun K => eponymref18_Means.l0 K t (i : Int) w l) (meansL (l.drop i) (t.drop i)) := by
  induction d with
  | zero =>
    intro i hi
    refine Ev.step (fun K => by rw [eponymref18_Means.l0]) ?_
    simp only [show ¬ ((i : Int) < (t.length : Int)) from by omega, if_false]
    rw [List.drop_eq_nil_of_le (by omega)]
    exact Ev.now _
  | succ d ih =>
    intro i hi
    refine Ev.step (fun K => by rw [eponymref18_Means.l0]) ?_
    simp only [show ((i : Int) < (l.length : Int)) from by omega, show (0 ≤ (i : Int)) from by omega, show ((i : Int) < (t.length : Int)) from by omega, if_true]
    rw [rd28 l i (by omega), rdB t i (by omega), piece_ref, means_step l t i (by omega) (by omega), w64 (by omega) (by omega)]
    simp only [Option.bind_some]
    cases pieceB l[i].f0 l[i].f1 t[i] with
    | true => simp only [if_true, Bool.true_and]; exact ih (i + 1) (by omega)
    | false => simp only [Bool.false_eq_true, if_false, Bool.false_and]; exact Ev.now _
theorem means_is (w : Bool) (l : List S28) (s : ByteArray) (hl : l.length ≤ 1000000) (hs : s.size ≤ 1000000) :
    ∃ t, t.map (·.data.toList) = partsL s.data.toList ∧ Ev (fun K => match_Means.f K w l s) (meansB w l s t) ∧ Ev (fun K => eponymref18_Means.f K w l s) (meansB w l s t) := by
  obtain ⟨t, h1, h2⟩ := parts_lib s (by omega)
  obtain ⟨t', h3, h4⟩ := parts_ref s hs
  obtain rfl : t' = t := map_inj (h4.trans h2.symm)
  refine ⟨t', h2, ?_, ?_⟩
  · unfold match_Means.f meansB
    cases w with
    | true =>
      simp only [if_true]
      by_cases c : l.length = 1
      · simp only [show (l.length : Int) = 1 from by omega, show (0 : Int) < (l.length : Int) from by omega, if_true, piece_is, Option.bind_some]
        simp only [c, beq_self_eq_true, Bool.true_and]
        simp only [show (0 : Int) < 1 from by omega, if_true]
        exact Ev.now _
      · simp only [show ¬ (l.length : Int) = 1 from by omega, if_false, show (l.length == 1) = false from by simpa using c, Bool.false_and]
        exact Ev.now _
    | false =>
      simp only [Bool.false_eq_true, if_false, h1, Option.bind_some]
      by_cases c : t'.length = l.length
      · simp only [show (t'.length : Int) = (l.length : Int) from by omega, if_true, show (t'.length == l.length) = true from by simpa using c, Bool.true_and]
        exact means_ev t' l hl c l.length 0 (by omega)
      · simp only [show ¬ (t'.length : Int) = (l.length : Int) from by omega, if_false, show (t'.length == l.length) = false from by simpa using c, Bool.false_and]
        exact Ev.now _
  · unfold eponymref18_Means.f meansB
    cases w with
    | true =>
      simp only [if_true]
      by_cases c : l.length = 1
      · simp only [show (l.length : Int) = 1 from by omega, if_true, piece_ref, Option.bind_some]
        simp only [c, beq_self_eq_true, Bool.true_and]
        simp only [show (0 : Int) < 1 from by omega, if_true]
        exact Ev.now _
      · simp only [show ¬ (l.length : Int) = 1 from by omega, if_false, show (l.length == 1) = false from by simpa using c, Bool.false_and]
        exact Ev.now _
    | false =>
      simp only [Bool.false_eq_true, if_false]
      refine Ev.bind h3 ?_
      by_cases c : t'.length = l.length
      · simp only [show (t'.length : Int) = (l.length : Int) from by omega, if_true, show (t'.length == l.length) = true from by simpa using c, Bool.true_and]
        exact refmeans_ev false t' l hl c l.length 0 (by omega)
      · simp only [show ¬ (t'.length : Int) = (l.length : Int) from by omega, if_false, show (t'.length == l.length) = false from by simpa using c, Bool.false_and]
        exact Ev.now _
end Go.Proofs.YtgdnagncjlajnaaDoor.Pure
