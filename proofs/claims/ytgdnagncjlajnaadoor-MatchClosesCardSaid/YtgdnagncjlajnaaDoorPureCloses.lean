/- MatchCloses: the pure half. -/
import Derived.Test.YtgdnagncjlajnaaDoorPAllx8
import Derived.Test.YtgdnagncjlajnaaDoorPureParts
namespace Go.Proofs.YtgdnagncjlajnaaDoor.Pure
open Go.RowKit Go.Proofs.YtgdnagncjlajnaaDoor.PAll Go.Proofs.YtgdnagncjlajnaaDoorW.PrintWords Go.Proofs.YtgdnagncjlajnaaDoorW.PrintLast

/-- Pieces with dots between. -/
def joinL : List (List UInt8) → List UInt8
  | [] => []
  | x :: xs => x ++ xs.flatMap (46 :: ·)
theorem segs_join (xs : List (List UInt8)) : ∀ (x : List UInt8), (∀ b ∈ x, b ≠ 46) → (∀ y ∈ xs, ∀ b ∈ y, b ≠ 46) → ∀ pre, segs pre (x ++ xs.flatMap (46 :: ·)) = (pre ++ x) :: xs := by
  induction xs with
  | nil =>
    intro x
    induction x with
    | nil => intro _ _ pre; simp [segs]
    | cons b x ih =>
      intro hx hy pre
      rw [List.cons_append, segs, if_neg (hx b (by simp)), ih (fun c hc => hx c (by simp [hc])) hy]
      simp
  | cons y ys ih =>
    intro x
    induction x with
    | nil =>
      intro _ hy pre
      rw [List.nil_append, List.flatMap_cons, List.cons_append, segs, if_pos rfl, ih y (hy y (by simp)) (fun z hz => hy z (by simp [hz])), List.append_nil, List.nil_append]
    | cons b x ihx =>
      intro hx hy pre
      rw [List.cons_append, segs, if_neg (hx b (by simp)), ihx (fun c hc => hx c (by simp [hc])) hy]
      simp
theorem join_segs (rest : List UInt8) : ∀ pre, joinL (segs pre rest) = pre ++ rest := by
  induction rest with
  | nil => intro pre; simp [segs, joinL]
  | cons b t ih =>
    intro pre
    by_cases c : b = 46
    · rw [segs, if_pos c, joinL]
      have h := ih []
      cases hs : segs [] t with
      | nil => cases t with
        | nil => simp [segs] at hs
        | cons x t =>
          rw [segs] at hs
          split at hs
          · cases hs
          · exfalso
            rw [segs, if_neg ‹_›] at h
            rw [hs] at h
            simp [joinL] at h
      | cons y ys =>
        rw [hs, joinL, List.nil_append] at h
        rw [List.flatMap_cons, c, ← h]; simp
    · rw [segs, if_neg c, ih]; simp
/-- A text of such parts is their join. -/
theorem parts_join (xs : List (List UInt8)) (s : List UInt8) (hne : xs ≠ []) (h1 : xs ≠ [[]]) (hd : ∀ y ∈ xs, ∀ b ∈ y, b ≠ 46) : partsL s = xs ↔ s = joinL xs := by
  constructor
  · intro h
    unfold partsL at h
    by_cases c : s = []
    · rw [if_pos c] at h; exact absurd h.symm hne
    · rw [if_neg c] at h
      rw [← h, join_segs]; simp
  · intro h
    cases xs with
    | nil => exact absurd rfl hne
    | cons x xs =>
      unfold partsL
      have hs : s ≠ [] := by
        rw [h, joinL]
        intro e
        rw [List.append_eq_nil_iff] at e
        obtain ⟨rfl, e⟩ := e
        cases xs with
        | nil => exact h1 rfl
        | cons y ys => simp at e
      rw [if_neg hs, h, joinL, segs_join xs x (hd x (by simp)) (fun y hy => hd y (by simp [hy]))]
      simp

/-- The texts of pieces. -/
def texts (l : List S28) : List (List UInt8) := l.map (·.f0.data.toList)
def shut (l : List S28) : List S28 := l.map fun x => ⟨x.f0, false⟩
theorem toL_eq (a b : ByteArray) : (a.toList == b.toList) = decide (a.data.toList = b.data.toList) := by
  rw [Lib.toList_data, Lib.toList_data, Bool.eq_iff_iff]; simp
theorem meansL_cons (x : S28) (l : List S28) (y : ByteArray) (t : List ByteArray) : meansL (x :: l) (y :: t) = (pieceB x.f0 x.f1 y && meansL l t) := rfl
theorem piece_shut (t s : ByteArray) : pieceB t false s = decide (s.data.toList = t.data.toList) := by
  unfold pieceB; rw [if_neg (by simp), toL_eq]
theorem dapp (a b : ByteArray) : (a ++ b).data.toList = a.data.toList ++ b.data.toList := by simp
theorem shut_means (l : List S28) : ∀ t : List ByteArray, (t.length == (shut l).length && meansL (shut l) t) = decide (t.map (·.data.toList) = texts l) := by
  induction l with
  | nil => intro t; cases t <;> simp [shut, meansL, texts]
  | cons x l ih =>
    intro t
    cases t with
    | nil => simp [shut, texts]
    | cons y t =>
      have := ih t
      rw [Bool.eq_iff_iff] at this ⊢
      simp only [Bool.and_eq_true, beq_iff_eq, decide_eq_true_eq] at this
      rw [show shut (x :: l) = ⟨x.f0, false⟩ :: shut l from rfl, show texts (x :: l) = x.f0.data.toList :: texts l from rfl, meansL_cons, piece_shut]
      simp only [List.map_cons, List.length_cons, Bool.and_eq_true, beq_iff_eq, decide_eq_true_eq, List.cons.injEq]
      constructor
      · rintro ⟨h1, h2, h3⟩; exact ⟨h2, this.1 ⟨by omega, h3⟩⟩
      · rintro ⟨h1, h2⟩
        obtain ⟨h3, h4⟩ := this.2 h2
        exact ⟨by omega, h1, h4⟩
/-- A piece that is opened means all that it meant. -/
theorem piece_open (t : ByteArray) (o : Bool) (s : ByteArray) (h : pieceB t o s = true) : pieceB t true s = true := by
  cases o with
  | true => exact h
  | false =>
    unfold pieceB at *
    rw [if_neg (by simp), toL_eq, decide_eq_true_eq] at h
    have e : s = t := WideShapes.bytes_inj h
    subst e
    rw [if_pos rfl, toL_eq, ext_data, List.take_of_length_le (by simp)]
    simp
theorem means_open (l : List S28) (a : Nat) (ha : a < l.length) (t : List ByteArray) (h : meansL l t = true) : meansL (l.set a ⟨l[a].f0, true⟩) t = true := by
  induction l generalizing a t with
  | nil => simp at ha
  | cons x l ih =>
    cases t with
    | nil => simp [meansL]
    | cons y t =>
      simp only [meansL, List.zip_cons_cons, List.all_cons, Bool.and_eq_true] at h
      cases a with
      | zero =>
        simp only [List.set_cons_zero, meansL, List.zip_cons_cons, List.all_cons, Bool.and_eq_true, List.getElem_cons_zero]
        exact ⟨piece_open _ _ _ h.1, h.2⟩
      | succ a =>
        simp only [List.set_cons_succ, meansL, List.zip_cons_cons, List.all_cons, Bool.and_eq_true, List.getElem_cons_succ]
        exact ⟨h.1, ih a (by simpa using ha) t h.2⟩

/-- The text of shut pieces. -/
theorem text_ev (l : List S28) (hf : ∀ x ∈ l, x.f1 = false) (hl : ∀ x ∈ l, x.f0.size ≤ 40) (hn : l.length ≤ 10) (d : Nat) : ∀ (i : Nat) (acc : ByteArray), i + d = l.length → acc.size ≤ 41 * i →
    ∃ r, Ev (fun K => eponymref17_Text.l0 K acc (i : Int) false l) r ∧ r.size ≤ 41 * l.length ∧ r.data.toList = acc.data.toList ++ (if i = 0 then joinL (texts l) else (texts (l.drop i)).flatMap (46 :: ·)) := by
  induction d with
  | zero =>
    intro i acc hi ha
    refine ⟨acc, ?_, by omega, ?_⟩
    · refine Ev.step (fun K => by rw [eponymref17_Text.l0]) ?_
      simp only [show ¬ ((i : Int) < (l.length : Int)) from by omega, if_false]
      exact Ev.now _
    · by_cases c : i = 0
      · have : l = [] := List.eq_nil_of_length_eq_zero (by omega)
        subst this; simp [c, texts, joinL]
      · rw [if_neg c, List.drop_eq_nil_of_le (by omega)]; simp [texts]
  | succ d ih =>
    intro i acc hi ha
    have hi1 : i < l.length := by omega
    have hm : l[i] ∈ l := List.getElem_mem hi1
    have h0 := hl _ hm
    have h1 := hf _ hm
    have hd : l.drop i = l[i] :: l.drop (i + 1) := List.drop_eq_getElem_cons hi1
    by_cases c : i = 0
    · subst c
      obtain ⟨r, e1, e2, e3⟩ := ih 1 (acc ++ l[0].f0) (by omega) (by rw [ByteArray.size_append]; omega)
      refine ⟨r, ?_, e2, ?_⟩
      · refine Ev.step (fun K => by rw [eponymref17_Text.l0]) ?_
        simp only [show (((0 : Nat) : Int) < (l.length : Int)) from by omega, show ¬ (((0 : Nat) : Int) > 0) from by omega, show (0 : Int) ≤ ((0 : Nat) : Int) from by omega, if_true, if_false, rd28 l 0 hi1, h1, Bool.false_eq_true, show acc.size + l[0].f0.size ≤ 9223372036854775807 from by omega]
        rw [w64 (by omega) (by omega)]
        exact e1
      · rw [e3, if_neg (by omega), if_pos rfl, dapp]
        have : texts l = l[0].f0.data.toList :: texts (l.drop 1) := by
          conv => lhs; rw [show l = l.drop 0 from rfl, hd]
          rfl
        rw [this, joinL, List.append_assoc]
    · obtain ⟨r, e1, e2, e3⟩ := ih (i + 1) ((acc ++ (⟨#[46]⟩ : ByteArray)) ++ l[i].f0) (by omega) (by rw [ByteArray.size_append, ByteArray.size_append, show (⟨#[46]⟩ : ByteArray).size = 1 from rfl]; omega)
      have hz : (acc ++ (⟨#[46]⟩ : ByteArray)).size + l[i].f0.size ≤ 9223372036854775807 := by rw [ByteArray.size_append, show (⟨#[46]⟩ : ByteArray).size = 1 from rfl]; omega
      refine ⟨r, ?_, e2, ?_⟩
      · refine Ev.step (fun K => by rw [eponymref17_Text.l0]) ?_
        simp only [show ((i : Int) < (l.length : Int)) from by omega, show ((i : Int) > 0) from by omega, show (0 : Int) ≤ (i : Int) from by omega, if_true, if_false, rd28 l i hi1, h1, Bool.false_eq_true, show acc.size + 1 ≤ 9223372036854775807 from by omega, hz]
        rw [w64 (by omega) (by omega)]
        exact e1
      · rw [e3, if_neg (by omega), if_neg c, hd, dapp, dapp, show texts (l[i] :: l.drop (i + 1)) = l[i].f0.data.toList :: texts (l.drop (i + 1)) from rfl, List.flatMap_cons]
        simp

theorem shut_len (l : List S28) : (shut l).length = l.length := by simp [shut]
theorem shut_texts (l : List S28) : texts (shut l) = texts l := by simp [shut, texts]

/-- Behind the pieces: the pattern shut, and opened. -/
theorem closes_end (l : List S28) (s : ByteArray) (a : Nat) (h1 : 1 ≤ l.length) (h10 : l.length ≤ 10) (hs : s.size ≤ 400) (ha : a < l.length) (hne : ¬ (l.length = 1 ∧ l[0].f0.toList = ([] : List UInt8))) (hl : ∀ x ∈ l, x.f0.size ≤ 40) (hd : ∀ x ∈ l, ∀ b ∈ x.f0.data.toList, b ≠ 46)
    (i : Nat) (hi : i = l.length) : Ev (fun K => eponymlaw18_MatchCloses.l0 K s (a : Int) (i : Int) false l false (shut l)) true := by
  subst hi
  refine Ev.step (fun K => by rw [eponymlaw18_MatchCloses.l0]) ?_
  simp only [show ¬ ((l.length : Int) < (l.length : Int)) from by omega, if_false]
  have hx1 : texts l ≠ [] := by
    intro e
    have := congrArg List.length e
    simp [texts] at this
    subst this; simp at h1
  have hx2 : texts l ≠ [[]] := by
    intro e
    have hlen : l.length = 1 := by have := congrArg List.length e; simpa [texts] using this
    refine hne ⟨hlen, ?_⟩
    have e2 : (texts l)[0]? = some [] := by rw [e]; rfl
    unfold texts at e2
    rw [List.getElem?_map, List.getElem?_eq_getElem (by omega)] at e2
    rw [toL_nil]; simpa using e2
  have hx3 : ∀ y ∈ texts l, ∀ b ∈ y, b ≠ 46 := by
    intro y hy b hb
    obtain ⟨x, hx, rfl⟩ := List.mem_map.1 hy
    exact hd x hx b hb
  obtain ⟨text, e1, e2, e3⟩ := text_ev (shut l) (fun x hx => by obtain ⟨y, _, rfl⟩ := List.mem_map.1 hx; rfl) (fun x hx => by obtain ⟨y, hy, rfl⟩ := List.mem_map.1 hx; exact hl y hy) (by rw [shut_len]; exact h10) (shut l).length 0 (⟨#[]⟩ : ByteArray) (by omega) (by decide)
  rw [shut_len] at e2
  rw [if_pos rfl, shut_texts] at e3
  have e3 : text.data.toList = joinL (texts l) := by rw [e3]; rfl
  refine Ev.bind (show Ev (fun K => eponymref17_Text.f K false (shut l)) text from e1) ?_
  obtain ⟨t1, g1, g2, _⟩ := means_is false (shut l) text (by rw [shut_len]; omega) (by omega)
  obtain ⟨t2, g3, g4, _⟩ := means_is false (shut l) s (by rw [shut_len]; omega) (by omega)
  have m1 : meansB false (shut l) text t1 = true := by
    unfold meansB
    rw [if_neg (by simp), shut_means, decide_eq_true_eq, g1, parts_join (texts l) _ hx1 hx2 hx3]; exact e3
  have m2 : meansB false (shut l) s t2 = (s.toList == text.toList) := by
    unfold meansB
    rw [if_neg (by simp), shut_means, toL_eq, Bool.eq_iff_iff, decide_eq_true_eq, decide_eq_true_eq, g3, parts_join (texts l) _ hx1 hx2 hx3, e3]
  rw [m1] at g2
  rw [m2] at g4
  refine Ev.bind g2 ?_
  simp only [if_true]
  refine Ev.bind g4 ?_
  simp only [bne_self_eq_false]
  refine Ev.step (fun K => by rw [eponymlaw18_MatchCloses.j3]) ?_
  have hr : (rd_T28 l (a : Int)) = l[a] := rd28 l a ha
  simp only [Bool.false_eq_true, if_false, Option.bind_some, List.length_nil, List.nil_append, show 0 + l.length < 5864062014805 from by omega, show (0 : Int) ≤ (a : Int) from by omega, show (a : Int) < (l.length : Int) from by omega, if_true, hr, Int.toNat_natCast]
  obtain ⟨t3, g5, g6, _⟩ := means_is false l s (by omega) (by omega)
  obtain ⟨t4, g7, g8, _⟩ := means_is false (l.set a ⟨l[a].f0, true⟩) s (by simp; omega) (by omega)
  obtain rfl : t4 = t3 := map_inj (g7.trans g5.symm)
  refine Ev.bind g6 ?_
  cases hm : meansB false l s t4 with
  | false => simp only [Bool.false_eq_true, if_false]; exact Ev.now _
  | true =>
    simp only [if_true]
    have : meansB false (l.set a ⟨l[a].f0, true⟩) s t4 = true := by
      unfold meansB at hm ⊢
      rw [if_neg (by simp)] at hm ⊢
      rw [Bool.and_eq_true] at hm ⊢
      exact ⟨by rw [List.length_set]; exact hm.1, means_open l a ha t4 hm.2⟩
    rw [this] at g8
    exact Ev.bind g8 (Ev.now _)

/-- A piece's bytes. -/
theorem closes_byte (l : List S28) (s : ByteArray) (a : Int) (i : Nat) (sh : List S28) (x : ByteArray) (o : Bool) (hx : x.size ≤ 40) (hsh : sh.length ≤ 10)
    (next : (∀ b ∈ x.data.toList, b ≠ 46) → Ev (fun K => eponymlaw18_MatchCloses.l0 K s a ((i + 1 : Nat) : Int) false l false (sh ++ [⟨x, false⟩])) true) (hi : i ≤ 10) (d : Nat) :
    ∀ k, k + d = x.size → (∀ b ∈ x.data.toList.take k, b ≠ 46) → Ev (fun K => eponymlaw18_MatchCloses.l1 K s a (i : Int) (k : Int) false l false sh x o) true := by
  have e := size_len x
  induction d with
  | zero =>
    intro k hk hb
    refine Ev.step (fun K => by rw [eponymlaw18_MatchCloses.l1]) ?_
    simp only [show ¬ ((k : Int) < (x.size : Int)) from by omega, if_false, show sh.length < 5864062014805 from by omega, if_true]
    rw [w64 (by omega) (by omega)]
    exact next (by rw [List.take_of_length_le (by omega)] at hb; exact hb)
  | succ d ih =>
    intro k hk hb
    have hk1 : k < x.data.toList.length := by omega
    refine Ev.step (fun K => by rw [eponymlaw18_MatchCloses.l1]) ?_
    simp only [show ((k : Int) < (x.size : Int)) from by omega, show (0 : Int) ≤ (k : Int) from by omega, if_true]
    by_cases c : x.data.toList[k] = 46
    · simp only [show bt x (k : Int) = 46 from by rw [bt_list x k hk1, c]; rfl, if_true]
      exact Ev.now _
    · have hb2 : ¬ bt x (k : Int) = 46 := by
        rw [bt_list x k hk1]
        intro e
        apply c
        apply UInt8.toNat.inj
        show _ = 46
        omega
      simp only [hb2, if_false]
      rw [w64 (by omega) (by omega)]
      refine ih (k + 1) (by omega) ?_
      rw [List.take_succ_eq_append_getElem hk1]
      intro b hm
      rcases List.mem_append.1 hm with hm | hm
      · exact hb b hm
      · rw [List.mem_singleton] at hm; rw [hm]; exact c

theorem closes_ev (l : List S28) (s : ByteArray) (a : Nat) (h1 : 1 ≤ l.length) (h10 : l.length ≤ 10) (hs : s.size ≤ 400) (ha : a < l.length) (hne : ¬ (l.length = 1 ∧ l[0].f0.toList = ([] : List UInt8))) (d : Nat) :
    ∀ i, i + d = l.length → (∀ x ∈ l.take i, x.f0.size ≤ 40 ∧ ∀ b ∈ x.f0.data.toList, b ≠ 46) → Ev (fun K => eponymlaw18_MatchCloses.l0 K s (a : Int) (i : Int) false l false (shut (l.take i))) true := by
  induction d with
  | zero =>
    intro i hi hx
    obtain rfl : i = l.length := by omega
    rw [List.take_length] at hx ⊢
    exact closes_end l s a h1 h10 hs ha hne (fun x h => (hx x h).1) (fun x h => (hx x h).2) _ rfl
  | succ d ih =>
    intro i hi hx
    have hi1 : i < l.length := by omega
    refine Ev.step (fun K => by rw [eponymlaw18_MatchCloses.l0]) ?_
    simp only [show ((i : Int) < (l.length : Int)) from by omega, show (0 : Int) ≤ (i : Int) from by omega, if_true, rd28 l i hi1]
    by_cases c : l[i].f0.size ≤ 40
    · simp only [show ¬ ((l[i].f0.size : Int) > 40) from by omega, if_false]
      refine closes_byte l s a i (shut (l.take i)) l[i].f0 l[i].f1 c (by rw [shut_len, List.length_take]; omega) (fun hb => ?_) (by omega) l[i].f0.size 0 (by omega) (by simp)
      have := ih (i + 1) (by omega) (by
        rw [List.take_succ_eq_append_getElem hi1]
        intro x hm
        rcases List.mem_append.1 hm with hm | hm
        · exact hx x hm
        · rw [List.mem_singleton] at hm; rw [hm]; exact ⟨c, hb⟩)
      rw [List.take_succ_eq_append_getElem hi1, show shut (l.take i ++ [l[i]]) = shut (l.take i) ++ [⟨l[i].f0, false⟩] from by unfold shut; rw [List.map_append]; rfl] at this
      exact this
    · simp only [show ((l[i].f0.size : Int) > 40) from by omega, if_true]
      exact Ev.now _

theorem MatchCloses (w : Bool) (l : List S28) (s : ByteArray) (a : Int) : ∃ k, eponymlaw18_MatchCloses.f k w l s a = some true := by
  refine Ev.rounds ?_
  unfold eponymlaw18_MatchCloses.f
  refine Ev.bind awake_ev ?_
  simp only [if_true]
  have fin : Ev (fun K => eponymlaw18_MatchCloses.j0 K s a true w l) true := by
    refine Ev.step (fun K => by rw [eponymlaw18_MatchCloses.j0]) ?_
    simp only [if_true]
    exact Ev.now _
  by_cases c1 : l.length < 1
  · simp only [show ((l.length : Int) < 1) from by omega, if_true]; exact fin
  simp only [show ¬ ((l.length : Int) < 1) from by omega, if_false]
  by_cases c2 : l.length > 10
  · simp only [show ((l.length : Int) > 10) from by omega, if_true]; exact fin
  simp only [show ¬ ((l.length : Int) > 10) from by omega, if_false]
  by_cases c3 : s.size > 400
  · simp only [show ((s.size : Int) > 400) from by omega, if_true]; exact fin
  simp only [show ¬ ((s.size : Int) > 400) from by omega, if_false]
  by_cases c4 : a < 0
  · simp only [c4, if_true]; exact fin
  simp only [c4, if_false]
  by_cases c5 : a ≥ (l.length : Int)
  · simp only [c5, if_true]; exact fin
  simp only [c5, if_false]
  cases w with
  | true => simp only [if_true]; exact fin
  | false =>
    simp only [Bool.false_eq_true, if_false]
    obtain ⟨n, rfl⟩ := Int.eq_ofNat_of_zero_le (show 0 ≤ a by omega)
    have go : ¬ (l.length = 1 ∧ l[0].f0.toList = ([] : List UInt8)) → Ev (fun K => eponymlaw18_MatchCloses.j0 K s (n : Int) false false l) true := by
      intro hne
      refine Ev.step (fun K => by rw [eponymlaw18_MatchCloses.j0]) ?_
      simp only [Bool.false_eq_true, if_false]
      have := closes_ev l s n (by omega) (by omega) (by omega) (by omega) hne l.length 0 (by omega) (by simp)
      exact this
    by_cases c6 : l.length = 1
    · simp only [show (l.length : Int) = 1 from by omega, if_true, show (0 : Int) < 1 from by omega]
      rw [show rd_T28 l 0 = l[0] from rd28 l 0 (by omega)]
      cases h : (l[0].f0.toList == ([] : List UInt8)) with
      | true => exact fin
      | false => exact go (fun hh => by rw [hh.2] at h; simp at h)
    · simp only [show ¬ (l.length : Int) = 1 from by omega, if_false]
      exact go (fun hh => c6 hh.1)
end Go.Proofs.YtgdnagncjlajnaaDoor.Pure
