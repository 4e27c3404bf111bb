/- http.Read of any bytes; and HttpReads. -/
import Derived.Test.YtpjjkejppgehaaaGreatDoorRe
import Derived.Test.YtpjjkejppgehaaaGreatDoorAw
namespace Go.Proofs.YtpjjkejppgehaaaGreatDoor
set_option linter.unusedSimpArgs false
set_option linter.unusedVariables false
open Go.RowKit Go.Lib

theorem extz (s : ByteArray) (a b : Nat) : (s.extract a b).size ≤ s.size := by
  rw [ByteArray.size_extract]; omega
theorem splitB_sizes (sep : ByteArray) : ∀ (k : Nat) (s : ByteArray), ∀ x ∈ splitB sep 0 k s, x.size ≤ s.size
  | 0, s, x, h => by
    rw [splitB_zero] at h
    obtain rfl := List.mem_singleton.1 h
    exact Nat.le_refl _
  | k + 1, s, x, h => by
    rw [splitB] at h
    split at h
    · obtain rfl := List.mem_singleton.1 h
      exact Nat.le_refl _
    · rcases List.mem_cons.1 h with rfl | h
      · exact extz _ _ _
      · exact Nat.le_trans (splitB_sizes sep k _ x h) (extz _ _ _)
theorem rows_sizes (s x : ByteArray) (h : x ∈ rowsB s) : x.size ≤ s.size := splitB_sizes sepB _ s x h
theorem rows_len (s : ByteArray) : (rowsB s).length = countB s sepB + 1 ∧ (rowsB s).length ≤ s.size + 1 := by
  have h := splitB_all sepB (by decide) 0 _ s rfl
  have h2 := countB_le sepB (by decide) s.size s (Nat.le_refl _)
  exact ⟨h, by show (splitB _ _ _ _).length ≤ _; omega⟩
theorem linesB_sizes : ∀ (L : List ByteArray) (m : Nat) (h : HL), linesB L = some h → (∀ x ∈ L, x.size ≤ m) → ∀ j (hj : j < h.length), h[j].1.size ≤ m ∧ h[j].2.size ≤ m
  | [], m, h, e, _, j, hj => by
    rw [linesB] at e
    injection e with e
    subst e
    cases hj
  | x :: r, m, h, e, hm, j, hj => by
    rw [linesB] at e
    split at e
    · obtain ⟨h', e1, rfl⟩ := Option.map_eq_some_iff.1 e
      cases j with
      | zero =>
        have := cut_sizes x colonB
        have := hm x List.mem_cons_self
        exact ⟨by show (cutB x colonB).1.size ≤ m; omega, by show (cutB x colonB).2.1.size ≤ m; omega⟩
      | succ j => exact linesB_sizes r m h' e1 (fun y hy => hm y (List.mem_cons_of_mem _ hy)) j (by simpa using hj)
    · cases e
/-- What is read is a right response whose bytes these are. -/
theorem read_right (s : ByteArray) (n : Int) (l : HL) (b : ByteArray) (h : readP s = some (n, l, b)) : textB n l b = s ∧ checkP n l b = none ∧ b.size ≤ s.size ∧ ∀ j (hj : j < l.length), l[j].1.size ≤ s.size ∧ l[j].2.size ≤ s.size := by
  unfold readP at h
  split at h
  · rename_i hc
    obtain ⟨c1, c2, c3, c4⟩ := hc
    split at h
    · cases h
    · split at h
      · cases h
      · rename_i l' hl
        split at h
        · rename_i ht
          injection h with h
          injection h with h1 h2
          injection h2 with h2 h3
          subst h1 h2 h3
          have hb := (cut_sizes s sep2B).2
          have hd := (cut_sizes s sep2B).1
          refine ⟨ht, ?_, hb, linesB_sizes _ _ _ hl fun x hx => Nat.le_trans (rows_sizes _ x (List.mem_of_mem_drop ((List.dropLast_sublist _).subset hx))) hd⟩
          refine Classical.byContradiction fun hne => ?_
          rw [textB, if_neg hne] at ht
          rw [← ht] at c1
          revert c1
          decide
        · cases h
  · cases h
theorem front_of (s : ByteArray) (hs : s.size ≤ 20000) : Front s (cutB s sep2B).1 (cutB s sep2B).2.1 (cutB s sep2B).2.2 (rowsB (cutB s sep2B).1).length ((rowsB (cutB s sep2B).1).headD ⟨#[]⟩) (trimP ((rowsB (cutB s sep2B).1).headD ⟨#[]⟩)) (hasP ((rowsB (cutB s sep2B).1).headD ⟨#[]⟩)) (rowsB (cutB s sep2B).1) := by
  have hd := (cut_sizes s sep2B).1
  refine ⟨fun x hx => cut_call s sep2B x (by omega) hx.ml, fun x hx => split_call _ x (by omega) hx.ml, fun x => prefix_call _ x, rfl, ?_⟩
  have hl := (rows_len (cutB s sep2B).1).1
  cases hr : rowsB (cutB s sep2B).1 with
  | nil => rw [hr] at hl; simp at hl
  | cons a r => rfl
theorem read_any (s : ByteArray) (hs : s.size ≤ 20000) (w : World) (hI : RInv w) :
    Calls Tryz.prog 11 #[.string s] w fun e w' => ∃ v, e = .returned v ∧ ReadIs w' v (readP s) ∧ Below w.heap.size w w' := by
  have hF := front_of s hs
  have hd := (cut_sizes s sep2B).1
  have hb := (cut_sizes s sep2B).2
  obtain ⟨hn, hn1⟩ := rows_len (cutB s sep2B).1
  have hbad : readP s = none → ∀ e w', BadIs w e w' → ∃ v, e = .returned v ∧ ReadIs w' v (readP s) ∧ Below w.heap.size w w' := by
    rintro h e w' ⟨f, rfl, h1, h2⟩
    exact ⟨_, rfl, by rw [h]; exact ⟨f, rfl, h1⟩, h2⟩
  by_cases c1 : (cutB s sep2B).2.2 = true
  · by_cases c2 : hasP ((rowsB (cutB s sep2B).1).headD ⟨#[]⟩) = true
    · by_cases c3 : 2 ≤ (rowsB (cutB s sep2B).1).length
      · by_cases c4 : 3 ≤ (trimP ((rowsB (cutB s sep2B).1).headD ⟨#[]⟩)).size
        · have hsz : ((trimP ((rowsB (cutB s sep2B).1).headD ⟨#[]⟩)).extract 0 3).size ≤ 18 := by rw [ByteArray.size_extract]; omega
          cases ha : atoi ((trimP ((rowsB (cutB s sep2B).1).headD ⟨#[]⟩)).extract 0 3).data.toList with
          | none =>
            exact (read_bad5 s _ _ _ _ _ _ _ _ w hI hF c1 c2 c3 c4 fun x hx => atoi_none _ hsz ha x hx.sy).mono (hbad (by unfold readP; rw [if_pos ⟨c1, c2, c3, c4⟩, ha]))
          | some n =>
            refine (read_go s _ _ _ _ _ _ _ _ w hI hF _ rfl c1 c2 c3 (by omega) (fun x hx => Nat.le_trans (rows_sizes _ x (List.mem_of_mem_drop ((List.dropLast_sublist _).subset hx))) (by omega)) (by omega) c4 n fun x hx => atoi_some _ n hsz ha x).mono fun e w' h => ?_
            cases hl : linesB ((rowsB (cutB s sep2B).1).drop 1).dropLast with
            | none =>
              rw [hl] at h
              exact hbad (by unfold readP; rw [if_pos ⟨c1, c2, c3, c4⟩, ha]; dsimp only; rw [hl]) e w' h
            | some l =>
              rw [hl] at h
              dsimp only [GoIs] at h
              by_cases ht : textB n l (cutB s sep2B).2.1 = s
              · rw [if_pos ht] at h
                obtain ⟨A, c, rfl, h1, h2⟩ := h
                refine ⟨_, rfl, ?_, h2⟩
                have hr : readP s = some (n, l, (cutB s sep2B).2.1) := by unfold readP; rw [if_pos ⟨c1, c2, c3, c4⟩, ha]; dsimp only; rw [hl]; dsimp only; rw [if_pos ht]
                rw [hr]
                exact ⟨A, c, rfl, h1⟩
              · rw [if_neg ht] at h
                exact hbad (by unfold readP; rw [if_pos ⟨c1, c2, c3, c4⟩, ha]; dsimp only; rw [hl]; dsimp only; rw [if_neg ht]) e w' h
        · exact (read_bad4 s _ _ _ _ _ _ _ _ w hI hF c1 c2 c3 (by omega)).mono (hbad (by unfold readP; rw [if_neg (fun h => c4 h.2.2.2)]))
      · exact (read_bad3 s _ _ _ _ _ _ _ _ w hI hF c1 c2 (by omega)).mono (hbad (by unfold readP; rw [if_neg (fun h => c3 h.2.2.1)]))
    · exact (read_bad2 s _ _ _ _ _ _ _ _ w hI hF c1 (by simpa using c2)).mono (hbad (by unfold readP; rw [if_neg (fun h => c2 h.2.1)]))
  · exact (read_bad1 s _ _ _ _ _ _ _ _ w hI hF (by simpa using c1)).mono (hbad (by unfold readP; rw [if_neg (fun h => c1 h.1)]))
set_option maxRecDepth 20000 in
set_option maxHeartbeats 4000000 in
/-- HttpReads answers true. -/
theorem reads_any (s : ByteArray) (w : World) (hs : s.size ≤ 9223372036854775807) (hI : RInv w) :
    Calls Tryz.prog 4 #[.string s] w fun e w' => e = .returned (.bool true) ∧ Below w.heap.size w w' := by
  have HW := Lib.hid (awake_any w)
  have HI := Lib.hid hI
  clear hI
  by_cases hbig : s.size > 400
  · have hbig' : (s.size : Int) > 400 := by omega
    go_enter Tryz.func4, Tryz.ntmps4
    go_wp2_with (go_at_call 5; (with_reducible refine Calls.mono HW.out ?_); rintro e w1 ⟨rfl, hb⟩; have HB1 := Lib.hid hb; clear hb)
    go_ret
    exact ⟨rfl, HB1.out⟩
  · have hbig' : ¬ (s.size : Int) > 400 := by omega
    have C := Lib.hid (fun x (hx : RInv x) => read_any s (by omega) x hx)
    cases hr : readP s with
    | none =>
      rw [hr] at C
      clear hbig hr
      go_enter Tryz.func4, Tryz.ntmps4
      go_wp2_with (first
        | (go_at_call 5; (with_reducible refine Calls.mono HW.out ?_); rintro e w1 ⟨rfl, hb⟩; have HB1 := Lib.hid hb; have HR1 := Lib.hid (HI.out.below hb); clear hb)
        | (go_at_call 11; (with_reducible refine Calls.mono (C.out _ HR1.out) ?_); rintro e w2 ⟨v, rfl, ⟨f, rfl, hf⟩, hb⟩; have hf2 := hf; obtain ⟨-, -, g, sx, rfl, -, -⟩ := hf2; have HB2 := Lib.hid (below_to HB1.out hb); have HR2 := Lib.hid (HR1.out.below hb); have HF := Lib.hid hf; clear hb hf)
        | (go_at_call 9; (with_reducible refine Calls.mono (is_any _ _ 0 5 (by decide) (by decide) _ (HF.out.below ((Below.refl _ _).alloc (Nat.le_refl _) _)) (HR2.out.below ((Below.refl _ _).alloc (Nat.le_refl _) _)).is) ?_); rintro e w3 ⟨rfl, hb⟩; have hn2 := below_blk hb (heap_alloc_new w2 _); have y0 := (blk_cell hn2 0).trans rfl; have y1 := (blk_cell hn2 1).trans rfl; have y2 := (blk_cell hn2 2).trans rfl; have HB3 := Lib.hid (below_to (HB2.out.alloc HB2.out.size _) hb); clear hb hn2; rw [show isB (some (0, 5)) 0 5 = true from rfl]))
      go_ret
      exact ⟨rfl, HB3.out⟩
    | some x =>
      obtain ⟨n, l, b⟩ := x
      obtain ⟨g1, g2, g3, g4⟩ := read_right s n l b hr
      have CT := Lib.hid (fun (A : Option Addr) (c : Nat) x (hx : RInv x) (hl : LiesH x A l) => text_any n A c l b x hx.is hx.pow hl (fun j hj => by have := g4 j hj; omega) (by omega))
      have CC := Lib.hid (fun (A : Option Addr) (c : Nat) x (hx : RInv x) (hl : LiesH x A l) => check_all n A c l b x hx.is hl (fun j hj => by have := g4 j hj; omega) (by omega))
      rw [g1] at CT
      rw [g2] at CC
      rw [hr] at C
      clear hbig hr g1 g2 g3 g4
      go_enter Tryz.func4, Tryz.ntmps4
      go_wp2_with (first
        | (go_at_call 5; (with_reducible refine Calls.mono HW.out ?_); rintro e w1 ⟨rfl, hb⟩; have HB1 := Lib.hid hb; have HR1 := Lib.hid (HI.out.below hb); clear hb)
        | (go_at_call 11; (with_reducible refine Calls.mono (C.out _ HR1.out) ?_); rintro e w2 ⟨v, rfl, ⟨A, c, rfl, hl⟩, hb⟩; have HB2 := Lib.hid (below_to HB1.out hb); have HR2 := Lib.hid (HR1.out.below hb); have HL := Lib.hid hl; clear hb hl)
        | (go_at_call 10; (with_reducible refine Calls.mono (CC.out _ _ _ (HR2.out.below ((Below.refl _ _).alloc (Nat.le_refl _) _)) (HL.out.below ((Below.refl _ _).alloc (Nat.le_refl _) _))) ?_); rintro e w3 ⟨v, rfl, hv, hb⟩; obtain rfl : v = .nilIface := hv; have hn2 := below_blk hb (heap_alloc_new w2 _); have y0 := (blk_cell hn2 0).trans rfl; have y1 := (blk_cell hn2 1).trans rfl; have y2 := (blk_cell hn2 2).trans rfl; have HB3 := Lib.hid (below_to (HB2.out.alloc HB2.out.size _) hb); have HR3 := Lib.hid ((HR2.out.below ((Below.refl _ _).alloc (Nat.le_refl _) _)).below hb); have HL3 := Lib.hid ((HL.out.below ((Below.refl _ _).alloc (Nat.le_refl _) _)).below hb); clear hb hn2)
        | (go_at_call 8; (with_reducible refine Calls.mono (CT.out _ _ _ HR3.out HL3.out) ?_); rintro e w4 ⟨rfl, hb⟩; have HB4 := Lib.hid (below_to HB3.out hb); clear hb))
      go_ret
      exact ⟨by simp, HB4.out⟩
end Go.Proofs.YtpjjkejppgehaaaGreatDoor
