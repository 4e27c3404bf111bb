/- AsnParses, the law: every text. -/
import Derived.Test.YtanbnlobbgfidaaDoorPq
import Derived.Test.YtanbnlobbgfidaaDoorAw
namespace Go.Proofs.YtanbnlobbgfidaaDoor
set_option linter.unusedSimpArgs false
set_option linter.unusedVariables false
open Go.RowKit Go.Lib

/-- An error is the one that is told. -/
theorem is_same (v : Value) (y : Option (Int × Nat)) (x : World) (hf : FltIs x v y) (hI : IsInv x) : Calls Tryd.prog 10 #[v, .int .i64 (errAt y), .int .i64 (errNo y)] x fun e w' => e = .returned (.bool true) ∧ Below x.heap.size x w' := by
  have hb : isB y (errAt y) (errNo y) = true ∧ 0 ≤ errNo y ∧ errNo y ≤ 18 := by
    match y, hf with
    | none, _ => exact ⟨rfl, by decide, by decide⟩
    | some (a, c), ⟨h1, h2, _⟩ =>
      refine ⟨?_, ?_, ?_⟩
      · simp only [isB, errAt, errNo]
        simp
        omega
      · show 0 ≤ (c : Int); omega
      · show (c : Int) ≤ 18; omega
  have C := is_any v y (errAt y) (errNo y) hb.2.1 hb.2.2 x hf hI
  rw [hb.1] at C
  exact C

set_option maxHeartbeats 1000000 in
theorem parses_long (s : ByteArray) (w : World) (hs : s.size ≤ 140737488351232) (h60 : 60 < s.size) (h5 : Calls Tryd.prog 5 #[] w fun e w' => e = .returned (.bool true) ∧ Below w.heap.size w w') :
    Calls Tryd.prog 3 #[.string s] w fun e w' => e = .returned (.bool true) ∧ Below w.heap.size w w' := by
  have HK5 := Lib.hid h5
  clear h5
  go_enter Tryd.func3, Tryd.ntmps3
  go_wp2_with (go_at_call 5; refine HK5.out.mono ?_; rintro e w1 ⟨rfl, hb⟩; have HBw1 := Lib.hid hb; clear hb)
  go_ret
  exact ⟨rfl, HBw1.out⟩

set_option maxRecDepth 20000 in
set_option maxHeartbeats 2000000 in
theorem parses_short (s : ByteArray) (p1 p2 n1 : Int) (pe ne : Option (Int × Nat)) (w : World) (hs : s.size ≤ 60)
    (h5 : Calls Tryd.prog 5 #[] w fun e w' => e = .returned (.bool true) ∧ Below w.heap.size w w')
    (h6 : ∀ x, Below w.heap.size w x → Calls Tryd.prog 6 #[.string s] x fun e w' => ∃ v, e = .returned (.tuple #[.agg #[.int .u32 p1, .int .u32 p2], v]) ∧ FltIs w' v pe ∧ Below x.heap.size x w')
    (h7 : ∀ x, Calls Tryd.prog 7 #[.string s] x fun e w' => e = .returned (.tuple #[.agg #[.int .u32 p1, .int .u32 p2], .int .i64 (errAt pe), .int .i64 (errNo pe)]) ∧ Below x.heap.size x w')
    (h8 : ∀ x, Below w.heap.size w x → Calls Tryd.prog 8 #[.string s] x fun e w' => ∃ v, e = .returned (.tuple #[.int .u32 n1, v]) ∧ FltIs w' v ne ∧ Below x.heap.size x w')
    (h9 : ∀ x, Calls Tryd.prog 9 #[.string s] x fun e w' => e = .returned (.tuple #[.int .u32 n1, .int .i64 (errAt ne), .int .i64 (errNo ne)]) ∧ Below x.heap.size x w')
    (h10 : ∀ x v y, Below w.heap.size w x → FltIs x v y → Calls Tryd.prog 10 #[v, .int .i64 (errAt y), .int .i64 (errNo y)] x fun e w' => e = .returned (.bool true) ∧ Below x.heap.size x w') :
    Calls Tryd.prog 3 #[.string s] w fun e w' => e = .returned (.bool true) ∧ Below w.heap.size w w' := by
  have h60 : ¬ 60 < s.size := by omega
  have HK5 := Lib.hid h5
  have HK6 := Lib.hid h6
  have HK7 := Lib.hid h7
  have HK8 := Lib.hid h8
  have HK9 := Lib.hid h9
  have HK10 := Lib.hid h10
  clear h5 h6 h7 h8 h9 h10
  have HBw := Lib.hid (Below.refl w.heap.size w)
  generalize ha : errAt pe = pa at HK7
  generalize hc : errNo pe = pc at HK7
  generalize ha2 : errAt ne = na at HK9
  generalize hc2 : errNo ne = nc at HK9
  have HA := Lib.hid ha
  have HC := Lib.hid hc
  have HA2 := Lib.hid ha2
  have HC2 := Lib.hid hc2
  clear ha hc ha2 hc2
  go_enter Tryd.func3, Tryd.ntmps3
  go_wp2_with (first
    | (go_at_call 10; have C := HK10.out w8 v2 ne HBw8.out HGw8.out; rw [HA2.out, HC2.out] at C; (with_reducible refine Calls.mono C ?_); clear C; rintro e w9 ⟨rfl, hb⟩; have HBw9 := Lib.hid (below_to HBw8.out hb); clear hb)
    | (go_at_call 10; have C := HK10.out w7 v1 pe HBw7.out HFw7.out; rw [HA.out, HC.out] at C; (with_reducible refine Calls.mono C ?_); clear C; rintro e w8 ⟨rfl, hb⟩; have HBw8 := Lib.hid (below_to HBw7.out hb); have HGw8 := Lib.hid (HGw7.out.below hb); clear hb)
    | (go_at_call 9; have C := HK9.out w6; (with_reducible refine Calls.mono C ?_); clear C; rintro e w7 ⟨rfl, hb⟩; have HBw7 := Lib.hid (below_to HBw6.out hb); have HXBw7 := Lib.hid (below_blk hb HXBw6.out); have cB_0_w7 : w7.cell? ⟨w2.heap.size, 0, none⟩ = some (.int .u32 p1) := (blk_cell HXBw7.out 0).trans rfl; have zB_0_w7 : w7.frozen? ⟨w2.heap.size, 0, none⟩ = false := blk_fz HXBw7.out 0; have cB_1_w7 : w7.cell? ⟨w2.heap.size, 1, none⟩ = some (.int .u32 p2) := (blk_cell HXBw7.out 1).trans rfl; have zB_1_w7 : w7.frozen? ⟨w2.heap.size, 1, none⟩ = false := blk_fz HXBw7.out 1; have HXDw7 := Lib.hid (below_blk hb HXDw6.out); have cD_0_w7 : w7.cell? ⟨w4.heap.size, 0, none⟩ = some (.int .u32 p1) := (blk_cell HXDw7.out 0).trans rfl; have zD_0_w7 : w7.frozen? ⟨w4.heap.size, 0, none⟩ = false := blk_fz HXDw7.out 0; have cD_1_w7 : w7.cell? ⟨w4.heap.size, 1, none⟩ = some (.int .u32 p2) := (blk_cell HXDw7.out 1).trans rfl; have zD_1_w7 : w7.frozen? ⟨w4.heap.size, 1, none⟩ = false := blk_fz HXDw7.out 1; have HFw7 := Lib.hid (HFw6.out.below hb); have HGw7 := Lib.hid (HGw6.out.below hb); clear hb)
    | (go_at_call 8; have HBw5 : Hid (Below w.heap.size w (w4.alloc (.cells #[.int .u32 p1, .int .u32 p2] 25))) := HBw4.out.alloc HBw4.out.size _; have HXDw5 : Hid ((w4.alloc (.cells #[.int .u32 p1, .int .u32 p2] 25)).heap[w4.heap.size]? = some (.cells #[.int .u32 p1, .int .u32 p2] 25 (0, 0))) := blk_new _ _; have HFw5 := Lib.hid (HFw4.out.below ((Below.refl w4.heap.size w4).alloc (Nat.le_refl _) (.cells #[.int .u32 p1, .int .u32 p2] 25))); have HXBw5 := Lib.hid (below_blk ((Below.refl w4.heap.size w4).alloc (Nat.le_refl _) (.cells #[.int .u32 p1, .int .u32 p2] 25)) HXBw4.out); generalize w4.alloc (.cells #[.int .u32 p1, .int .u32 p2] 25) = w5 at HBw5 HXDw5 HFw5 HXBw5 ⊢; have C := HK8.out w5 HBw5.out; (with_reducible refine Calls.mono C ?_); clear C; rintro e w6 ⟨v2, rfl, hf2, hb⟩; have HBw6 := Lib.hid (below_to HBw5.out hb); have HXBw6 := Lib.hid (below_blk hb HXBw5.out); have HXDw6 := Lib.hid (below_blk hb HXDw5.out); have HFw6 := Lib.hid (HFw5.out.below hb); have HGw6 := Lib.hid hf2; clear hb hf2)
    | (go_at_call 7; have HBw3 : Hid (Below w.heap.size w (w2.alloc (.cells #[.int .u32 p1, .int .u32 p2] 25))) := HBw2.out.alloc HBw2.out.size _; have HXBw3 : Hid ((w2.alloc (.cells #[.int .u32 p1, .int .u32 p2] 25)).heap[w2.heap.size]? = some (.cells #[.int .u32 p1, .int .u32 p2] 25 (0, 0))) := blk_new _ _; have HFw3 := Lib.hid (HFw2.out.below ((Below.refl w2.heap.size w2).alloc (Nat.le_refl _) (.cells #[.int .u32 p1, .int .u32 p2] 25))); generalize w2.alloc (.cells #[.int .u32 p1, .int .u32 p2] 25) = w3 at HBw3 HXBw3 HFw3 ⊢; have C := HK7.out w3; (with_reducible refine Calls.mono C ?_); clear C; rintro e w4 ⟨rfl, hb⟩; have HBw4 := Lib.hid (below_to HBw3.out hb); have HXBw4 := Lib.hid (below_blk hb HXBw3.out); have HFw4 := Lib.hid (HFw3.out.below hb); clear hb)
    | (go_at_call 6; have C := HK6.out w1 HBw1.out; (with_reducible refine Calls.mono C ?_); clear C; rintro e w2 ⟨v1, rfl, hf, hb⟩; have HBw2 := Lib.hid (below_to HBw1.out hb); have HFw2 := Lib.hid hf; clear hf; clear hb)
    | (go_at_call 5; refine HK5.out.mono ?_; rintro e w1 ⟨rfl, hb⟩; have HBw1 := Lib.hid hb; clear hb))
  go_ret
  exact ⟨by simp, HBw9.out⟩

theorem parses_any (s : ByteArray) (w : World) (hI : AInv w) (hs : s.size ≤ 140737488351232) :
    Calls Tryd.prog 3 #[.string s] w fun e w' => e = .returned (.bool true) ∧ Below w.heap.size w w' := by
  by_cases h60 : 60 < s.size
  · exact parses_long s w hs h60 (awake_any w hI)
  · refine parses_short s (parseS s.data.toList).1.1 (parseS s.data.toList).1.2 (numS s.data.toList).1 (parseS s.data.toList).2 (numS s.data.toList).2 w (by omega) (awake_any w hI)
      (fun x hb => parse_any s x (hI.below hb) (by omega)) (fun x => ?_) (fun x hb => number_any s x (hI.below hb) (by omega)) (fun x => ?_) (fun x v y hb hf => is_same v y x hf (hI.below hb).is)
    · refine (PAs.eponymref15_Parse.calls _ s _ _ _ _ x (refParse_f s (by omega))).mono ?_
      rintro e w' ⟨rfl, hb⟩
      exact ⟨rfl, hb⟩
    · refine (PAs.eponymref15_Number.calls _ s _ _ _ x (refNumber_f s (by omega))).mono ?_
      rintro e w' ⟨rfl, hd⟩
      exact ⟨rfl, Go.Proofs.YtanbnlobbgfidaaDoorW.PrintWords.Drawn0.below hd⟩
end Go.Proofs.YtanbnlobbgfidaaDoor
