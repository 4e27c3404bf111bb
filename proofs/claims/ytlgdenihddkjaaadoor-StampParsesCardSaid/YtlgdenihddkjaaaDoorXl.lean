/- The walk of StampParses: any text. -/
import Derived.Test.YtlgdenihddkjaaaDoorXw
namespace Go.Proofs.YtlgdenihddkjaaaDoor
set_option linter.unusedSimpArgs false
set_option linter.unusedVariables false
open Go.RowKit Go.Lib Go.Proofs.YtlgdenihddkjaaaDoorW.PrintWords

theorem is_ref (v : Value) (o : Option (Int × Nat)) (w : World) (hf : FltIs w v o) (hI : IsInv w) : Calls Tryd.prog 12 #[v, .int .i64 (outE o).1, .int .i64 (outE o).2] w fun e w' => e = .returned (.bool true) ∧ Below w.heap.size w w' := by
  cases o with
  | none => exact is_any v none 0 0 (by omega) (by omega) w hf hI
  | some x =>
    obtain ⟨b, c⟩ := x
    have h1 := hf
    obtain ⟨h1, h2, -⟩ := h1
    have hc := is_any v (some (b, c)) b c (by omega) (by omega) w hf hI
    have e : isB (some (b, c)) b c = true := by simp [isB]; omega
    rw [e] at hc
    exact hc
set_option maxHeartbeats 4000000 in
theorem parses_long (s : ByteArray) (w : World) (hI : IsInv w) (hl : 18 < w.heap.size) (hG : PSt.GInv w) (hs : 60 < s.size) : Calls Tryd.prog 4 #[.string s] w fun e w' => e = .returned (.bool true) ∧ Below w.heap.size w w' := by
  have H1 := Lib.hid (awake_any w (hI.err hl) hG)
  have h60 : (60 : Int) < (s.size : Int) := by omega
  clear hI hG
  go_enter Tryd.func4, Tryd.ntmps4
  go_wp2_with (go_at_call 7; have C := H1.out; refine Calls.mono C ?_; clear C; rintro e w1 ⟨rfl, hb⟩)
  go_ret
  exact ⟨rfl, hb⟩
set_option maxHeartbeats 8000000 in
theorem parses_short (s : ByteArray) (a b : Int) (o : Option (Int × Nat)) (hr : parseR s = (a, b, o)) (w : World) (hI : IsInv w) (hl : 18 < w.heap.size) (hG : PSt.GInv w) (hs : s.size ≤ 60) : Calls Tryd.prog 4 #[.string s] w fun e w' => e = .returned (.bool true) ∧ Below w.heap.size w w' := by
  have HE : Hid (∀ w1, Below w.heap.size w w1 → ErrInv w1) := fun w1 hb => ErrInv.below (hI.err hl) hb
  have HI : Hid (∀ w1, Below w.heap.size w w1 → IsInv w1) := fun w1 hb => hI.below hb
  have H7 := Lib.hid (awake_any w (hI.err hl) hG)
  have H10 : Hid (∀ w1, ErrInv w1 → Calls Tryd.prog 10 #[.string s] w1 fun e w' => ∃ v, e = .returned (.tuple #[.agg #[.int .i64 a, .int .i64 b], v]) ∧ FltIs w' v o ∧ Below w1.heap.size w1 w') := by
    intro w1 h
    have C := parse_any s w1 (by omega) h
    unfold ParseP at C
    rw [hr] at C
    exact C
  have H11 : Hid (∀ w1, Calls Tryd.prog 11 #[.string s] w1 fun e w' => e = .returned (.tuple #[.agg #[.int .i64 a, .int .i64 b], .int .i64 (outE o).1, .int .i64 (outE o).2]) ∧ Below w1.heap.size w1 w') := by
    intro w1
    have C := ref_any s w1 hs
    unfold RefP at C
    rw [hr] at C
    exact C
  have h60 : ¬ (60 : Int) < (s.size : Int) := by omega
  generalize hA : (outE o).1 = A at H11
  generalize hC : (outE o).2 = C' at H11
  have H12 : Hid (∀ v w1, FltIs w1 v o → IsInv w1 → Calls Tryd.prog 12 #[v, .int .i64 A, .int .i64 C'] w1 fun e w' => e = .returned (.bool true) ∧ Below w1.heap.size w1 w') := by
    subst hA hC
    exact fun v w1 h1 h2 => is_ref v o w1 h1 h2
  clear hI hl hG hr hA hC
  go_enter Tryd.func4, Tryd.ntmps4
  go_wp2_with (first
    | (go_at_call 12; have C := H12.out v (w3.alloc (.cells #[.int .i64 a, .int .i64 b] 31)) (HF3.out.below ((Below.refl _ _).alloc (Nat.le_refl _) _)) (HI.out _ (HB3.out.alloc HB3.out.size _)); (with_reducible refine Calls.mono C ?_); clear C; rintro e w4 ⟨rfl, hb⟩; have HB4 := Lib.hid (below_to (HB3.out.alloc HB3.out.size (.cells #[.int .i64 a, .int .i64 b] 31)) hb); clear hb)
    | (go_at_call 11; have C := H11.out (w2.alloc (.cells #[.int .i64 a, .int .i64 b] 31)); (with_reducible refine Calls.mono C ?_); clear C; rintro e w3 ⟨rfl, hb⟩; have HB3 := Lib.hid (below_to (HB2.out.alloc HB2.out.size (.cells #[.int .i64 a, .int .i64 b] 31)) hb); have HX3 := Lib.hid (below_blk hb (blk_new w2 (.cells #[.int .i64 a, .int .i64 b] 31))); have HF3 : Hid (FltIs w3 v o) := (HF2.out.below ((Below.refl _ _).alloc (Nat.le_refl _) _)).below hb; have HX4 := Lib.hid (below_blk ((Below.refl w3.heap.size w3).alloc (Nat.le_refl _) (.cells #[.int .i64 a, .int .i64 b] 31)) HX3.out); have HY4 := Lib.hid (blk_new w3 (.cells #[.int .i64 a, .int .i64 b] 31)); have c3 := (blk_cell HX4.out 0).trans rfl; have d3 := (blk_cell HX4.out 1).trans rfl; have c4 := (blk_cell HY4.out 0).trans rfl; have d4 := (blk_cell HY4.out 1).trans rfl; simp at c3 d3 c4 d4; clear hb)
    | (go_at_call 10; have C := H10.out w1 (HE.out w1 HB1.out); (with_reducible refine Calls.mono C ?_); clear C; rintro e w2 ⟨v, rfl, hf, hb⟩; have HF2 : Hid (FltIs w2 v o) := hf; have HB2 := Lib.hid (below_to HB1.out hb); clear hb hf)
    | (go_at_call 7; have C := H7.out; (with_reducible refine Calls.mono C ?_); clear C; rintro e w1 ⟨rfl, hb⟩; have HB1 := Lib.hid (hb); clear hb))
  go_ret
  exact ⟨by simp, HB4.out⟩
theorem stampParses_any (s : ByteArray) (w : World) (hI : IsInv w) (hl : 18 < w.heap.size) (hG : PSt.GInv w) : Calls Tryd.prog 4 #[.string s] w fun e w' => e = .returned (.bool true) ∧ Below w.heap.size w w' := by
  by_cases hs : s.size ≤ 60
  · exact parses_short s _ _ _ rfl w hI hl hG hs
  · exact parses_long s w hI hl hG (by omega)
end Go.Proofs.YtlgdenihddkjaaaDoor
