/- The walk of StampTexts: a wrong stamp. -/
import Derived.Test.YtlgdenihddkjaaaDoorHr
import Derived.Test.YtlgdenihddkjaaaDoorPr
namespace Go.Proofs.YtlgdenihddkjaaaDoor
set_option linter.unusedSimpArgs false
set_option linter.unusedVariables false
open Go.RowKit Go.Lib Go.Proofs.YtlgdenihddkjaaaDoorW.PrintWords

theorem good_f (sec nan : Int) : PSt.eponymref16_Good.f sec nan = some (decide (checkS sec nan = none)) := by
  unfold PSt.eponymref16_Good.f checkS
  by_cases h1 : nan ≥ 0
  · by_cases h2 : nan ≤ 999999999
    · by_cases h3 : sec ≥ -62167219200
      · by_cases h4 : sec ≤ 253402300799
        · rw [if_pos h1, if_pos h2, if_pos h3, if_neg (by omega)]; simp [h4]
        · rw [if_pos h1, if_pos h2, if_pos h3, if_pos (by omega)]; simp [h4]
      · rw [if_pos h1, if_pos h2, if_neg h3, if_pos (by omega)]; simp
    · rw [if_pos h1, if_neg h2, if_pos (by omega)]; simp
  · rw [if_neg h1, if_pos (by omega)]; simp

set_option maxHeartbeats 8000000 in
theorem texts_bad (sec nan : Int) (w : World) (hI : IsInv w) (hl : 18 < w.heap.size) (hG : PSt.GInv w) (hk : checkS sec nan = some (0, 4)) :
    Calls Tryd.prog 5 #[.agg #[.int .i64 sec, .int .i64 nan]] w fun e w' => e = .returned (.bool true) ∧ Below w.heap.size w w' := by
  have HB0 := (show Hid _ from (Below.refl w.heap.size w).alloc (Nat.le_refl _) (.cells #[.int .i64 sec, .int .i64 nan] 31))
  have HX0 := (show Hid _ from heap_alloc_new w (.cells #[.int .i64 sec, .int .i64 nan] 31))
  have HE : Hid (∀ w1, Below w.heap.size w w1 → ErrInv w1) := fun w1 hb => ErrInv.below (hI.err hl) hb
  have HI : Hid (∀ w1, Below w.heap.size w w1 → IsInv w1) := fun w1 hb => hI.below hb
  have HG : Hid (∀ w1, Below w.heap.size w w1 → PSt.GInv w1) := fun w1 hb => PSt.GInv.below hG hb
  have HK := (show Hid _ from hk)
  have HGood : Hid (PSt.eponymref16_Good.f sec nan = some false) := by show _ = _; rw [good_f, hk]; rfl
  clear hI hl hG hk
  go_enter Tryd.func5, Tryd.ntmps5
  go_wp2_with (first
    | (go_at_call 12; have C := is_any v (some (0, 4)) 0 4 (by omega) (by omega) w5 HF5.out (HI.out w5 HB5.out); (with_reducible refine Calls.mono C ?_); clear C; rintro e w6 ⟨rfl, hb⟩; have HB6 := (show Hid _ from below_to HB5.out hb); clear hb HB5)
    | (go_at_call 16; have C := check_any sec nan w4 (HE.out w4 HB4.out); rw [HK.out] at C; (with_reducible refine Calls.mono C ?_); clear C; rintro e w5 ⟨v, rfl, hf, hb⟩; have HF5 : Hid (FltIs w5 v (some (0, 4))) := hf; have HB5 := (show Hid _ from below_to HB4.out hb); clear hb hf HB4)
    | (go_at_call 15; have C := http_bad sec nan w3 (HE.out w3 HB3.out) HK.out; (with_reducible refine Calls.mono C ?_); clear C; rintro e w4 ⟨rfl, hb⟩; have HB4 := (show Hid _ from below_to HB3.out hb); have HX4 := (show Hid _ from below_blk hb HX3.out); have hc4 := blk_cell HX4.out 0; have hd4 := blk_cell HX4.out 1; simp at hc4 hd4; clear hb HB3)
    | (go_at_call 14; have C := PSt.eponymref16_Good.calls sec nan false w2 HGood.out; (with_reducible refine Calls.mono C ?_); clear C; rintro e w3 ⟨rfl, hb⟩; have HB3 := (show Hid _ from below_to HB2.out hb); have HX3 := (show Hid _ from below_blk hb HX2.out); have hc3 := blk_cell HX3.out 0; have hd3 := blk_cell HX3.out 1; simp at hc3 hd3; clear hb HB2)
    | (go_at_call 13; have C := text_bad sec nan w1 (HE.out w1 HB1.out) HK.out; (with_reducible refine Calls.mono C ?_); clear C; rintro e w2 ⟨rfl, hb⟩; have HB2 := (show Hid _ from below_to HB1.out hb); have HX2 := (show Hid _ from below_blk hb HX1.out); have hc2 := blk_cell HX2.out 0; have hd2 := blk_cell HX2.out 1; simp at hc2 hd2; clear hb HB1)
    | (go_at_call 7; have C := awake_any (w.alloc (.cells #[.int .i64 sec, .int .i64 nan] 31)) (HE.out _ HB0.out) (HG.out _ HB0.out); (with_reducible refine Calls.mono C ?_); clear C; rintro e w1 ⟨rfl, hb⟩; have HB1 := (show Hid _ from below_to HB0.out hb); have HX1 := (show Hid _ from below_blk hb HX0.out); have hc1 := blk_cell HX1.out 0; have hd1 := blk_cell HX1.out 1; simp at hc1 hd1; clear hb))
  go_ret
  exact ⟨by simp [isB], HB6.out⟩

set_option maxRecDepth 100000 in
set_option maxHeartbeats 8000000 in
theorem texts_good (sec : Int) (n : Nat) (T HH : ByteArray) (w : World) (hAw : ∀ x, Below w.heap.size w x → Calls Tryd.prog 7 #[] x fun e w' => e = .returned (.bool true) ∧ Below x.heap.size x w')
    (h13 : ∀ x, Below w.heap.size w x → Calls Tryd.prog 13 #[.agg #[.int .i64 sec, .int .i64 n]] x fun e w' => e = .returned (.string T) ∧ Below x.heap.size x w')
    (h14 : ∀ x, Calls Tryd.prog 14 #[.agg #[.int .i64 sec, .int .i64 n]] x fun e w' => e = .returned (.bool true) ∧ Below x.heap.size x w')
    (h10 : ∀ x, Below w.heap.size w x → Calls Tryd.prog 10 #[.string T] x fun e w' => e = .returned (.tuple #[.agg #[.int .i64 sec, .int .i64 n], .nilIface]) ∧ Below x.heap.size x w')
    (h17 : ∀ x, Calls Tryd.prog 17 #[.agg #[.int .i64 sec, .int .i64 n]] x fun e w' => e = .returned (.string T) ∧ Below x.heap.size x w')
    (h15 : ∀ x, Below w.heap.size w x → Calls Tryd.prog 15 #[.agg #[.int .i64 sec, .int .i64 n]] x fun e w' => e = .returned (.string HH) ∧ Below x.heap.size x w')
    (h18 : ∀ x, Calls Tryd.prog 18 #[.agg #[.int .i64 sec, .int .i64 n]] x fun e w' => e = .returned (.string HH) ∧ Below x.heap.size x w')
    (h16 : ∀ x, Calls Tryd.prog 16 #[.agg #[.int .i64 sec, .int .i64 n]] x fun e w' => e = .returned .nilIface ∧ Below x.heap.size x w') :
    Calls Tryd.prog 5 #[.agg #[.int .i64 sec, .int .i64 n]] w fun e w' => e = .returned (.bool true) ∧ Below w.heap.size w w' := by
  have HB0 := (show Hid _ from (Below.refl w.heap.size w).alloc (Nat.le_refl _) (.cells #[.int .i64 sec, .int .i64 n] 31))
  have HX0 := (show Hid _ from heap_alloc_new w (.cells #[.int .i64 sec, .int .i64 n] 31))
  have HK7 := (show Hid _ from hAw)
  have HK13 := (show Hid _ from h13)
  have HK14 := (show Hid _ from h14)
  have HK10 := (show Hid _ from h10)
  have HK17 := (show Hid _ from h17)
  have HK15 := (show Hid _ from h15)
  have HK18 := (show Hid _ from h18)
  have HK16 := (show Hid _ from h16)
  clear hAw h13 h14 h10 h17 h15 h18 h16
  go_enter Tryd.func5, Tryd.ntmps5
  go_wp2_with (first
    | (go_at_call 10; have C := HK10.out w3 HB3.out; (with_reducible refine Calls.mono C ?_); clear C; rintro e w4 ⟨rfl, hb⟩; have HB4 := (show Hid _ from below_to HB3.out hb); have HX4 := (show Hid _ from below_blk hb HX3.out); clear hb HB3)
    | (go_at_call 14; have C := HK14.out w2; (with_reducible refine Calls.mono C ?_); clear C; rintro e w3 ⟨rfl, hb⟩; have HB3 := (show Hid _ from below_to HB2.out hb); have HX3 := (show Hid _ from below_blk hb HX2.out); have hc3 := blk_cell HX3.out 0; have hd3 := blk_cell HX3.out 1; simp at hc3 hd3; clear hb HB2)
    | (go_at_call 13; have C := HK13.out w1 HB1.out; (with_reducible refine Calls.mono C ?_); clear C; rintro e w2 ⟨rfl, hb⟩; have HB2 := (show Hid _ from below_to HB1.out hb); have HX2 := (show Hid _ from below_blk hb HX1.out); have hc2 := blk_cell HX2.out 0; have hd2 := blk_cell HX2.out 1; simp at hc2 hd2; clear hb HB1)
    | (go_at_call 7; have C := HK7.out (w.alloc (.cells #[.int .i64 sec, .int .i64 n] 31)) HB0.out; (with_reducible refine Calls.mono C ?_); clear C; rintro e w1 ⟨rfl, hb⟩; have HB1 := (show Hid _ from below_to HB0.out hb); have HX1 := (show Hid _ from below_blk hb HX0.out); have hc1 := blk_cell HX1.out 0; have hd1 := blk_cell HX1.out 1; simp at hc1 hd1; clear hb))
  have HBA0 : Hid (Below w.heap.size w (w4.alloc (.cells #[.int .i64 sec, .int .i64 n] 31)).drew) := (HB4.out.alloc HB4.out.size _).drew
  have HPA0 : Hid ((w4.alloc (.cells #[.int .i64 sec, .int .i64 n] 31)).drew.heap[w.heap.size]? = some (.cells #[.int .i64 sec, .int .i64 n] 31 (0, 0))) := (Below.heap_alloc w4 _ _ (heap_lt HX4.out)).trans HX4.out
  have HQA0 : Hid ((w4.alloc (.cells #[.int .i64 sec, .int .i64 n] 31)).drew.heap[w4.heap.size]? = some (.cells #[.int .i64 sec, .int .i64 n] 31 (0, 0))) := heap_alloc_new w4 _
  generalize w4.alloc (.cells #[.int .i64 sec, .int .i64 n] 31) = x0 at HBA0 HPA0 HQA0 ⊢
  have pA00 := blk_cell HPA0.out 0
  have pA01 := blk_cell HPA0.out 1
  have qA00 := blk_cell HQA0.out 0
  have qA01 := blk_cell HQA0.out 1
  simp at pA00 pA01 qA00 qA01
  go_region_with (first
    | (go_at_call 16; have C := HK16.out xA3; (with_reducible refine Calls.mono C ?_); clear C; rintro e xA4 ⟨rfl, hb⟩; have HBA4 := (show Hid _ from below_to HBA3.out hb); have HPA4 := (show Hid _ from below_blk hb HPA3.out); have HQA4 := (show Hid _ from below_blk hb HQA3.out); have pA40 := blk_cell HPA4.out 0; have pA41 := blk_cell HPA4.out 1; have qA40 := blk_cell HQA4.out 0; have qA41 := blk_cell HQA4.out 1; simp at pA40 pA41 qA40 qA41; clear hb)
    | (go_at_call 16; have C := HK16.out xB3; (with_reducible refine Calls.mono C ?_); clear C; rintro e xB4 ⟨rfl, hb⟩; have HBB4 := (show Hid _ from below_to HBB3.out hb); have HPB4 := (show Hid _ from below_blk hb HPB3.out); have HQB4 := (show Hid _ from below_blk hb HQB3.out); have pB40 := blk_cell HPB4.out 0; have pB41 := blk_cell HPB4.out 1; have qB40 := blk_cell HQB4.out 0; have qB41 := blk_cell HQB4.out 1; simp at pB40 pB41 qB40 qB41; clear hb)
    | (go_at_call 18; have C := HK18.out xA2; (with_reducible refine Calls.mono C ?_); clear C; rintro e xA3 ⟨rfl, hb⟩; have HBA3 := (show Hid _ from below_to HBA2.out hb); have HPA3 := (show Hid _ from below_blk hb HPA2.out); have HQA3 := (show Hid _ from below_blk hb HQA2.out); have pA30 := blk_cell HPA3.out 0; have pA31 := blk_cell HPA3.out 1; have qA30 := blk_cell HQA3.out 0; have qA31 := blk_cell HQA3.out 1; simp at pA30 pA31 qA30 qA31; clear hb)
    | (go_at_call 15; have C := HK15.out xB2 HBB2.out; (with_reducible refine Calls.mono C ?_); clear C; rintro e xB3 ⟨rfl, hb⟩; have HBB3 := (show Hid _ from below_to HBB2.out hb); have HPB3 := (show Hid _ from below_blk hb HPB2.out); have HQB3 := (show Hid _ from below_blk hb HQB2.out); have pB30 := blk_cell HPB3.out 0; have pB31 := blk_cell HPB3.out 1; have qB30 := blk_cell HQB3.out 0; have qB31 := blk_cell HQB3.out 1; simp at pB30 pB31 qB30 qB31; clear hb)
    | (go_at_call 15; have C := HK15.out xA1 HBA1.out; (with_reducible refine Calls.mono C ?_); clear C; rintro e xA2 ⟨rfl, hb⟩; have HBA2 := (show Hid _ from below_to HBA1.out hb); have HPA2 := (show Hid _ from below_blk hb HPA1.out); have HQA2 := (show Hid _ from below_blk hb HQA1.out); have pA20 := blk_cell HPA2.out 0; have pA21 := blk_cell HPA2.out 1; have qA20 := blk_cell HQA2.out 0; have qA21 := blk_cell HQA2.out 1; simp at pA20 pA21 qA20 qA21; clear hb)
    | (go_at_call 18; have C := HK18.out xA1; (with_reducible refine Calls.mono C ?_); clear C; rintro e xB2 ⟨rfl, hb⟩; have HBB2 := (show Hid _ from below_to HBA1.out hb); have HPB2 := (show Hid _ from below_blk hb HPA1.out); have HQB2 := (show Hid _ from below_blk hb HQA1.out); have pB20 := blk_cell HPB2.out 0; have pB21 := blk_cell HPB2.out 1; have qB20 := blk_cell HQB2.out 0; have qB21 := blk_cell HQB2.out 1; simp at pB20 pB21 qB20 qB21; clear hb)
    | (go_at_call 17; have C := HK17.out x0.drew; (with_reducible refine Calls.mono C ?_); clear C; rintro e xA1 ⟨rfl, hb⟩; have HBA1 := (show Hid _ from below_to HBA0.out hb); have HPA1 := (show Hid _ from below_blk hb HPA0.out); have HQA1 := (show Hid _ from below_blk hb HQA0.out); have pA10 := blk_cell HPA1.out 0; have pA11 := blk_cell HPA1.out 1; have qA10 := blk_cell HQA1.out 0; have qA11 := blk_cell HQA1.out 1; simp at pA10 pA11 qA10 qA11; clear hb))
  all_goals
    go_wp2
    simp only [Act.put, List.setIfInBounds_toArray, List.set_cons_zero, List.set_cons_succ]
    go_ret
    first | exact ⟨by simp, HBA4.out⟩ | exact ⟨by simp, HBB4.out⟩
end Go.Proofs.YtlgdenihddkjaaaDoor
