/- What stamp.Text and stamp.Http write. -/
import Derived.Test.YtlgdenihddkjaaaDoorMade3
namespace Go.Proofs.YtlgdenihddkjaaaDoor
set_option linter.unusedSimpArgs false
set_option linter.unusedVariables false
open Go.RowKit

theorem below_blk {w w' : World} {n : Nat} {o : Obj} (h : Below w.heap.size w w') (hb : w.heap[n]? = some o) : w'.heap[n]? = some o := (h.block n (heap_lt hb)).trans hb
theorem below_to {w x y : World} (h : Below w.heap.size w x) (k : Below x.heap.size x y) : Below w.heap.size w y := h.trans (k.mono h.size)


set_option maxHeartbeats 8000000 in
theorem text_whole (k : Nat) (sec nan day y m d : Int) (clock s1 s2 s3 : ByteArray) (w : World) (hG : PSt.GInv w) (hk : checkS sec nan = none) (hn : nan = 0) (hp : PSt.stamp_parted.f k sec nan = some (day, clock)) (hc : PSt.stamp_Civil.f day = some (y, m, d))
    (h1 : PSt.stamp_digits.f k y 4 = some s1) (h2 : PSt.stamp_digits.f k m 2 = some s2) (h3 : PSt.stamp_digits.f k d 2 = some s3) (z0 : clock.size ≤ 100) (z1 : s1.size ≤ 100) (z2 : s2.size ≤ 100) (z3 : s3.size ≤ 100) :
    Calls Tryd.prog 13 #[.agg #[.int .i64 sec, .int .i64 nan]] w fun e w' => e = .returned (.string (((((((s1 ++ ⟨#[45]⟩) ++ s2) ++ ⟨#[45]⟩) ++ s3) ++ ⟨#[84]⟩) ++ clock) ++ ⟨#[90]⟩)) ∧ Below w.heap.size w w' := by
  subst hn
  have HK := (show Hid _ from hk)
  have HP := (show Hid _ from hp)
  have HC := (show Hid _ from hc)
  have H1 : Hid (PSt.stamp_digits.f k y 4 = some s1) := h1
  have H2 : Hid (PSt.stamp_digits.f k m 2 = some s2) := h2
  have H3 : Hid (PSt.stamp_digits.f k d 2 = some s3) := h3
  have HB0 := (show Hid _ from (Below.refl w.heap.size w).alloc (Nat.le_refl _) (.cells #[.int .i64 sec, .int .i64 0] 31))
  have HX0 := (show Hid _ from heap_alloc_new w (.cells #[.int .i64 sec, .int .i64 0] 31))
  have HG0 := (show Hid _ from PSt.GInv.below hG HB0.out)
  clear hk hp hc h1 h2 h3 hG
  go_enter Tryd.func13, Tryd.ntmps13
  go_wp2_with (first
    | (go_at_call 40; have C := (PSt.stamp_digits.calls k d 2 s3 w5 HG5.out H3.out); refine Calls.mono C ?_; clear C; rintro e w6 ⟨rfl, hb⟩; have HB6 := (show Hid _ from below_to HB5.out hb); have HX6 := (show Hid _ from below_blk hb HX5.out); have hc6 := blk_cell HX6.out 0; have hd6 := blk_cell HX6.out 1; simp at hc6 hd6; have HG6 : Hid (PSt.GInv w6) := PSt.GInv.below HG5.out hb; clear hb HG5)
    | (go_at_call 40; have C := (PSt.stamp_digits.calls k m 2 s2 w4 HG4.out H2.out); refine Calls.mono C ?_; clear C; rintro e w5 ⟨rfl, hb⟩; have HB5 := (show Hid _ from below_to HB4.out hb); have HX5 := (show Hid _ from below_blk hb HX4.out); have hc5 := blk_cell HX5.out 0; have hd5 := blk_cell HX5.out 1; simp at hc5 hd5; have HG5 : Hid (PSt.GInv w5) := PSt.GInv.below HG4.out hb; clear hb HG4)
    | (go_at_call 40; have C := (PSt.stamp_digits.calls k y 4 s1 w3 HG3.out H1.out); refine Calls.mono C ?_; clear C; rintro e w4 ⟨rfl, hb⟩; have HB4 := (show Hid _ from below_to HB3.out hb); have HX4 := (show Hid _ from below_blk hb HX3.out); have hc4 := blk_cell HX4.out 0; have hd4 := blk_cell HX4.out 1; simp at hc4 hd4; have HG4 : Hid (PSt.GInv w4) := PSt.GInv.below HG3.out hb; clear hb HG3)
    | (go_at_call 8; have C := (PSt.stamp_Civil.calls day y m d w2 HC.out); refine Calls.mono C ?_; clear C; rintro e w3 ⟨rfl, hb⟩; have HB3 := (show Hid _ from below_to HB2.out hb); have HX3 := (show Hid _ from below_blk hb HX2.out); have hc3 := blk_cell HX3.out 0; have hd3 := blk_cell HX3.out 1; simp at hc3 hd3; have HG3 : Hid (PSt.GInv w3) := PSt.GInv.below HG2.out hb; clear hb HG2)
    | (go_at_call 39; have C := (PSt.stamp_parted.calls k sec 0 day clock w1 HG1.out HP.out); refine Calls.mono C ?_; clear C; rintro e w2 ⟨rfl, hb⟩; have HB2 := (show Hid _ from below_to HB1.out hb); have HX2 := (show Hid _ from below_blk hb HX1.out); have hc2 := blk_cell HX2.out 0; have hd2 := blk_cell HX2.out 1; simp at hc2 hd2; have HG2 : Hid (PSt.GInv w2) := PSt.GInv.below HG1.out hb; clear hb HG1)
    | (go_at_call 16; have C := (check_good sec 0 (w.alloc (.cells #[.int .i64 sec, .int .i64 0] 31)) (fun h => by have hk := HK.out; rw [checkS, if_pos h] at hk; cases hk)); refine Calls.mono C ?_; clear C; rintro e w1 ⟨rfl, hb⟩; have HB1 := (show Hid _ from below_to HB0.out hb); have HX1 := (show Hid _ from below_blk hb HX0.out); have hc1 := blk_cell HX1.out 0; have hd1 := blk_cell HX1.out 1; simp at hc1 hd1; have HG1 : Hid (PSt.GInv w1) := PSt.GInv.below HG0.out hb; clear hb HG0))
  go_ret
  exact ⟨rfl, HB6.out⟩


set_option maxHeartbeats 8000000 in
theorem text_parts (k : Nat) (sec nan day y m d : Int) (clock s1 s2 s3 s4 : ByteArray) (w : World) (hG : PSt.GInv w) (hk : checkS sec nan = none) (hn : 0 < nan) (hp : PSt.stamp_parted.f k sec nan = some (day, clock)) (hc : PSt.stamp_Civil.f day = some (y, m, d))
    (h1 : PSt.stamp_digits.f k y 4 = some s1) (h2 : PSt.stamp_digits.f k m 2 = some s2) (h3 : PSt.stamp_digits.f k d 2 = some s3) (h4 : PSt.stamp_digits.f k nan 9 = some s4) (z0 : clock.size ≤ 100) (z1 : s1.size ≤ 100) (z2 : s2.size ≤ 100) (z3 : s3.size ≤ 100) (z4 : s4.size ≤ 100) (z5 : (Lib.trimRightB s4.data.toList 48).length ≤ 100) :
    Calls Tryd.prog 13 #[.agg #[.int .i64 sec, .int .i64 nan]] w fun e w' => e = .returned (.string ((((((((s1 ++ ⟨#[45]⟩) ++ s2) ++ ⟨#[45]⟩) ++ s3) ++ ⟨#[84]⟩) ++ clock) ++ (⟨#[46]⟩ ++ ⟨(Lib.trimRightB s4.data.toList 48).toArray⟩)) ++ ⟨#[90]⟩)) ∧ Below w.heap.size w w' := by
  have HK := (show Hid _ from hk)
  have HP := (show Hid _ from hp)
  have HC := (show Hid _ from hc)
  have H1 : Hid (PSt.stamp_digits.f k y 4 = some s1) := h1
  have H2 : Hid (PSt.stamp_digits.f k m 2 = some s2) := h2
  have H3 : Hid (PSt.stamp_digits.f k d 2 = some s3) := h3
  have H4 : Hid (PSt.stamp_digits.f k nan 9 = some s4) := h4
  have HB0 := (show Hid _ from (Below.refl w.heap.size w).alloc (Nat.le_refl _) (.cells #[.int .i64 sec, .int .i64 nan] 31))
  have HX0 := (show Hid _ from heap_alloc_new w (.cells #[.int .i64 sec, .int .i64 nan] 31))
  have HG0 := (show Hid _ from PSt.GInv.below hG HB0.out)
  clear hk hp hc h1 h2 h3 hG h4
  go_enter Tryd.func13, Tryd.ntmps13
  go_wp2_with (first
    | (go_at_call 41; have C := (Tryd.strings_TrimRight_one s4 48 (by decide) w7 (by omega)); refine Calls.mono C ?_; clear C; rintro e w8 ⟨rfl, hw⟩; have hb : Below w7.heap.size w7 w8 := (by rw [hw]; exact Below.refl _ _); clear hw; have HB8 := (show Hid _ from below_to HB7.out hb); have HX8 := (show Hid _ from below_blk hb HX7.out); have hc8 := blk_cell HX8.out 0; have hd8 := blk_cell HX8.out 1; simp at hc8 hd8; have HG8 : Hid (PSt.GInv w8) := PSt.GInv.below HG7.out hb; clear hb HG7)
    | (go_at_call 40; have C := (PSt.stamp_digits.calls k nan 9 s4 w6 HG6.out H4.out); refine Calls.mono C ?_; clear C; rintro e w7 ⟨rfl, hb⟩; have HB7 := (show Hid _ from below_to HB6.out hb); have HX7 := (show Hid _ from below_blk hb HX6.out); have hc7 := blk_cell HX7.out 0; have hd7 := blk_cell HX7.out 1; simp at hc7 hd7; have HG7 : Hid (PSt.GInv w7) := PSt.GInv.below HG6.out hb; clear hb HG6)
    | (go_at_call 40; have C := (PSt.stamp_digits.calls k d 2 s3 w5 HG5.out H3.out); refine Calls.mono C ?_; clear C; rintro e w6 ⟨rfl, hb⟩; have HB6 := (show Hid _ from below_to HB5.out hb); have HX6 := (show Hid _ from below_blk hb HX5.out); have hc6 := blk_cell HX6.out 0; have hd6 := blk_cell HX6.out 1; simp at hc6 hd6; have HG6 : Hid (PSt.GInv w6) := PSt.GInv.below HG5.out hb; clear hb HG5)
    | (go_at_call 40; have C := (PSt.stamp_digits.calls k m 2 s2 w4 HG4.out H2.out); refine Calls.mono C ?_; clear C; rintro e w5 ⟨rfl, hb⟩; have HB5 := (show Hid _ from below_to HB4.out hb); have HX5 := (show Hid _ from below_blk hb HX4.out); have hc5 := blk_cell HX5.out 0; have hd5 := blk_cell HX5.out 1; simp at hc5 hd5; have HG5 : Hid (PSt.GInv w5) := PSt.GInv.below HG4.out hb; clear hb HG4)
    | (go_at_call 40; have C := (PSt.stamp_digits.calls k y 4 s1 w3 HG3.out H1.out); refine Calls.mono C ?_; clear C; rintro e w4 ⟨rfl, hb⟩; have HB4 := (show Hid _ from below_to HB3.out hb); have HX4 := (show Hid _ from below_blk hb HX3.out); have hc4 := blk_cell HX4.out 0; have hd4 := blk_cell HX4.out 1; simp at hc4 hd4; have HG4 : Hid (PSt.GInv w4) := PSt.GInv.below HG3.out hb; clear hb HG3)
    | (go_at_call 8; have C := (PSt.stamp_Civil.calls day y m d w2 HC.out); refine Calls.mono C ?_; clear C; rintro e w3 ⟨rfl, hb⟩; have HB3 := (show Hid _ from below_to HB2.out hb); have HX3 := (show Hid _ from below_blk hb HX2.out); have hc3 := blk_cell HX3.out 0; have hd3 := blk_cell HX3.out 1; simp at hc3 hd3; have HG3 : Hid (PSt.GInv w3) := PSt.GInv.below HG2.out hb; clear hb HG2)
    | (go_at_call 39; have C := (PSt.stamp_parted.calls k sec nan day clock w1 HG1.out HP.out); refine Calls.mono C ?_; clear C; rintro e w2 ⟨rfl, hb⟩; have HB2 := (show Hid _ from below_to HB1.out hb); have HX2 := (show Hid _ from below_blk hb HX1.out); have hc2 := blk_cell HX2.out 0; have hd2 := blk_cell HX2.out 1; simp at hc2 hd2; have HG2 : Hid (PSt.GInv w2) := PSt.GInv.below HG1.out hb; clear hb HG1)
    | (go_at_call 16; have C := (check_good sec nan (w.alloc (.cells #[.int .i64 sec, .int .i64 nan] 31)) (fun h => by have hk := HK.out; rw [checkS, if_pos h] at hk; cases hk)); refine Calls.mono C ?_; clear C; rintro e w1 ⟨rfl, hb⟩; have HB1 := (show Hid _ from below_to HB0.out hb); have HX1 := (show Hid _ from below_blk hb HX0.out); have hc1 := blk_cell HX1.out 0; have hd1 := blk_cell HX1.out 1; simp at hc1 hd1; have HG1 : Hid (PSt.GInv w1) := PSt.GInv.below HG0.out hb; clear hb HG0))
  go_ret
  exact ⟨rfl, HB8.out⟩

end Go.Proofs.YtlgdenihddkjaaaDoor
