/- What stamp.Text and stamp.Http write of a wrong stamp, and stamp.Http of a right one. -/
import Derived.Test.YtlgdenihddkjaaaDoorTx
import Derived.Test.YtlgdenihddkjaaaDoorFb
namespace Go.Proofs.YtlgdenihddkjaaaDoor
set_option linter.unusedSimpArgs false
set_option linter.unusedVariables false
open Go.RowKit Go.Lib Go.Proofs.YtlgdenihddkjaaaDoorW.PrintWords

set_option maxHeartbeats 4000000 in
theorem text_bad (sec nan : Int) (w : World) (hI : ErrInv w) (hk : checkS sec nan = some (0, 4)) : Calls Tryd.prog 13 #[.agg #[.int .i64 sec, .int .i64 nan]] w fun e w' => e = .returned (.string ⟨#[]⟩) ∧ Below w.heap.size w w' := by
  have h : nan < 0 ∨ nan ≥ 1000000000 ∨ sec < -62167219200 ∨ sec > 253402300799 := by
    unfold checkS at hk
    split at hk
    · assumption
    · cases hk
  have HB0 := (show Hid _ from (Below.refl w.heap.size w).alloc (Nat.le_refl _) (.cells #[.int .i64 sec, .int .i64 nan] 31))
  have HC := (show Hid _ from check_bad sec nan _ (ErrInv.below hI HB0.out) h)
  clear hI hk h
  go_enter Tryd.func13, Tryd.ntmps13
  go_wp2_with (go_at_call 16; have C := HC.out; refine Calls.mono C ?_; clear C; rintro e w1 ⟨v, rfl, hf, hb⟩; obtain ⟨_, _, gf, sf, rfl, _, _⟩ := hf; have HB1 := (show Hid _ from below_to HB0.out hb); clear hb)
  go_ret
  exact ⟨rfl, HB1.out⟩
set_option maxHeartbeats 4000000 in
theorem http_bad (sec nan : Int) (w : World) (hI : ErrInv w) (hk : checkS sec nan = some (0, 4)) : Calls Tryd.prog 15 #[.agg #[.int .i64 sec, .int .i64 nan]] w fun e w' => e = .returned (.string ⟨#[]⟩) ∧ Below w.heap.size w w' := by
  have h : nan < 0 ∨ nan ≥ 1000000000 ∨ sec < -62167219200 ∨ sec > 253402300799 := by
    unfold checkS at hk
    split at hk
    · assumption
    · cases hk
  have HB0 := (show Hid _ from (Below.refl w.heap.size w).alloc (Nat.le_refl _) (.cells #[.int .i64 sec, .int .i64 nan] 31))
  have HC := (show Hid _ from check_bad sec nan _ (ErrInv.below hI HB0.out) h)
  clear hI hk h
  go_enter Tryd.func15, Tryd.ntmps15
  go_wp2_with (go_at_call 16; have C := HC.out; refine Calls.mono C ?_; clear C; rintro e w1 ⟨v, rfl, hf, hb⟩; obtain ⟨_, _, gf, sf, rfl, _, _⟩ := hf; have HB1 := (show Hid _ from below_to HB0.out hb); clear hb)
  go_ret
  exact ⟨rfl, HB1.out⟩

def wds : ByteArray := ⟨#[77, 111, 110, 84, 117, 101, 87, 101, 100, 84, 104, 117, 70, 114, 105, 83, 97, 116, 83, 117, 110]⟩
def mos : ByteArray := ⟨#[74, 97, 110, 70, 101, 98, 77, 97, 114, 65, 112, 114, 77, 97, 121, 74, 117, 110, 74, 117, 108, 65, 117, 103, 83, 101, 112, 79, 99, 116, 78, 111, 118, 68, 101, 99]⟩
def wdT (wk : Int) : ByteArray := wds.extract (3 * wk).toNat (3 * wk + 3).toNat
def moT (m : Int) : ByteArray := mos.extract (3 * m - 3).toNat (3 * m).toNat
theorem wd_at (wk : Int) (h0 : 0 ≤ wk) (h6 : wk ≤ 6) (w : World) : (Instr.slice 9 (.string wds) (some (.int .i64 (3 * wk))) (some (.int .i64 (3 * wk + 3))) none).run Tryd.prog w = .ok (.string (wdT wk)) w := by
  have h : wk = 0 ∨ wk = 1 ∨ wk = 2 ∨ wk = 3 ∨ wk = 4 ∨ wk = 5 ∨ wk = 6 := by omega
  clear h0 h6
  rcases h with rfl | rfl | rfl | rfl | rfl | rfl | rfl <;> (show _ = _; kernel_rfl)
theorem mo_at (m : Int) (h0 : 1 ≤ m) (h6 : m ≤ 12) (w : World) : (Instr.slice 9 (.string mos) (some (.int .i64 (3 * m - 3))) (some (.int .i64 (3 * m))) none).run Tryd.prog w = .ok (.string (moT m)) w := by
  have h : m = 1 ∨ m = 2 ∨ m = 3 ∨ m = 4 ∨ m = 5 ∨ m = 6 ∨ m = 7 ∨ m = 8 ∨ m = 9 ∨ m = 10 ∨ m = 11 ∨ m = 12 := by omega
  clear h0 h6
  rcases h with rfl | rfl | rfl | rfl | rfl | rfl | rfl | rfl | rfl | rfl | rfl | rfl <;> (show _ = _; kernel_rfl)
theorem wdT_size (wk : Int) (h0 : 0 ≤ wk) (h6 : wk ≤ 6) : (wdT wk).size = 3 := by
  have h : wk = 0 ∨ wk = 1 ∨ wk = 2 ∨ wk = 3 ∨ wk = 4 ∨ wk = 5 ∨ wk = 6 := by omega
  clear h0 h6
  rcases h with rfl | rfl | rfl | rfl | rfl | rfl | rfl <;> decide +kernel
theorem moT_size (m : Int) (h0 : 1 ≤ m) (h6 : m ≤ 12) : (moT m).size = 3 := by
  have h : m = 1 ∨ m = 2 ∨ m = 3 ∨ m = 4 ∨ m = 5 ∨ m = 6 ∨ m = 7 ∨ m = 8 ∨ m = 9 ∨ m = 10 ∨ m = 11 ∨ m = 12 := by omega
  clear h0 h6
  rcases h with rfl | rfl | rfl | rfl | rfl | rfl | rfl | rfl | rfl | rfl | rfl | rfl <;> decide +kernel

set_option maxRecDepth 100000 in
set_option maxHeartbeats 8000000 in
theorem http_good (k : Nat) (sec nan day y m d wk : Int) (clock s1 s3 : ByteArray) (w : World) (hG : PSt.GInv w) (hk : checkS sec nan = none) (hp : PSt.stamp_parted.f k sec nan = some (day, clock)) (hc : PSt.stamp_Civil.f day = some (y, m, d)) (hw : PSt.stamp_Week.f day = some wk) (hw0 : 0 ≤ wk) (hw6 : wk ≤ 6) (hm1 : 1 ≤ m) (hm12 : m ≤ 12)
    (h1 : PSt.stamp_digits.f k y 4 = some s1) (h3 : PSt.stamp_digits.f k d 2 = some s3) (z0 : clock.size ≤ 100) (z1 : s1.size ≤ 100) (z3 : s3.size ≤ 100) :
    Calls Tryd.prog 15 #[.agg #[.int .i64 sec, .int .i64 nan]] w fun e w' => e = .returned (.string (wdT wk ++ ⟨#[44, 32]⟩ ++ s3 ++ ⟨#[32]⟩ ++ moT m ++ ⟨#[32]⟩ ++ s1 ++ ⟨#[32]⟩ ++ clock ++ ⟨#[32, 71, 77, 84]⟩)) ∧ Below w.heap.size w w' := by
  have HK := (show Hid _ from hk)
  have HP := (show Hid _ from hp)
  have HC := (show Hid _ from hc)
  have HW := (show Hid _ from hw)
  have H1 : Hid (PSt.stamp_digits.f k y 4 = some s1) := h1
  have H3 : Hid (PSt.stamp_digits.f k d 2 = some s3) := h3
  have HB0 := (show Hid _ from (Below.refl w.heap.size w).alloc (Nat.le_refl _) (.cells #[.int .i64 sec, .int .i64 nan] 31))
  have HX0 := (show Hid _ from heap_alloc_new w (.cells #[.int .i64 sec, .int .i64 nan] 31))
  have HG0 := (show Hid _ from PSt.GInv.below hG HB0.out)
  clear hk hp hc h1 h3 hG hw
  go_enter Tryd.func15, Tryd.ntmps15
  go_wp2_with (first
    | (go_at_call 21; have C := PSt.stamp_Week.calls day wk w3 HW.out; refine Calls.mono C ?_; clear C; rintro e w4 ⟨rfl, hd⟩; have hb := Drawn0.below hd; have HB4 := (show Hid _ from below_to HB3.out hb); have HG4 : Hid (PSt.GInv w4) := PSt.GInv.below HG3.out hb; clear hd hb HG3)
    | (go_at_call 8; have C := PSt.stamp_Civil.calls day y m d w2 HC.out; refine Calls.mono C ?_; clear C; rintro e w3 ⟨rfl, hb⟩; have HB3 := (show Hid _ from below_to HB2.out hb); have HG3 : Hid (PSt.GInv w3) := PSt.GInv.below HG2.out hb; clear hb HG2)
    | (go_at_call 39; have C := PSt.stamp_parted.calls k sec nan day clock w1 HG1.out HP.out; refine Calls.mono C ?_; clear C; rintro e w2 ⟨rfl, hb⟩; have HB2 := (show Hid _ from below_to HB1.out hb); have HG2 : Hid (PSt.GInv w2) := PSt.GInv.below HG1.out hb; clear hb HG1)
    | (go_at_call 16; have C := check_good sec nan (w.alloc (.cells #[.int .i64 sec, .int .i64 nan] 31)) (fun h => by have hk := HK.out; rw [checkS, if_pos h] at hk; cases hk); refine Calls.mono C ?_; clear C; rintro e w1 ⟨rfl, hb⟩; have HB1 := (show Hid _ from below_to HB0.out hb); have HX1 := (show Hid _ from below_blk hb HX0.out); have hc1 := blk_cell HX1.out 0; have hd1 := blk_cell HX1.out 1; simp at hc1 hd1; have HG1 : Hid (PSt.GInv w1) := PSt.GInv.below HG0.out hb; clear hb HG0))
  have u1 : IntKind.i64.wrap (3 * wk + 3) = 3 * wk + 3 := by rw [IntKind.wrap_i64]; omega
  have u2 : IntKind.i64.wrap (3 * m) = 3 * m := by rw [IntKind.wrap_i64]; omega
  have u3 : IntKind.i64.wrap (3 * m - 3) = 3 * m - 3 := by rw [IntKind.wrap_i64]; omega
  have hs1 := wd_at wk hw0 hw6
  have hs2 := mo_at m hm1 hm12
  have hz1 := wdT_size wk hw0 hw6
  have hz2 := moT_size m hm1 hm12
  unfold wds at hs1
  unfold mos at hs2
  go_region_with (first
    | (go_at_call 40; have C := PSt.stamp_digits.calls k y 4 s1 wA HGA.out H1.out; (with_reducible refine Calls.mono C ?_); clear C; rintro e wB ⟨rfl, hb⟩; have HBB := (show Hid _ from below_to HBA.out hb); clear hb HGA)
    | (go_at_call 40; have C := PSt.stamp_digits.calls k d 2 s3 wC HGC.out H3.out; (with_reducible refine Calls.mono C ?_); clear C; rintro e wD ⟨rfl, hb⟩; have HBD := (show Hid _ from below_to HBC.out hb); clear hb HGC)
    | (go_at_call 40; have C := PSt.stamp_digits.calls k d 2 s3 w4.drew (HG4.out) H3.out; (with_reducible refine Calls.mono C ?_); clear C; rintro e wA ⟨rfl, hb⟩; have HBA : Hid (Below w.heap.size w wA) := below_to (HB4.out.drew) hb; have HGA : Hid (PSt.GInv wA) := PSt.GInv.below (w := w4.drew) HG4.out hb; clear hb)
    | (go_at_call 40; have C := PSt.stamp_digits.calls k y 4 s1 w4.drew (HG4.out) H1.out; (with_reducible refine Calls.mono C ?_); clear C; rintro e wC ⟨rfl, hb⟩; have HBC : Hid (Below w.heap.size w wC) := below_to (HB4.out.drew) hb; have HGC : Hid (PSt.GInv wC) := PSt.GInv.below (w := w4.drew) HG4.out hb; clear hb))
  all_goals
    go_wp2
    simp only [Act.put, List.setIfInBounds_toArray, List.set_cons_zero, List.set_cons_succ]
    go_ret
    first | exact ⟨rfl, HBB.out⟩ | exact ⟨rfl, HBD.out⟩
end Go.Proofs.YtlgdenihddkjaaaDoor
