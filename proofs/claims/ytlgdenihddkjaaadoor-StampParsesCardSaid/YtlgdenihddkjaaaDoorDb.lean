/- What stamp.Text and stamp.Http write. -/
import Derived.Test.YtlgdenihddkjaaaDoorMb
namespace Go.Proofs.YtlgdenihddkjaaaDoor
set_option linter.unusedSimpArgs false
set_option linter.unusedVariables false
open Go.RowKit

theorem below_blk {w w' : World} {n : Nat} {o : Obj} (h : Below w.heap.size w w') (hb : w.heap[n]? = some o) : w'.heap[n]? = some o := (h.block n (heap_lt hb)).trans hb
theorem below_to {w x y : World} (h : Below w.heap.size w x) (k : Below x.heap.size x y) : Below w.heap.size w y := h.trans (k.mono h.size)


set_option maxHeartbeats 8000000 in
theorem text_whole (k : Nat) (sec nan day y m d : Int) (clock s1 s2 s3 : ByteArray) (w : World) (hG : PSt.GInv w) (hk : checkS sec nan = none) (hn : nan = 0) (hp : PSt.stamp_parted.f k sec nan = some (day, clock)) (hc : PSt.stamp_Civil.f day = some (y, m, d))
    (h1 : PSt.stamp_digits.f k y 4 = some s1) (h2 : PSt.stamp_digits.f k m 2 = some s2) (h3 : PSt.stamp_digits.f k d 2 = some s3) (z0 : clock.size ≤ 100) (z1 : s1.size ≤ 100) (z2 : s2.size ≤ 100) (z3 : s3.size ≤ 100) :
    Calls Tryd.prog 13 #[.agg #[.int .i64 sec, .int .i64 nan]] w fun e w' => e = .returned (.string (((((((s1 ++ ⟨#[45]⟩) ++ s2) ++ ⟨#[45]⟩) ++ s3) ++ ⟨#[84]⟩) ++ clock) ++ ⟨#[90]⟩)) ∧ Below w.heap.size w w' := by
  subst hn
  have HK := (show Hid _ from hk)
  have HP := (show Hid _ from hp)
  have HC := (show Hid _ from hc)
  have H1 : Hid (PSt.stamp_digits.f k y 4 = some s1) := h1
  have H2 : Hid (PSt.stamp_digits.f k m 2 = some s2) := h2
  have H3 : Hid (PSt.stamp_digits.f k d 2 = some s3) := h3
  have HB0 := (show Hid _ from (Below.refl w.heap.size w).alloc (Nat.le_refl _) (.cells #[.int .i64 sec, .int .i64 0] 31))
  have HX0 := (show Hid _ from heap_alloc_new w (.cells #[.int .i64 sec, .int .i64 0] 31))
  have HG0 := (show Hid _ from PSt.GInv.below hG HB0.out)
  clear hk hp hc h1 h2 h3 hG
  go_enter Tryd.func13, Tryd.ntmps13
  go_wp2_with (first
    | (go_at_call 40; have C := (PSt.stamp_digits.calls k d 2 s3 w5 HG5.out H3.out); refine Calls.mono C ?_; clear C; rintro e w6 ⟨rfl, hb⟩; have HB6 := (show Hid _ from below_to HB5.out hb); have HX6 := (show Hid _ from below_blk hb HX5.out); have hc6 := blk_cell HX6.out 0; have hd6 := blk_cell HX6.out 1; simp at hc6 hd6; have HG6 : Hid (PSt.GInv w6) := PSt.GInv.below HG5.out hb; clear hb HG5)
    | (go_at_call 40; have C := (PSt.stamp_digits.calls k m 2 s2 w4 HG4.out H2.out); refine Calls.mono C ?_; clear C; rintro e w5 ⟨rfl, hb⟩; have HB5 := (show Hid _ from below_to HB4.out hb); have HX5 := (show Hid _ from below_blk hb HX4.out); have hc5 := blk_cell HX5.out 0; have hd5 := blk_cell HX5.out 1; simp at hc5 hd5; have HG5 : Hid (PSt.GInv w5) := PSt.GInv.below HG4.out hb; clear hb HG4)
    | (go_at_call 40; have C := (PSt.stamp_digits.calls k y 4 s1 w3 HG3.out H1.out); refine Calls.mono C ?_; clear C; rintro e w4 ⟨rfl, hb⟩; have HB4 := (show Hid _ from below_to HB3.out hb); have HX4 := (show Hid _ from below_blk hb HX3.out); have hc4 := blk_cell HX4.out 0; have hd4 := blk_cell HX4.out 1; simp at hc4 hd4; have HG4 : Hid (PSt.GInv w4) := PSt.GInv.below HG3.out hb; clear hb HG3)
    | (go_at_call 8; have C := (PSt.stamp_Civil.calls day y m d w2 HC.out); refine Calls.mono C ?_; clear C; rintro e w3 ⟨rfl, hb⟩; have HB3 := (show Hid _ from below_to HB2.out hb); have HX3 := (show Hid _ from below_blk hb HX2.out); have hc3 := blk_cell HX3.out 0; have hd3 := blk_cell HX3.out 1; simp at hc3 hd3; have HG3 : Hid (PSt.GInv w3) := PSt.GInv.below HG2.out hb; clear hb HG2)
    | (go_at_call 39; have C := (PSt.stamp_parted.calls k sec 0 day clock w1 HG1.out HP.out); refine Calls.mono C ?_; clear C; rintro e w2 ⟨rfl, hb⟩; have HB2 := (show Hid _ from below_to HB1.out hb); have HX2 := (show Hid _ from below_blk hb HX1.out); have hc2 := blk_cell HX2.out 0; have hd2 := blk_cell HX2.out 1; simp at hc2 hd2; have HG2 : Hid (PSt.GInv w2) := PSt.GInv.below HG1.out hb; clear hb HG1)
    | (go_at_call 16; have C := (check_good sec 0 (w.alloc (.cells #[.int .i64 sec, .int .i64 0] 31)) (fun h => by have hk := HK.out; rw [checkS, if_pos h] at hk; cases hk)); refine Calls.mono C ?_; clear C; rintro e w1 ⟨rfl, hb⟩; have HB1 := (show Hid _ from below_to HB0.out hb); have HX1 := (show Hid _ from below_blk hb HX0.out); have hc1 := blk_cell HX1.out 0; have hd1 := blk_cell HX1.out 1; simp at hc1 hd1; have HG1 : Hid (PSt.GInv w1) := PSt.GInv.below HG0.out hb; clear hb HG0))
  go_ret
  exact ⟨rfl, HB6.out⟩


set_option maxHeartbeats 8000000 in
theorem text_parts (k : Nat) (sec nan day y m d : Int) (clock s1 s2 s3 s4 : ByteArray) (w : World) (hG : PSt.GInv w) (hk : checkS sec nan = none) (hn : 0 < nan) (hp : PSt.stamp_parted.f k sec nan = some (day, clock)) (hc : PSt.stamp_Civil.f day = some (y, m, d))
    (h1 : PSt.stamp_digits.f k y 4 = some s1) (h2 : PSt.stamp_digits.f k m 2 = some s2) (h3 : PSt.stamp_digits.f k d 2 = some s3) (h4 : PSt.stamp_digits.f k nan 9 = some s4) (z0 : clock.size ≤ 100) (z1 : s1.size ≤ 100) (z2 : s2.size ≤ 100) (z3 : s3.size ≤ 100) (z4 : s4.size ≤ 100) (z5 : (Lib.trimRightB s4.data.toList 48).length ≤ 100) :
    Calls Tryd.prog 13 #[.agg #[.int .i64 sec, .int .i64 nan]] w fun e w' => e = .returned (.string ((((((((s1 ++ ⟨#[45]⟩) ++ s2) ++ ⟨#[45]⟩) ++ s3) ++ ⟨#[84]⟩) ++ clock) ++ (⟨#[46]⟩ ++ ⟨(Lib.trimRightB s4.data.toList 48).toArray⟩)) ++ ⟨#[90]⟩)) ∧ Below w.heap.size w w' := by
  have HK := (show Hid _ from hk)
  have HP := (show Hid _ from hp)
  have HC := (show Hid _ from hc)
  have H1 : Hid (PSt.stamp_digits.f k y 4 = some s1) := h1
  have H2 : Hid (PSt.stamp_digits.f k m 2 = some s2) := h2
  have H3 : Hid (PSt.stamp_digits.f k d 2 = some s3) := h3
  have H4 : Hid (PSt.stamp_digits.f k nan 9 = some s4) := h4
  have HB0 := (show Hid _ from (Below.refl w.heap.size w).alloc (Nat.le_refl _) (.cells #[.int .i64 sec, .int .i64 nan] 31))
  have HX0 := (show Hid _ from heap_alloc_new w (.cells #[.int .i64 sec, .int .i64 nan] 31))
  have HG0 := (show Hid _ from PSt.GInv.below hG HB0.out)
  clear hk hp hc h1 h2 h3 hG h4
  go_enter Tryd.func13, Tryd.ntmps13
  go_wp2_with (first
    | (go_at_call 41; have C := (Tryd.strings_TrimRight_one s4 48 (by decide) w7 (by omega)); refine Calls.mono C ?_; clear C; rintro e w8 ⟨rfl, hw⟩; have hb : Below w7.heap.size w7 w8 := (by rw [hw]; exact Below.refl _ _); clear hw; have HB8 := (show Hid _ from below_to HB7.out hb); have HX8 := (show Hid _ from below_blk hb HX7.out); have hc8 := blk_cell HX8.out 0; have hd8 := blk_cell HX8.out 1; simp at hc8 hd8; have HG8 : Hid (PSt.GInv w8) := PSt.GInv.below HG7.out hb; clear hb HG7)
    | (go_at_call 40; have C := (PSt.stamp_digits.calls k nan 9 s4 w6 HG6.out H4.out); refine Calls.mono C ?_; clear C; rintro e w7 ⟨rfl, hb⟩; have HB7 := (show Hid _ from below_to HB6.out hb); have HX7 := (show Hid _ from below_blk hb HX6.out); have hc7 := blk_cell HX7.out 0; have hd7 := blk_cell HX7.out 1; simp at hc7 hd7; have HG7 : Hid (PSt.GInv w7) := PSt.GInv.below HG6.out hb; clear hb HG6)
    | (go_at_call 40; have C := (PSt.stamp_digits.calls k d 2 s3 w5 HG5.out H3.out); refine Calls.mono C ?_; clear C; rintro e w6 ⟨rfl, hb⟩; have HB6 := (show Hid _ from below_to HB5.out hb); have HX6 := (show Hid _ from below_blk hb HX5.out); have hc6 := blk_cell HX6.out 0; have hd6 := blk_cell HX6.out 1; simp at hc6 hd6; have HG6 : Hid (PSt.GInv w6) := PSt.GInv.below HG5.out hb; clear hb HG5)
    | (go_at_call 40; have C := (PSt.stamp_digits.calls k m 2 s2 w4 HG4.out H2.out); refine Calls.mono C ?_; clear C; rintro e w5 ⟨rfl, hb⟩; have HB5 := (show Hid _ from below_to HB4.out hb); have HX5 := (show Hid _ from below_blk hb HX4.out); have hc5 := blk_cell HX5.out 0; have hd5 := blk_cell HX5.out 1; simp at hc5 hd5; have HG5 : Hid (PSt.GInv w5) := PSt.GInv.below HG4.out hb; clear hb HG4)
    | (go_at_call 40; have C := (PSt.stamp_digits.calls k y 4 s1 w3 HG3.out H1.out); refine Calls.mono C ?_; clear C; rintro e w4 ⟨rfl, hb⟩; have HB4 := (show Hid _ from below_to HB3.out hb); have HX4 := (show Hid _ from below_blk hb HX3.out); have hc4 := blk_cell HX4.out 0; have hd4 := blk_cell HX4.out 1; simp at hc4 hd4; have HG4 : Hid (PSt.GInv w4) := PSt.GInv.below HG3.out hb; clear hb HG3)
    | (go_at_call 8; have C := (PSt.stamp_Civil.calls day y m d w2 HC.out); refine Calls.mono C ?_; clear C; rintro e w3 ⟨rfl, hb⟩; have HB3 := (show Hid _ from below_to HB2.out hb); have HX3 := (show Hid _ from below_blk hb HX2.out); have hc3 := blk_cell HX3.out 0; have hd3 := blk_cell HX3.out 1; simp at hc3 hd3; have HG3 : Hid (PSt.GInv w3) := PSt.GInv.below HG2.out hb; clear hb HG2)
    | (go_at_call 39; have C := (PSt.stamp_parted.calls k sec nan day clock w1 HG1.out HP.out); refine Calls.mono C ?_; clear C; rintro e w2 ⟨rfl, hb⟩; have HB2 := (show Hid _ from below_to HB1.out hb); have HX2 := (show Hid _ from below_blk hb HX1.out); have hc2 := blk_cell HX2.out 0; have hd2 := blk_cell HX2.out 1; simp at hc2 hd2; have HG2 : Hid (PSt.GInv w2) := PSt.GInv.below HG1.out hb; clear hb HG1)
    | (go_at_call 16; have C := (check_good sec nan (w.alloc (.cells #[.int .i64 sec, .int .i64 nan] 31)) (fun h => by have hk := HK.out; rw [checkS, if_pos h] at hk; cases hk)); refine Calls.mono C ?_; clear C; rintro e w1 ⟨rfl, hb⟩; have HB1 := (show Hid _ from below_to HB0.out hb); have HX1 := (show Hid _ from below_blk hb HX0.out); have hc1 := blk_cell HX1.out 0; have hd1 := blk_cell HX1.out 1; simp at hc1 hd1; have HG1 : Hid (PSt.GInv w1) := PSt.GInv.below HG0.out hb; clear hb HG0))
  go_ret
  exact ⟨rfl, HB8.out⟩

end Go.Proofs.YtlgdenihddkjaaaDoor

/- What stamp.Days tells. -/
namespace Go.Proofs.YtlgdenihddkjaaaDoor
set_option linter.unusedSimpArgs false
set_option linter.unusedVariables false
open Go.RowKit

def daysE (y m d : Int) : Option (Int × Nat) :=
  if y < 0 ∨ y > 9999 then some (0, 4) else if m < 1 ∨ m > 12 then some (1, 4) else if d < 1 ∨ d > Cal.len y m then some (2, 4) else none
def daysN (y m d : Int) : Int := if daysE y m d = none then Cal.days y m d else 0

set_option maxHeartbeats 4000000 in
theorem days_bad (y m d : Int) (p : Int) (w : World) (hI : ErrInv w)
    (h : (y < 0 ∧ p = 0) ∨ (¬ y < 0 ∧ y > 9999 ∧ p = 0) ∨ (¬ y < 0 ∧ ¬ y > 9999 ∧ m < 1 ∧ p = 1) ∨ (¬ y < 0 ∧ ¬ y > 9999 ∧ ¬ m < 1 ∧ m > 12 ∧ p = 1) ∨ (¬ y < 0 ∧ ¬ y > 9999 ∧ ¬ m < 1 ∧ ¬ m > 12 ∧ d < 1 ∧ p = 2) ∨ (¬ y < 0 ∧ ¬ y > 9999 ∧ ¬ m < 1 ∧ ¬ m > 12 ∧ ¬ d < 1 ∧ d > Cal.len y m ∧ p = 2)) :
    Calls Tryd.prog 9 #[.int .i64 y, .int .i64 m, .int .i64 d] w fun e w' => ∃ v, e = .returned (.tuple #[.int .i64 0, v]) ∧ FltIs w' v (some (p, 4)) ∧ Below w.heap.size w w' := by
  obtain ⟨a, he, -⟩ := hI.sent 4 (by decide)
  have he' : w.cell? ⟨0, 0, none⟩ = _ := he
  have fin : ∀ n : Nat, FltIs ((w.drewN n).alloc (.cells #[.int .i64 p, .iface 145 (.pointer (some a))] 65)) (.iface 47 (.pointer (some ⟨w.heap.size, 0, none⟩))) (some (p, 4)) := fun n => flt_new w n p 4 _ (by omega) (by omega) he
  have bel : ∀ n : Nat, Below w.heap.size w ((w.drewN n).alloc (.cells #[.int .i64 p, .iface 145 (.pointer (some a))] 65)) := fun n => (Below.drewN (Below.refl w.heap.size w) n).alloc (Nat.le_refl _) _
  have F := (show Hid _ from fin)
  have B := (show Hid _ from bel)
  clear hI he fin bel
  rcases h with ⟨h1, rfl⟩ | ⟨h1, h2, rfl⟩ | ⟨h1, h2, h3, rfl⟩ | ⟨h1, h2, h3, h4, rfl⟩ | ⟨h1, h2, h3, h4, h5, rfl⟩ | ⟨h1, h2, h3, h4, h5, h6, rfl⟩
  · go_enter Tryd.func9, Tryd.ntmps9
    go_wp2_with (go_at_call 24; refine (fault_any _ _ _ _).mono ?_; rintro e w' ⟨rfl, rfl⟩)
    go_ret2
    exact ⟨_, rfl, F.out 0, B.out 0⟩
  · go_enter Tryd.func9, Tryd.ntmps9
    go_wp2_with (go_at_call 24; refine (fault_any _ _ _ _).mono ?_; rintro e w' ⟨rfl, rfl⟩)
    go_ret2
    exact ⟨_, rfl, F.out 0, B.out 0⟩
  · go_enter Tryd.func9, Tryd.ntmps9
    go_wp2_with (go_at_call 24; refine (fault_any _ _ _ _).mono ?_; rintro e w' ⟨rfl, rfl⟩)
    go_ret2
    exact ⟨_, rfl, F.out 0, B.out 0⟩
  · go_enter Tryd.func9, Tryd.ntmps9
    go_wp2_with (go_at_call 24; refine (fault_any _ _ _ _).mono ?_; rintro e w' ⟨rfl, rfl⟩)
    go_ret2
    exact ⟨_, rfl, F.out 0, B.out 0⟩
  · go_enter Tryd.func9, Tryd.ntmps9
    go_wp2_with (go_at_call 24; refine (fault_any _ _ _ _).mono ?_; rintro e w' ⟨rfl, rfl⟩)
    go_ret2
    exact ⟨_, rfl, F.out 0, B.out 0⟩
  · have hl := (show Hid _ from length_f y m (by omega))
    go_enter Tryd.func9, Tryd.ntmps9
    go_wp2_with (first
      | (go_at_call 25; have C := PSt.stamp_length.calls 1 y m _ w hl.out; refine Calls.mono C ?_; clear C; rintro e w1 ⟨rfl, ⟨nd, rfl⟩⟩)
      | (go_at_call 24; refine (fault_any _ _ _ _).mono ?_; rintro e w' ⟨rfl, rfl⟩))
    go_ret2
    exact ⟨_, rfl, F.out nd, B.out nd⟩

set_option maxHeartbeats 4000000 in
theorem days_good (y m d : Int) (w : World) (h1 : ¬ y < 0) (h2 : ¬ y > 9999) (h3 : ¬ m < 1) (h4 : ¬ m > 12) (h5 : ¬ d < 1) (h6 : ¬ d > Cal.len y m) :
    Calls Tryd.prog 9 #[.int .i64 y, .int .i64 m, .int .i64 d] w fun e w' => e = .returned (.tuple #[.int .i64 (Cal.days y m d), .nilIface]) ∧ Below w.heap.size w w' := by
  have hl := (show Hid _ from length_f y m (by omega))
  have hd := (show Hid _ from days_f y m d (by omega) (by omega) (by omega) (by omega) (by omega) (by have := Cal.len_le y m; omega))
  go_enter Tryd.func9, Tryd.ntmps9
  go_wp2_with (first
    | (go_at_call 25; have C := PSt.stamp_length.calls 1 y m _ w hl.out; refine Calls.mono C ?_; clear C; rintro e w1 ⟨rfl, ⟨nd, rfl⟩⟩)
    | (go_at_call 26; have C := PSt.stamp_days.calls y m d _ (w.drewN nd) hd.out; refine Calls.mono C ?_; clear C; rintro e w1 ⟨rfl, ⟨nd2, rfl⟩⟩))
  go_ret2
  exact ⟨rfl, Below.drewN (Below.refl _ _) _⟩

theorem days_any (y m d : Int) (w : World) (hI : ErrInv w) :
    Calls Tryd.prog 9 #[.int .i64 y, .int .i64 m, .int .i64 d] w fun e w' => ∃ v, e = .returned (.tuple #[.int .i64 (daysN y m d), v]) ∧ FltIs w' v (daysE y m d) ∧ Below w.heap.size w w' := by
  have bad : ∀ p, daysE y m d = some (p, 4) → ((y < 0 ∧ p = 0) ∨ (¬ y < 0 ∧ y > 9999 ∧ p = 0) ∨ (¬ y < 0 ∧ ¬ y > 9999 ∧ m < 1 ∧ p = 1) ∨ (¬ y < 0 ∧ ¬ y > 9999 ∧ ¬ m < 1 ∧ m > 12 ∧ p = 1) ∨ (¬ y < 0 ∧ ¬ y > 9999 ∧ ¬ m < 1 ∧ ¬ m > 12 ∧ d < 1 ∧ p = 2) ∨ (¬ y < 0 ∧ ¬ y > 9999 ∧ ¬ m < 1 ∧ ¬ m > 12 ∧ ¬ d < 1 ∧ d > Cal.len y m ∧ p = 2)) →
      Calls Tryd.prog 9 #[.int .i64 y, .int .i64 m, .int .i64 d] w fun e w' => ∃ v, e = .returned (.tuple #[.int .i64 (daysN y m d), v]) ∧ FltIs w' v (daysE y m d) ∧ Below w.heap.size w w' := fun p hp h => by
    have hN : daysN y m d = 0 := by unfold daysN; rw [hp]; simp
    rw [hN, hp]
    exact days_bad y m d p w hI h
  by_cases h1 : y < 0 ∨ y > 9999
  · exact bad 0 (by unfold daysE; rw [if_pos h1]) (by omega)
  · by_cases h2 : m < 1 ∨ m > 12
    · exact bad 1 (by unfold daysE; rw [if_neg h1, if_pos h2]) (by omega)
    · by_cases h3 : d < 1 ∨ d > Cal.len y m
      · exact bad 2 (by unfold daysE; rw [if_neg h1, if_neg h2, if_pos h3]) (by omega)
      · have hE : daysE y m d = none := by unfold daysE; rw [if_neg h1, if_neg h2, if_neg h3]
        have hN : daysN y m d = Cal.days y m d := by unfold daysN; rw [if_pos hE]
        rw [hN, hE]
        refine Calls.mono (days_good y m d w (by omega) (by omega) (by omega) (by omega) (by omega) (by omega)) ?_
        rintro e w' ⟨rfl, hb⟩
        exact ⟨_, rfl, rfl, hb⟩
end Go.Proofs.YtlgdenihddkjaaaDoor

/- stamp.Civil, in the calendar's words. -/
namespace Go.Proofs.YtlgdenihddkjaaaDoor
set_option linter.unusedSimpArgs false
set_option linter.unusedVariables false
open Go.RowKit Go.Proofs.YtlgdenihddkjaaaDoorW.PrintWords Go.Proofs.YtlgdenihddkjaaaDoorW.PrintMore

theorem floor_146097 (a : Int) (h1 : -100000000 ≤ a) (h2 : a ≤ 100000000) : PSt.stamp_floor.f a 146097 = some (a / 146097) := by
  unfold PSt.stamp_floor.f
  rw [if_neg (by omega)]
  by_cases h : 0 ≤ a
  · rw [tm_nn h, td_nn h, if_neg (by omega), w64 (by omega) (by omega)]
  · rw [tm_neg (by omega), td_neg (by omega)]
    split
    · simp (disch := omega) only [w64]; congr 1; omega
    · simp (disch := omega) only [w64]; congr 1; omega
theorem clamp_is (n : Int) : mx (-719528) (mn n 2932896) = Cal.clamp n := by
  unfold mx mn Cal.clamp
  omega
theorem clamp_bd (n : Int) : -719528 ≤ Cal.clamp n ∧ Cal.clamp n ≤ 2932896 := by unfold Cal.clamp; omega

set_option maxRecDepth 100000 in
set_option maxHeartbeats 8000000 in
theorem civil_f (n : Int) : PSt.stamp_Civil.f n = some (Cal.civil n) := by
  unfold PSt.stamp_Civil.f Cal.civil
  obtain ⟨b1, b2⟩ := clamp_bd n
  rw [clamp_is]
  generalize Cal.clamp n = c at b1 b2 ⊢
  rw [floor_146097 _ (by omega) (by omega)]
  simp only [Option.bind_some]
  have hE1 : -1 ≤ (c + 719468) / 146097 := by omega
  have hE2 : (c + 719468) / 146097 ≤ 25 := by omega
  have hI1 : 0 ≤ c + 719468 - (c + 719468) / 146097 * 146097 := by omega
  have hI2 : c + 719468 - (c + 719468) / 146097 * 146097 ≤ 146096 := by omega
  rw [w64 (n := (c + 719468) / 146097 * 146097) (by omega) (by omega), w64 (n := c + 719468 - (c + 719468) / 146097 * 146097) (by omega) (by omega)]
  generalize hI : c + 719468 - (c + 719468) / 146097 * 146097 = I at hI1 hI2 ⊢
  generalize (c + 719468) / 146097 = E at hE1 hE2 ⊢
  clear hI b1 b2
  obtain ⟨y1, y2, d1, d2, -⟩ := Cal.yoe_is I hI1 hI2
  rw [td_nn (a := I) (b := 1460) hI1, td_nn (a := I) (b := 36524) hI1, td_nn (a := I) (b := 146096) hI1]
  rw [w64 (n := I / 1460) (by omega) (by omega), w64 (n := I / 36524) (by omega) (by omega), w64 (n := I / 146096) (by omega) (by omega)]
  rw [w64 (n := I - I / 1460) (by omega) (by omega), w64 (n := I - I / 1460 + I / 36524) (by omega) (by omega), w64 (n := I - I / 1460 + I / 36524 - I / 146096) (by omega) (by omega)]
  rw [td_nn (a := I - I / 1460 + I / 36524 - I / 146096) (b := 365) (by omega)]
  unfold Cal.doy at d1 d2 ⊢
  unfold Cal.yoe at y1 y2 d1 d2 ⊢
  rw [w64 (n := (I - I / 1460 + I / 36524 - I / 146096) / 365) (by omega) (by omega)]
  generalize (I - I / 1460 + I / 36524 - I / 146096) / 365 = Y at y1 y2 d1 d2 ⊢
  rw [td_nn (a := Y) (b := 4) y1, td_nn (a := Y) (b := 100) y1]
  rw [w64 (n := 365 * Y) (by omega) (by omega), w64 (n := Y / 4) (by omega) (by omega), w64 (n := Y / 100) (by omega) (by omega)]
  rw [w64 (n := 365 * Y + Y / 4) (by omega) (by omega), w64 (n := 365 * Y + Y / 4 - Y / 100) (by omega) (by omega), w64 (n := I - (365 * Y + Y / 4 - Y / 100)) (by omega) (by omega)]
  generalize I - (365 * Y + Y / 4 - Y / 100) = D at d1 d2 ⊢
  simp (disch := omega) only [w64, td_nn]
  split <;> rfl
end Go.Proofs.YtlgdenihddkjaaaDoor
