/- asn.Compare, as what slices.SortFunc is handed. -/
import Derived.Test.YtanbnlobbgfidaaGreatDoorUb
import Derived.Test.YtanbnlobbgfidaaGreatDoorSl
import Derived.LoopTactic
namespace Go.Proofs.YtanbnlobbgfidaaGreatDoor
set_option linter.unusedSimpArgs false
set_option linter.unusedVariables false
open Go.RowKit Go.Lib Go.Sort

def cmp3 (a b : Int) : Int := if a < b then -1 else if b < a then 1 else 0
/-- asn.Compare. -/
def spanCmp (x y : Int × Int) : Int := if x = y then 0 else if cmp3 x.1 y.1 ≠ 0 then cmp3 x.1 y.1 else cmp3 y.2 x.2

theorem isNaN_any (a : Int) (w : World) : Calls Tryz.prog 57 #[.int .u32 a] w fun e w' => e = .returned (.bool false) ∧ w' = w := by
  go_enter Tryz.func57, Tryz.ntmps57
  go_wp2
  go_ret
  exact ⟨by simp, rfl⟩
theorem cmpU_any (a b : Int) (w : World) : Calls Tryz.prog 37 #[.int .u32 a, .int .u32 b] w fun e w' => e = .returned (.int .i64 (cmp3 a b)) ∧ w' = w := by
  unfold cmp3
  by_cases h1 : a < b
  · go_enter Tryz.func37, Tryz.ntmps37
    go_wp2_with (go_at_call 57; refine (isNaN_any _ _).mono ?_; rintro e w' ⟨rfl, rfl⟩)
    go_ret
    exact ⟨rfl, rfl⟩
  · by_cases h2 : b < a
    · go_enter Tryz.func37, Tryz.ntmps37
      go_wp2_with (go_at_call 57; refine (isNaN_any _ _).mono ?_; rintro e w' ⟨rfl, rfl⟩)
      go_ret
      exact ⟨rfl, rfl⟩
    · go_enter Tryz.func37, Tryz.ntmps37
      go_wp2_with (go_at_call 57; refine (isNaN_any _ _).mono ?_; rintro e w' ⟨rfl, rfl⟩)
      go_ret
      exact ⟨rfl, rfl⟩
theorem or2_any (b : Nat) (c1 c2 : Int) (w : World) (h0 : w.cell? ⟨b, 0, none⟩ = some (.int .i64 c1)) (h1 : w.cell? ⟨b, 1, none⟩ = some (.int .i64 c2)) :
    Calls Tryz.prog 36 #[.slice (some ⟨b, 0, none⟩) 2 2] w fun e w' => e = .returned (.int .i64 (if c1 ≠ 0 then c1 else c2)) ∧ w' = w := by
  by_cases h : c1 = 0
  · subst h
    by_cases h2 : c2 = 0
    · subst h2
      go_enter Tryz.func36, Tryz.ntmps36
      go_wp2
      go_loop [8] (fun i => ∃ k : Nat, k ≤ 2 ∧ i = .int .i64 k) (fun i => 2 - (RowKit.intOf i).toNat)
      case atStart => exact ⟨0, by omega, rfl⟩
      case round =>
        obtain ⟨k, hk, rfl⟩ := hrel
        have h3 : k = 0 ∨ k = 1 ∨ k = 2 := by omega
        rcases h3 with rfl | rfl | rfl
        · go_wp2
          go_round
          case rel => exact ⟨1, by omega, by go_num⟩
          case measure => simp [RowKit.intOf]
        · go_wp2
          go_round
          case rel => exact ⟨2, by omega, by go_num⟩
          case measure => simp [RowKit.intOf]
        · go_wp2
          go_ret
          exact ⟨rfl, rfl⟩
    · go_enter Tryz.func36, Tryz.ntmps36
      go_wp2
      go_loop [8] (fun i => ∃ k : Nat, k ≤ 1 ∧ i = .int .i64 k) (fun i => 2 - (RowKit.intOf i).toNat)
      case atStart => exact ⟨0, by omega, rfl⟩
      case round =>
        obtain ⟨k, hk, rfl⟩ := hrel
        have h3 : k = 0 ∨ k = 1 := by omega
        rcases h3 with rfl | rfl
        · go_wp2
          go_round
          case rel => exact ⟨1, by omega, by go_num⟩
          case measure => simp [RowKit.intOf]
        · go_wp2
          go_ret
          exact ⟨by simp, rfl⟩
  · go_enter Tryz.func36, Tryz.ntmps36
    go_wp2
    go_loop [8] (fun i => i = .int .i64 0) (fun i => 2 - (RowKit.intOf i).toNat)
    case atStart => rfl
    case round =>
      subst hrel
      go_wp2
      go_ret
      exact ⟨by simp [h], rfl⟩
theorem compare_eq (x : Int × Int) (w : World) : Calls Tryz.prog 23 #[.agg #[.int .u32 x.1, .int .u32 x.2], .agg #[.int .u32 x.1, .int .u32 x.2]] w fun e w' => e = .returned (.int .i64 0) ∧ ∃ q os', w' = grow (w.drewN q) os' := by
  obtain ⟨a, b⟩ := x
  go_enter Tryz.func23, Tryz.ntmps23
  go_wp2
  go_ret
  exact ⟨rfl, 0, _, by rw [alloc_eq_grow, alloc_eq_grow, grow_grow]; rfl⟩
set_option maxHeartbeats 1000000 in
theorem compare_ne (a b c d : Int) (hne : ¬ (a = c ∧ b = d)) (w : World) : Calls Tryz.prog 23 #[.agg #[.int .u32 a, .int .u32 b], .agg #[.int .u32 c, .int .u32 d]] w fun e w' => e = .returned (.int .i64 (if cmp3 a c ≠ 0 then cmp3 a c else cmp3 d b)) ∧ ∃ q os', w' = grow (w.drewN q) os' := by
  generalize hr : (if cmp3 a c ≠ 0 then cmp3 a c else cmp3 d b) = r
  have HO : Hid (∀ x n, x.cell? ⟨n, 0, none⟩ = some (.int .i64 (cmp3 a c)) → x.cell? ⟨n, 1, none⟩ = some (.int .i64 (cmp3 d b)) → Calls Tryz.prog 36 #[.slice (some ⟨n, 0, none⟩) 2 2] x fun e w' => e = .returned (.int .i64 r) ∧ w' = x) := fun x n h0 h1 => by rw [← hr]; exact or2_any n _ _ x h0 h1
  have HN := Lib.hid hne
  clear hr hne
  generalize hx : cmp3 a c = c1 at HO
  generalize hy : cmp3 d b = c2 at HO
  have HX : Hid (∀ x, Calls Tryz.prog 37 #[.int .u32 a, .int .u32 c] x fun e w' => e = .returned (.int .i64 c1) ∧ w' = x) := fun x => by rw [← hx]; exact cmpU_any a c x
  have HY : Hid (∀ x, Calls Tryz.prog 37 #[.int .u32 d, .int .u32 b] x fun e w' => e = .returned (.int .i64 c2) ∧ w' = x) := fun x => by rw [← hy]; exact cmpU_any d b x
  clear hx hy
  by_cases h1 : a = c
  · have h2 : ¬ b = d := (fun h => HN.out ⟨h1, h⟩)
    subst h1
    have HZ0 : (((w.alloc (.cells #[.int .u32 a, .int .u32 b] 28)).alloc (.cells #[.int .u32 a, .int .u32 d] 28)).alloc (.cells #[.int .i64 c1, .int .i64 c2] 3)).drew.cell? ⟨w.heap.size + 1 + 1, 0, none⟩ = some (.int .i64 c1) := by
      have := blk_cell (blk_new ((w.alloc (.cells #[.int .u32 a, .int .u32 b] 28)).alloc (.cells #[.int .u32 a, .int .u32 d] 28)) (.cells #[.int .i64 c1, .int .i64 c2] 3)) 0
      simpa using this
    have HZ1 : (((w.alloc (.cells #[.int .u32 a, .int .u32 b] 28)).alloc (.cells #[.int .u32 a, .int .u32 d] 28)).alloc (.cells #[.int .i64 c1, .int .i64 c2] 3)).drew.cell? ⟨w.heap.size + 1 + 1, 1, none⟩ = some (.int .i64 c2) := by
      have := blk_cell (blk_new ((w.alloc (.cells #[.int .u32 a, .int .u32 b] 28)).alloc (.cells #[.int .u32 a, .int .u32 d] 28)) (.cells #[.int .i64 c1, .int .i64 c2] 3)) 1
      simpa using this
    go_enter Tryz.func23, Tryz.ntmps23
    go_wp2
    go_region_held3 (fun x => x.cell? ⟨w.heap.size, 0, none⟩ = some (.int .u32 a) ∧ x.cell? ⟨w.heap.size, 1, none⟩ = some (.int .u32 b) ∧ x.cell? ⟨w.heap.size + 1, 0, none⟩ = some (.int .u32 a) ∧ x.cell? ⟨w.heap.size + 1, 1, none⟩ = some (.int .u32 d)) (go_keep) (first
      | (go_at_call 37; (with_reducible refine (HX.out _).mono ?_); rintro e w' ⟨rfl, rfl⟩)
      | (go_at_call 37; (with_reducible refine (HY.out _).mono ?_); rintro e w' ⟨rfl, rfl⟩)
      | (go_at_call 36; (with_reducible refine (HO.out (((w.alloc (.cells #[.int .u32 a, .int .u32 b] 28)).alloc (.cells #[.int .u32 a, .int .u32 d] 28)).alloc (.cells #[.int .i64 c1, .int .i64 c2] 3)).drew (w.heap.size + 1 + 1) HZ0 HZ1).mono ?_); rintro e w' ⟨rfl, rfl⟩))
    all_goals
      go_wp2
      go_ret
      exact ⟨rfl, 1, _, by rw [alloc_eq_grow, alloc_eq_grow, alloc_eq_grow, grow_grow, grow_grow]; rfl⟩
  · have HZ0 : (((w.alloc (.cells #[.int .u32 a, .int .u32 b] 28)).alloc (.cells #[.int .u32 c, .int .u32 d] 28)).alloc (.cells #[.int .i64 c1, .int .i64 c2] 3)).drew.cell? ⟨w.heap.size + 1 + 1, 0, none⟩ = some (.int .i64 c1) := by
      have := blk_cell (blk_new ((w.alloc (.cells #[.int .u32 a, .int .u32 b] 28)).alloc (.cells #[.int .u32 c, .int .u32 d] 28)) (.cells #[.int .i64 c1, .int .i64 c2] 3)) 0
      simpa using this
    have HZ1 : (((w.alloc (.cells #[.int .u32 a, .int .u32 b] 28)).alloc (.cells #[.int .u32 c, .int .u32 d] 28)).alloc (.cells #[.int .i64 c1, .int .i64 c2] 3)).drew.cell? ⟨w.heap.size + 1 + 1, 1, none⟩ = some (.int .i64 c2) := by
      have := blk_cell (blk_new ((w.alloc (.cells #[.int .u32 a, .int .u32 b] 28)).alloc (.cells #[.int .u32 c, .int .u32 d] 28)) (.cells #[.int .i64 c1, .int .i64 c2] 3)) 1
      simpa using this
    go_enter Tryz.func23, Tryz.ntmps23
    go_wp2
    go_region_held3 (fun x => x.cell? ⟨w.heap.size, 0, none⟩ = some (.int .u32 a) ∧ x.cell? ⟨w.heap.size, 1, none⟩ = some (.int .u32 b) ∧ x.cell? ⟨w.heap.size + 1, 0, none⟩ = some (.int .u32 c) ∧ x.cell? ⟨w.heap.size + 1, 1, none⟩ = some (.int .u32 d)) (go_keep) (first
      | (go_at_call 37; (with_reducible refine (HX.out _).mono ?_); rintro e w' ⟨rfl, rfl⟩)
      | (go_at_call 37; (with_reducible refine (HY.out _).mono ?_); rintro e w' ⟨rfl, rfl⟩)
      | (go_at_call 36; (with_reducible refine (HO.out (((w.alloc (.cells #[.int .u32 a, .int .u32 b] 28)).alloc (.cells #[.int .u32 c, .int .u32 d] 28)).alloc (.cells #[.int .i64 c1, .int .i64 c2] 3)).drew (w.heap.size + 1 + 1) HZ0 HZ1).mono ?_); rintro e w' ⟨rfl, rfl⟩))
    all_goals
      go_wp2
      go_ret
      exact ⟨rfl, 1, _, by rw [alloc_eq_grow, alloc_eq_grow, alloc_eq_grow, grow_grow, grow_grow]; rfl⟩

def encSpan (x : Int × Int) : List Value := [.int .u32 x.1, .int .u32 x.2]
theorem compare_any (x y : Int × Int) (w : World) : Calls Tryz.prog 23 #[.agg (encSpan x).toArray, .agg (encSpan y).toArray] w fun e w' => e = .returned (.int .i64 (spanCmp x y)) ∧ ∃ q os', w' = grow (w.drewN q) os' := by
  unfold spanCmp
  by_cases h : x = y
  · subst h
    rw [if_pos rfl]
    exact compare_eq x w
  · rw [if_neg h]
    exact compare_ne x.1 x.2 y.1 y.2 (fun h2 => h (Prod.ext h2.1 h2.2)) w
theorem cmp3_lt (a b : Int) : (cmp3 a b < 0) ↔ a < b := by unfold cmp3; split <;> (try split) <;> omega
theorem spanCmp_lt (x y : Int × Int) : ltOf spanCmp x y = decide (x.1 < y.1 ∨ x.1 = y.1 ∧ y.2 < x.2) := by
  obtain ⟨a, b⟩ := x
  obtain ⟨c, d⟩ := y
  unfold ltOf
  rw [decide_eq_decide]
  unfold spanCmp cmp3
  simp only [Prod.mk.injEq]
  split
  · omega
  · split <;> (try split) <;> (try split) <;> (try split) <;> omega
theorem spanSwo : SWO (ltOf spanCmp) where
  irrefl x := by rw [spanCmp_lt]; simp
  trans x y z h1 h2 := by rw [spanCmp_lt] at *; simp at *; omega
  ntrans x y z h1 h2 := by rw [spanCmp_lt] at *; simp at *; omega
theorem spanCmp_total (x y : Int × Int) (h1 : ltOf spanCmp x y = false) (h2 : ltOf spanCmp y x = false) : x = y := by
  rw [spanCmp_lt] at *
  simp at h1 h2
  exact Prod.ext (by omega) (by omega)
theorem cmpLays (blk off size : Nat) (w : World) : CmpLays Tryz.prog 23 #[] encSpan 2 spanCmp blk off size w := fun _ _ _ _ x y => compare_any x y _
/-- The order of the sort. -/
def spanLe (x y : Int × Int) : Bool := !(ltOf spanCmp) y x
/-- slices.SortFunc(row, asn.Compare). -/
theorem sort_any (blk cap : Nat) (d : Array (Int × Int)) (w : World) (hH : HoldsK encSpan 2 w blk 0 d) (hblk : blk < w.heap.size) (hsz : d.size < 4611686018427387904) :
    Calls Tryz.prog 22 #[.slice (some ⟨blk, 0, none⟩) d.size cap, .func (.func 23) #[] #[]] w fun e w' => e = .returned (.tuple #[]) ∧ ∃ n os, w' = sortWorldK encSpan 2 w blk 0 n (d.toList.mergeSort spanLe).toArray os :=
  AnyQ.slices_SortFunc_total Tryz.sortL 2 Tryz.isAgg28 Tryz.sizeOf28 encSpan (fun _ => rfl) (fun x v hv => by simp [encSpan] at hv; rcases hv with rfl | rfl <;> rfl) spanCmp spanSwo 23 #[] blk 0 cap d w (enters_of Tryz.func23 (by kernel_rfl) rfl) (cmpLays blk 0 d.size w) hH hblk hsz spanCmp_total
end Go.Proofs.YtanbnlobbgfidaaGreatDoor
