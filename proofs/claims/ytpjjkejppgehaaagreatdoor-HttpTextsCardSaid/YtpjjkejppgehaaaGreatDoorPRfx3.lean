-- Printed by a program of this claim's author (wip/tools), out of the translation. Not trusted: Lean checks it.
import Derived.Test.YtpjjkejppgehaaaGreatDoorPRfx0
import Derived.Test.YtpjjkejppgehaaaGreatDoorPRfx2
import Derived.Test.YtpjjkejppgehaaaGreatDoorExt
namespace Go.Proofs.YtpjjkejppgehaaaGreatDoor.PRf
open Go.RowKit Go.Proofs.YtpjjkejppgehaaaGreatDoorW.PrintWords Go.Proofs.YtpjjkejppgehaaaGreatDoorW.PrintLast Go.Proofs.YtpjjkejppgehaaaGreatDoorW.PrintMore
attribute [local go_sem] max2_int min2_int max_two min_two max_three min_three max_four min_four   -- for this text's walks alone
set_option linter.unusedVariables false
set_option linter.unusedSimpArgs false

/-! ### eponymref27_Check: function 7 -/
mutual
def eponymref27_Check.j0 : Nat → Bool → Int → List (S43) → ByteArray → Option (Int × Int)
  | 0, _, _, _, _ => none
  | k + 1, x16, x111000, x111001, x111002 => if x16 = true then (some (0, 4)) else (if (x111001.length : Int) > 63 then (some (0, 18)) else (eponymref27_Check.l0 k 0 x111000 x111001 x111002))
def eponymref27_Check.l0 : Nat → Int → Int → List (S43) → ByteArray → Option (Int × Int)
  | 0, _, _, _, _ => none
  | k + 1, x4, x111000, x111001, x111002 => if x4 < (x111001.length : Int) then (if 0 ≤ x4 then (if ((rd_T43 x111001 x4).f0).toList = ([] : List UInt8) then (eponymref27_Check.j2 k x4 false x111000 x111001 x111002 ((rd_T43 x111001 x4).f0) ((rd_T43 x111001 x4).f1)) else ((eponymref27_Small.f k ((rd_T43 x111001 x4).f0)).bind fun t113 => (eponymref27_Check.j2 k x4 (t113.toList != ([99, 111, 110, 116, 101, 110, 116, 45, 108, 101, 110, 103, 116, 104] : List UInt8)) x111000 x111001 x111002 ((rd_T43 x111001 x4).f0) ((rd_T43 x111001 x4).f1)))) else (none)) else (if (x111002.size : Int) > 4194304 then (some (0, 3)) else (some (0, 0)))
def eponymref27_Check.j2 : Nat → Int → Bool → Int → List (S43) → ByteArray → ByteArray → ByteArray → Option (Int × Int)
  | 0, _, _, _, _, _, _, _ => none
  | k + 1, x4, x6, x111000, x111001, x111002, x113000, x113001 => eponymref27_Check.l1 k x4 x6 0 x111000 x111001 x111002 x113000 x113001
def eponymref27_Check.l1 : Nat → Int → Bool → Int → Int → List (S43) → ByteArray → ByteArray → ByteArray → Option (Int × Int)
  | 0, _, _, _, _, _, _, _, _ => none
  | k + 1, x4, x6, x7, x111000, x111001, x111002, x113000, x113001 => if x7 < (x113000.size : Int) then (if x6 = true then (if 0 ≤ x7 then ((eponymref27_Token.f k (bt x113000 x7)).bind fun t114 => (eponymref27_Check.l1 k x4 t114 (wrap64 (x7 + 1)) x111000 x111001 x111002 x113000 x113001)) else (none)) else (eponymref27_Check.l1 k x4 false (wrap64 (x7 + 1)) x111000 x111001 x111002 x113000 x113001)) else (eponymref27_Check.l2 k x4 x6 0 x111000 x111001 x111002 x113000 x113001)
def eponymref27_Check.l2 : Nat → Int → Bool → Int → Int → List (S43) → ByteArray → ByteArray → ByteArray → Option (Int × Int)
  | 0, _, _, _, _, _, _, _, _ => none
  | k + 1, x4, x6, x8, x111000, x111001, x111002, x113000, x113001 => if x8 < (x113001.size : Int) then (if x6 = true then (if 0 ≤ x8 then ((eponymref27_value.f (bt x113001 x8)).bind fun t115 => (if x8 = 0 then (if t115 = true then (if (bt x113001 x8) = 32 then (eponymref27_Check.l2 k x4 false (wrap64 (x8 + 1)) x111000 x111001 x111002 x113000 x113001) else (eponymref27_Check.l2 k x4 ((bt x113001 x8) != 9) (wrap64 (x8 + 1)) x111000 x111001 x111002 x113000 x113001)) else (eponymref27_Check.l2 k x4 false (wrap64 (x8 + 1)) x111000 x111001 x111002 x113000 x113001)) else (if x8 = (wrap64 ((x113001.size : Int) - 1)) then (if t115 = true then (if (bt x113001 x8) = 32 then (eponymref27_Check.l2 k x4 false (wrap64 (x8 + 1)) x111000 x111001 x111002 x113000 x113001) else (eponymref27_Check.l2 k x4 ((bt x113001 x8) != 9) (wrap64 (x8 + 1)) x111000 x111001 x111002 x113000 x113001)) else (eponymref27_Check.l2 k x4 false (wrap64 (x8 + 1)) x111000 x111001 x111002 x113000 x113001)) else (eponymref27_Check.l2 k x4 t115 (wrap64 (x8 + 1)) x111000 x111001 x111002 x113000 x113001)))) else (none)) else (if x8 = 0 then (eponymref27_Check.l2 k x4 false (wrap64 (x8 + 1)) x111000 x111001 x111002 x113000 x113001) else (if x8 = (wrap64 ((x113001.size : Int) - 1)) then (eponymref27_Check.l2 k x4 false (wrap64 (x8 + 1)) x111000 x111001 x111002 x113000 x113001) else (eponymref27_Check.l2 k x4 false (wrap64 (x8 + 1)) x111000 x111001 x111002 x113000 x113001)))) else (if x6 = true then (eponymref27_Check.l0 k (wrap64 (x4 + 1)) x111000 x111001 x111002) else (some (x4, 5)))
end
def eponymref27_Check.f (k : Nat) (a0_0 : Int) (l0_1 : List (S43)) (a0_2 : ByteArray) : Option (Int × Int) := if a0_0 < 100 then (eponymref27_Check.j0 k true a0_0 l0_1 a0_2) else (eponymref27_Check.j0 k (decide (a0_0 > 999)) a0_0 l0_1 a0_2)
theorem eponymref27_Check.mono_l : ∀ k, (∀ y0 y1 y2 y3, LeO (eponymref27_Check.j0 k y0 y1 y2 y3) (eponymref27_Check.j0 (k + 1) y0 y1 y2 y3)) ∧ (∀ y0 y1 y2 y3, LeO (eponymref27_Check.l0 k y0 y1 y2 y3) (eponymref27_Check.l0 (k + 1) y0 y1 y2 y3)) ∧ (∀ y0 y1 y2 y3 y4 y5 y6, LeO (eponymref27_Check.j2 k y0 y1 y2 y3 y4 y5 y6) (eponymref27_Check.j2 (k + 1) y0 y1 y2 y3 y4 y5 y6)) ∧ (∀ y0 y1 y2 y3 y4 y5 y6 y7, LeO (eponymref27_Check.l1 k y0 y1 y2 y3 y4 y5 y6 y7) (eponymref27_Check.l1 (k + 1) y0 y1 y2 y3 y4 y5 y6 y7)) ∧ (∀ y0 y1 y2 y3 y4 y5 y6 y7, LeO (eponymref27_Check.l2 k y0 y1 y2 y3 y4 y5 y6 y7) (eponymref27_Check.l2 (k + 1) y0 y1 y2 y3 y4 y5 y6 y7))
  | 0 => ⟨fun _ _ _ _ r h => by simp [eponymref27_Check.j0] at h, fun _ _ _ _ r h => by simp [eponymref27_Check.l0] at h, fun _ _ _ _ _ _ _ r h => by simp [eponymref27_Check.j2] at h, fun _ _ _ _ _ _ _ _ r h => by simp [eponymref27_Check.l1] at h, fun _ _ _ _ _ _ _ _ r h => by simp [eponymref27_Check.l2] at h⟩
  | k + 1 => by
    obtain ⟨ih0, ih1, ih2, ih3, ih4⟩ := eponymref27_Check.mono_l k
    refine ⟨?_, ?_, ?_, ?_, ?_⟩
    · intro y0 y1 y2 y3
      unfold eponymref27_Check.j0
      repeat' first
      | (with_reducible exact ih0 _ _ _ _)
      | (with_reducible exact ih1 _ _ _ _)
      | (with_reducible exact ih2 _ _ _ _ _ _ _)
      | (with_reducible exact ih3 _ _ _ _ _ _ _ _)
      | (with_reducible exact ih4 _ _ _ _ _ _ _ _)
      | (with_reducible exact eponymref27_Small.mono _ _)
      | (with_reducible exact eponymref27_Token.mono _ _)
      | (with_reducible exact LeO.refl _)
      | (with_reducible exact LeO.none _)
      | (with_reducible refine LeO.ite ?_ ?_)
      | (with_reducible refine LeO.bind ?_ (fun _ => ?_))
      | exact ih0 _ _ _ _
      | exact ih1 _ _ _ _
      | exact ih2 _ _ _ _ _ _ _
      | exact ih3 _ _ _ _ _ _ _ _
      | exact ih4 _ _ _ _ _ _ _ _
      | exact eponymref27_Small.mono _ _
      | exact eponymref27_Token.mono _ _
      | exact LeO.none _
      | refine LeO.ite ?_ ?_
      | refine LeO.bind ?_ (fun _ => ?_)
    · intro y0 y1 y2 y3
      unfold eponymref27_Check.l0
      repeat' first
      | (with_reducible exact ih0 _ _ _ _)
      | (with_reducible exact ih1 _ _ _ _)
      | (with_reducible exact ih2 _ _ _ _ _ _ _)
      | (with_reducible exact ih3 _ _ _ _ _ _ _ _)
      | (with_reducible exact ih4 _ _ _ _ _ _ _ _)
      | (with_reducible exact eponymref27_Small.mono _ _)
      | (with_reducible exact eponymref27_Token.mono _ _)
      | (with_reducible exact LeO.refl _)
      | (with_reducible exact LeO.none _)
      | (with_reducible refine LeO.ite ?_ ?_)
      | (with_reducible refine LeO.bind ?_ (fun _ => ?_))
      | exact ih0 _ _ _ _
      | exact ih1 _ _ _ _
      | exact ih2 _ _ _ _ _ _ _
      | exact ih3 _ _ _ _ _ _ _ _
      | exact ih4 _ _ _ _ _ _ _ _
      | exact eponymref27_Small.mono _ _
      | exact eponymref27_Token.mono _ _
      | exact LeO.none _
      | refine LeO.ite ?_ ?_
      | refine LeO.bind ?_ (fun _ => ?_)
    · intro y0 y1 y2 y3 y4 y5 y6
      unfold eponymref27_Check.j2
      repeat' first
      | (with_reducible exact ih0 _ _ _ _)
      | (with_reducible exact ih1 _ _ _ _)
      | (with_reducible exact ih2 _ _ _ _ _ _ _)
      | (with_reducible exact ih3 _ _ _ _ _ _ _ _)
      | (with_reducible exact ih4 _ _ _ _ _ _ _ _)
      | (with_reducible exact eponymref27_Small.mono _ _)
      | (with_reducible exact eponymref27_Token.mono _ _)
      | (with_reducible exact LeO.refl _)
      | (with_reducible exact LeO.none _)
      | (with_reducible refine LeO.ite ?_ ?_)
      | (with_reducible refine LeO.bind ?_ (fun _ => ?_))
      | exact ih0 _ _ _ _
      | exact ih1 _ _ _ _
      | exact ih2 _ _ _ _ _ _ _
      | exact ih3 _ _ _ _ _ _ _ _
      | exact ih4 _ _ _ _ _ _ _ _
      | exact eponymref27_Small.mono _ _
      | exact eponymref27_Token.mono _ _
      | exact LeO.none _
      | refine LeO.ite ?_ ?_
      | refine LeO.bind ?_ (fun _ => ?_)
    · intro y0 y1 y2 y3 y4 y5 y6 y7
      unfold eponymref27_Check.l1
      repeat' first
      | (with_reducible exact ih0 _ _ _ _)
      | (with_reducible exact ih1 _ _ _ _)
      | (with_reducible exact ih2 _ _ _ _ _ _ _)
      | (with_reducible exact ih3 _ _ _ _ _ _ _ _)
      | (with_reducible exact ih4 _ _ _ _ _ _ _ _)
      | (with_reducible exact eponymref27_Small.mono _ _)
      | (with_reducible exact eponymref27_Token.mono _ _)
      | (with_reducible exact LeO.refl _)
      | (with_reducible exact LeO.none _)
      | (with_reducible refine LeO.ite ?_ ?_)
      | (with_reducible refine LeO.bind ?_ (fun _ => ?_))
      | exact ih0 _ _ _ _
      | exact ih1 _ _ _ _
      | exact ih2 _ _ _ _ _ _ _
      | exact ih3 _ _ _ _ _ _ _ _
      | exact ih4 _ _ _ _ _ _ _ _
      | exact eponymref27_Small.mono _ _
      | exact eponymref27_Token.mono _ _
      | exact LeO.none _
      | refine LeO.ite ?_ ?_
      | refine LeO.bind ?_ (fun _ => ?_)
    · intro y0 y1 y2 y3 y4 y5 y6 y7
      unfold eponymref27_Check.l2
      repeat' first
      | (with_reducible exact ih0 _ _ _ _)
      | (with_reducible exact ih1 _ _ _ _)
      | (with_reducible exact ih2 _ _ _ _ _ _ _)
      | (with_reducible exact ih3 _ _ _ _ _ _ _ _)
      | (with_reducible exact ih4 _ _ _ _ _ _ _ _)
      | (with_reducible exact eponymref27_Small.mono _ _)
      | (with_reducible exact eponymref27_Token.mono _ _)
      | (with_reducible exact LeO.refl _)
      | (with_reducible exact LeO.none _)
      | (with_reducible refine LeO.ite ?_ ?_)
      | (with_reducible refine LeO.bind ?_ (fun _ => ?_))
      | exact ih0 _ _ _ _
      | exact ih1 _ _ _ _
      | exact ih2 _ _ _ _ _ _ _
      | exact ih3 _ _ _ _ _ _ _ _
      | exact ih4 _ _ _ _ _ _ _ _
      | exact eponymref27_Small.mono _ _
      | exact eponymref27_Token.mono _ _
      | exact LeO.none _
      | refine LeO.ite ?_ ?_
      | refine LeO.bind ?_ (fun _ => ?_)
theorem eponymref27_Check.mono : ∀ a0 a1 a2 k, LeO (eponymref27_Check.f k a0 a1 a2) (eponymref27_Check.f (k + 1) a0 a1 a2) := by
  intro a0 a1 a2 k
  obtain ⟨ih0, ih1, ih2, ih3, ih4⟩ := eponymref27_Check.mono_l k
  unfold eponymref27_Check.f
  repeat' first
      | (with_reducible exact ih0 _ _ _ _)
      | (with_reducible exact ih1 _ _ _ _)
      | (with_reducible exact ih2 _ _ _ _ _ _ _)
      | (with_reducible exact ih3 _ _ _ _ _ _ _ _)
      | (with_reducible exact ih4 _ _ _ _ _ _ _ _)
      | (with_reducible exact eponymref27_Small.mono _ _)
      | (with_reducible exact eponymref27_Token.mono _ _)
      | (with_reducible exact LeO.refl _)
      | (with_reducible exact LeO.none _)
      | (with_reducible refine LeO.ite ?_ ?_)
      | (with_reducible refine LeO.bind ?_ (fun _ => ?_))
      | exact ih0 _ _ _ _
      | exact ih1 _ _ _ _
      | exact ih2 _ _ _ _ _ _ _
      | exact ih3 _ _ _ _ _ _ _ _
      | exact ih4 _ _ _ _ _ _ _ _
      | exact eponymref27_Small.mono _ _
      | exact eponymref27_Token.mono _ _
      | exact LeO.none _
      | refine LeO.ite ?_ ?_
      | refine LeO.bind ?_ (fun _ => ?_)
set_option maxHeartbeats 8000000 in
set_option maxRecDepth 100000 in
theorem eponymref27_Check.calls (k : Nat) (a0_0 : Int) (A0_1 : Option Addr) (c0_1 : Nat) (l0_1 : List (S43)) (a0_2 : ByteArray) (r1 : Int) (r2 : Int) (w : World) (hr0_1 : Kd.C k43 w A0_1 l0_1.length l0_1) (hc0_1 : l0_1.length ≤ c0_1) (h : eponymref27_Check.f k a0_0 l0_1 a0_2 = some (r1, r2)) :
    Calls Tryz.prog 7 #[.agg #[.int .i64 a0_0, .slice A0_1 l0_1.length c0_1, .string a0_2]] w fun e w' => e = .returned (.tuple #[.int .i64 r1, .int .i64 r2]) ∧ Below w.heap.size w w' := by
  have hu24 := Tryz.underlying24
  have hu43 := Tryz.underlying43
  have HR0_1 := Aside0.mk hr0_1
  have HC0_1 := Aside0.mk hc0_1
  clear hr0_1 hc0_1
  have HB := Aside0.mk (Below.refl w.heap.size w)
  have H : (if a0_0 < 100 then (eponymref27_Check.j0 k true a0_0 l0_1 a0_2) else (eponymref27_Check.j0 k (decide (a0_0 > 999)) a0_0 l0_1 a0_2)) = some (r1, r2) := h
  clear h
  have HC2 := Aside0.mk H
  clear H
  go_enter Tryz.func7, Tryz.ntmps7
  go_upto_region 1 with (first | ((with_reducible refine gate_dst (N := 1) rfl ?_); (try (refine gate_guard (by rfl) ?_; dsimp only)); refine box_event ?hg (N := 1) ?hd (cs := #[.int .i64 a0_0, .slice A0_1 l0_1.length c0_1, .string a0_2]) (t := 24) ?hr ?_; (case hd => rfl); (case hg => rfl); (case hr => first | (go_simp; done) | (go_simp; rfl)); intro gb110 hg w3 hbox hb; have n0_ := Aside0.mk (below_step (by repeat (first | (with_reducible first | exact HB.out | apply below_alloc | apply pw_below_drewN | apply below_drew1) | exact HB.out)) hb); have n1_ := Aside0.mk (hbox); have n2_ := Aside0.mk ((by rw [hg]; exact (below_size (by repeat (first | (with_reducible first | exact HB.out | apply below_alloc | apply pw_below_drewN | apply below_drew1) | exact HB.out))) : w.heap.size ≤ gb110)); have n3_ := Aside0.mk ((by rw [hg]; exact (below_size (by repeat (first | (with_reducible first | exact HB.out | apply below_alloc | apply pw_below_drewN | apply below_drew1) | exact HB.out))) : w.heap.size ≤ gb110)); clear HB; have HB := n0_; have BK110 := n1_; have GW110 := n2_; have GE110 := n3_; clear n0_ n1_ n2_ n3_; clear hb hbox hg))
  (try simp only [Act.put, List.setIfInBounds_toArray, List.set_cons_zero, List.set_cons_succ])
  go_cut [16] (fun v16 wc => ∃ (kq : Nat) (x16_1 : Bool), v16 = .bool x16_1 ∧ Aside0 (eponymref27_Check.j0 kq x16_1 a0_0 l0_1 a0_2 = some (r1, r2)) ∧ Aside0 (kq ≤ k) ∧ Aside0 (wc.heap[gb110]? = some (.cells #[.int .i64 a0_0, (.slice A0_1 l0_1.length c0_1), .string a0_2] 24 (0, 0))) ∧ Aside0 (Below w.heap.size w wc))
  case first =>
    have H := HC2.out
    clear HC2
    by_cases c4 : a0_0 < 100
    · rw [if_pos c4] at H
      have c4b0 : decide (a0_0 < 100) = true := decide_eq_true c4
      clear c4
      (first | rw [c4b0] | (simp only [i64_w, i32_w]; rw [c4b0]) | skip)
      have H' := Aside0.mk H
      clear H
      have hcz5_0 : w3.cell? ⟨gb110, 0, none⟩ = some (.int .i64 a0_0) := (blk_cell BK110.out 0).trans rfl
      have hcz5_1 : w3.cell? ⟨gb110, 1, none⟩ = some (.slice A0_1 l0_1.length c0_1) := (blk_cell BK110.out 1).trans rfl
      have hcz5_2 : w3.cell? ⟨gb110, 2, none⟩ = some (.string a0_2) := (blk_cell BK110.out 2).trans rfl
      have hfz5_0 := blk_frozen BK110.out 0
      have hfz5_1 := blk_frozen BK110.out 1
      have hfz5_2 := blk_frozen BK110.out 2
      go_wp2
      go_meet
      case rel => exact ⟨_, (true), (by first | rfl | (simp; done) | (simp [*]; done)), H', ⟨by first | omega | exact Nat.le_refl _⟩, ⟨by (with_reducible repeat (first | refine blk_drewN ?_ _ | refine blk_drew ?_ | refine blk_alloc ?_ _)); exact BK110.out⟩, ⟨by repeat (first | (with_reducible first | exact HB.out | apply below_alloc | apply pw_below_drewN | apply below_drew1 | refine below_set ?_ GE110.out) | exact HB.out)⟩⟩
    · rw [if_neg c4] at H
      have c4b0 : decide (a0_0 < 100) = false := decide_eq_false c4
      clear c4
      (first | rw [c4b0] | (simp only [i64_w, i32_w]; rw [c4b0]) | skip)
      have H' := Aside0.mk H
      clear H
      have hcz6_0 : w3.cell? ⟨gb110, 0, none⟩ = some (.int .i64 a0_0) := (blk_cell BK110.out 0).trans rfl
      have hcz6_1 : w3.cell? ⟨gb110, 1, none⟩ = some (.slice A0_1 l0_1.length c0_1) := (blk_cell BK110.out 1).trans rfl
      have hcz6_2 : w3.cell? ⟨gb110, 2, none⟩ = some (.string a0_2) := (blk_cell BK110.out 2).trans rfl
      have hfz6_0 := blk_frozen BK110.out 0
      have hfz6_1 := blk_frozen BK110.out 1
      have hfz6_2 := blk_frozen BK110.out 2
      go_wp2
      go_meet
      case rel => exact ⟨_, (decide (a0_0 > 999)), (by first | rfl | (simp; done) | (simp [*]; done)), H', ⟨by first | omega | exact Nat.le_refl _⟩, ⟨by (with_reducible repeat (first | refine blk_drewN ?_ _ | refine blk_drew ?_ | refine blk_alloc ?_ _)); exact BK110.out⟩, ⟨by repeat (first | (with_reducible first | exact HB.out | apply below_alloc | apply pw_below_drewN | apply below_drew1 | refine below_set ?_ GE110.out) | exact HB.out)⟩⟩
  case rest =>
    clear HC2
    try clear p2
    try clear c4
    try clear c4b0
    try clear hcz5_0
    try clear hcz5_1
    try clear hcz5_2
    try clear hcz6_0
    try clear hcz6_1
    try clear hcz6_2
    try clear hfz5_0
    try clear hfz5_1
    try clear hfz5_2
    try clear hfz6_0
    try clear hfz6_1
    try clear hfz6_2
    obtain ⟨kq, x16_1, rfl, HA, HJ1, BK110, HB⟩ := hcut
    cases kq with
    | zero => exact absurd HA.out (by simp [eponymref27_Check.j0])
    | succ kj1 =>
      have H := HA.out
      clear HA
      simp only [eponymref27_Check.j0] at H
      by_cases c7 : x16_1 = true
      · subst c7
        have H1 : (some (0, 4)) = some (r1, r2) := by rw [if_pos rfl] at H; exact H
        clear H
        have H := H1
        clear H1
        simp only [Option.some.injEq, Prod.mk.injEq] at H
        obtain ⟨rfl, rfl⟩ := H
        go_wp2
        go_ret2
        exact ⟨by first | rfl | (simp [errW_none, errW_some] <;> rfl) | (simp [*, errW_none, errW_some] <;> rfl), by repeat (first | (with_reducible first | exact HB.out | apply below_alloc | apply pw_below_drewN | apply below_drew1 | refine below_set ?_ GE110.out) | exact HB.out)⟩
      · replace c7 := Bool.eq_false_iff.mpr c7
        subst c7
        have H1 : (if (l0_1.length : Int) > 63 then (some (0, 18)) else (eponymref27_Check.l0 kj1 0 a0_0 l0_1 a0_2)) = some (r1, r2) := by rw [if_neg (show ¬ (false = true) by decide)] at H; exact H
        clear H
        have H := H1
        clear H1
        by_cases c8 : (l0_1.length : Int) > 63
        · rw [if_pos c8] at H
          have c8b0 : decide (63 < (l0_1.length : Int)) = true := decide_eq_true c8
          have c8b1 : decide (63 < l0_1.length) = true := decide_eq_true (by omega)
          clear c8
          simp only [Option.some.injEq, Prod.mk.injEq] at H
          obtain ⟨rfl, rfl⟩ := H
          have hcz9_0 : wc.cell? ⟨gb110, 0, none⟩ = some (.int .i64 a0_0) := (blk_cell BK110.out 0).trans rfl
          have hcz9_1 : wc.cell? ⟨gb110, 1, none⟩ = some (.slice A0_1 l0_1.length c0_1) := (blk_cell BK110.out 1).trans rfl
          have hcz9_2 : wc.cell? ⟨gb110, 2, none⟩ = some (.string a0_2) := (blk_cell BK110.out 2).trans rfl
          have hfz9_0 := blk_frozen BK110.out 0
          have hfz9_1 := blk_frozen BK110.out 1
          have hfz9_2 := blk_frozen BK110.out 2
          go_wp2
          go_ret2
          exact ⟨by first | rfl | (simp [errW_none, errW_some] <;> rfl) | (simp [*, errW_none, errW_some] <;> rfl), by repeat (first | (with_reducible first | exact HB.out | apply below_alloc | apply pw_below_drewN | apply below_drew1 | refine below_set ?_ GE110.out) | exact HB.out)⟩
        · rw [if_neg c8] at H
          have c8b0 : decide (63 < (l0_1.length : Int)) = false := decide_eq_false c8
          have c8b1 : decide (63 < l0_1.length) = false := decide_eq_false (by omega)
          clear c8
          have H' := Aside0.mk H
          clear H
          have hcz10_0 : wc.cell? ⟨gb110, 0, none⟩ = some (.int .i64 a0_0) := (blk_cell BK110.out 0).trans rfl
          have hcz10_1 : wc.cell? ⟨gb110, 1, none⟩ = some (.slice A0_1 l0_1.length c0_1) := (blk_cell BK110.out 1).trans rfl
          have hcz10_2 : wc.cell? ⟨gb110, 2, none⟩ = some (.string a0_2) := (blk_cell BK110.out 2).trans rfl
          have hfz10_0 := blk_frozen BK110.out 0
          have hfz10_1 := blk_frozen BK110.out 1
          have hfz10_2 := blk_frozen BK110.out 2
          go_wp2
          go_loopg [4] kj1 (fun kq v4 w' => ∃ (x4_2 : Int), v4 = .int .i64 x4_2 ∧ Aside0 (eponymref27_Check.l0 kq x4_2 a0_0 l0_1 a0_2 = some (r1, r2)) ∧ Aside0 (kq ≤ kj1) ∧ Aside0 (w'.heap[gb110]? = some (.cells #[.int .i64 a0_0, (.slice A0_1 l0_1.length c0_1), .string a0_2] 24 (0, 0))) ∧ Aside0 (Below w.heap.size w w'))
          case atStart => exact ⟨(0), (by first | rfl | (simp; done) | (simp [*]; done)), H', ⟨Nat.le_refl _⟩, ⟨by (with_reducible repeat (first | refine blk_drewN ?_ _ | refine blk_drew ?_ | refine blk_alloc ?_ _)); exact BK110.out⟩, ⟨by repeat (first | (with_reducible first | exact HB.out | apply below_alloc | apply pw_below_drewN | apply below_drew1 | refine below_set ?_ GE110.out) | exact HB.out)⟩⟩
          case round =>
            clear H'
            try clear p2
            try clear c4
            try clear c4b0
            try clear c7
            try clear c8
            try clear c8b0
            try clear c8b1
            try clear hcz10_0
            try clear hcz10_1
            try clear hcz10_2
            try clear hcz5_0
            try clear hcz5_1
            try clear hcz5_2
            try clear hcz6_0
            try clear hcz6_1
            try clear hcz6_2
            try clear hcz9_0
            try clear hcz9_1
            try clear hcz9_2
            try clear hfz10_0
            try clear hfz10_1
            try clear hfz10_2
            try clear hfz5_0
            try clear hfz5_1
            try clear hfz5_2
            try clear hfz6_0
            try clear hfz6_1
            try clear hfz6_2
            try clear hfz9_0
            try clear hfz9_1
            try clear hfz9_2
            try clear p2
            obtain ⟨x4_2, rfl, HA, HK2, BK110, HB⟩ := hrel
            cases gk with
            | zero => exact absurd HA.out (by simp [eponymref27_Check.l0])
            | succ k2 =>
              have H := HA.out
              clear HA
              simp only [eponymref27_Check.l0] at H
              by_cases c11 : x4_2 < (l0_1.length : Int)
              · rw [if_pos c11] at H
                have c11b0 : decide (x4_2 < (l0_1.length : Int)) = true := decide_eq_true c11
                clear c11
                by_cases c12 : 0 ≤ x4_2
                · rw [if_pos c12] at H
                  have c12b0 : decide (0 ≤ x4_2) = true := decide_eq_true c12
                  clear c12
                  have HC13 := Aside0.mk H
                  clear H
                  have hcz14_0 : wr.cell? ⟨gb110, 0, none⟩ = some (.int .i64 a0_0) := (blk_cell BK110.out 0).trans rfl
                  have hcz14_1 : wr.cell? ⟨gb110, 1, none⟩ = some (.slice A0_1 l0_1.length c0_1) := (blk_cell BK110.out 1).trans rfl
                  have hcz14_2 : wr.cell? ⟨gb110, 2, none⟩ = some (.string a0_2) := (blk_cell BK110.out 2).trans rfl
                  have hfz14_0 := blk_frozen BK110.out 0
                  have hfz14_1 := blk_frozen BK110.out 1
                  have hfz14_2 := blk_frozen BK110.out 2
                  have p111 : 0 ≤ (x4_2 : Int) := of_decide_eq_true (by first | (with_reducible assumption) | assumption)
                  have q111 : x4_2 < (l0_1.length : Int) := of_decide_eq_true (by first | (with_reducible assumption) | assumption)
                  obtain ⟨ad111, e111, hx111_0, hx111_1⟩ := at_T43 HR0_1.out x4_2 p111 q111
                  cases e111
                  replace hx111_0 := (HB.out.cell (World.block_lt_of_cell? w _ hx111_0)).trans hx111_0
                  replace hx111_1 := (HB.out.cell (World.block_lt_of_cell? w _ hx111_1)).trans hx111_1
                  replace p111 := eq_true p111
                  replace q111 := eq_true q111
                  go_upto_region 9 with (first | ((with_reducible refine gate_dst (N := 5) rfl ?_); (try (refine gate_guard (by rfl) ?_; dsimp only)); refine box_event ?hg (N := 5) ?hd (cs := #[.string (⟨#[]⟩ : ByteArray), .string (⟨#[]⟩ : ByteArray)]) (t := 43) ?hr ?_; (case hd => rfl); (case hg => rfl); (case hr => first | (go_simp; done) | (go_simp; rfl)); intro gb112 hg w15 hbox hb; have n0_ := Aside0.mk (blk_below (g := gb110) (o := .cells #[.int .i64 a0_0, .slice (some ad111) l0_1.length c0_1, .string a0_2] 24 (0, 0)) (by (with_reducible repeat (first | refine blk_drewN ?_ _ | refine blk_drew ?_ | refine blk_alloc ?_ _)); exact BK110.out) hb); have n1_ := Aside0.mk (below_step (by repeat (first | (with_reducible first | exact HB.out | apply below_alloc | apply pw_below_drewN | apply below_drew1 | refine below_set ?_ GE110.out) | exact HB.out)) hb); have n2_ := Aside0.mk (hbox); have n3_ := Aside0.mk ((by rw [hg]; exact (below_size (by repeat (first | (with_reducible first | exact HB.out | apply below_alloc | apply pw_below_drewN | apply below_drew1 | refine below_set ?_ GE110.out) | exact HB.out))) : w.heap.size ≤ gb112)); have n4_ := Aside0.mk ((by rw [hg]; exact (below_size (by repeat (first | (with_reducible first | exact HB.out | apply below_alloc | apply pw_below_drewN | apply below_drew1 | refine below_set ?_ GE110.out) | exact HB.out))) : w.heap.size ≤ gb112)); have n5_ := Aside0.mk ((by rw [hg]; exact Nat.ne_of_lt (blk_lt (g := gb110) (o := .cells #[.int .i64 a0_0, .slice (some ad111) l0_1.length c0_1, .string a0_2] 24 (0, 0)) (by (with_reducible repeat (first | refine blk_drewN ?_ _ | refine blk_drew ?_ | refine blk_alloc ?_ _)); exact BK110.out)) : gb110 ≠ gb112)); have n6_ := Aside0.mk ((by rw [hg]; exact Nat.ne_of_gt (blk_lt (g := gb110) (o := .cells #[.int .i64 a0_0, .slice (some ad111) l0_1.length c0_1, .string a0_2] 24 (0, 0)) (by (with_reducible repeat (first | refine blk_drewN ?_ _ | refine blk_drew ?_ | refine blk_alloc ?_ _)); exact BK110.out)) : gb112 ≠ gb110)); clear BK110; clear HB; have BK110 := n0_; have HB := n1_; have BK112 := n2_; have GW112 := n3_; have GE112 := n4_; have NB110_112 := n5_; have NB112_110 := n6_; clear n0_ n1_ n2_ n3_ n4_ n5_ n6_; clear hb hbox hg; have hnb16 := NB112_110.out; have hnc16 := NB110_112.out; have hcz17_0 : w15.cell? ⟨gb112, 0, none⟩ = some (.string (⟨#[]⟩ : ByteArray)) := (blk_cell BK112.out 0).trans rfl; have hcz17_1 : w15.cell? ⟨gb112, 1, none⟩ = some (.string (⟨#[]⟩ : ByteArray)) := (blk_cell BK112.out 1).trans rfl; have hfz17_0 := blk_frozen BK112.out 0; have hfz17_1 := blk_frozen BK112.out 1))
                  (try simp only [Act.put, List.setIfInBounds_toArray, List.set_cons_zero, List.set_cons_succ])
                  go_cut [6] (fun v6 wc => ∃ (kq : Nat) (x6_12 : Bool), v6 = .bool x6_12 ∧ Aside0 (eponymref27_Check.j2 kq x4_2 x6_12 a0_0 l0_1 a0_2 ((rd_T43 l0_1 x4_2).f0) ((rd_T43 l0_1 x4_2).f1) = some (r1, r2)) ∧ Aside0 (kq ≤ k2) ∧ Aside0 (wc.heap[gb110]? = some (.cells #[.int .i64 a0_0, (.slice (some ad111) l0_1.length c0_1), .string a0_2] 24 (0, 0))) ∧ Aside0 (wc.heap[gb112]? = some (.cells #[.string ((rd_T43 l0_1 x4_2).f0), .string ((rd_T43 l0_1 x4_2).f1)] 43 (0, 0))) ∧ Aside0 (Below w.heap.size w wc))
                  case first =>
                    have H := HC13.out
                    clear HC13
                    by_cases c18 : ((rd_T43 l0_1 x4_2).f0).toList = ([] : List UInt8)
                    · rw [if_pos c18] at H
                      have c18b0 : (((rd_T43 l0_1 x4_2).f0).toList == ([] : List UInt8)) = true := beq_iff_eq.mpr c18
                      have c18b1 : (((rd_T43 l0_1 x4_2).f0).toList != ([] : List UInt8)) = false := bne_eq_false_iff_eq.mpr c18
                      clear c18
                      (first | rw [c18b0] | (simp only [i64_w, i32_w]; rw [c18b0]) | skip)
                      have H' := Aside0.mk H
                      clear H
                      have hnb19 := NB112_110.out
                      have hnc19 := NB110_112.out
                      have hcz20_0 : w15.cell? ⟨gb112, 0, none⟩ = some (.string (⟨#[]⟩ : ByteArray)) := (blk_cell BK112.out 0).trans rfl
                      have hcz20_1 : w15.cell? ⟨gb112, 1, none⟩ = some (.string (⟨#[]⟩ : ByteArray)) := (blk_cell BK112.out 1).trans rfl
                      have hfz20_0 := blk_frozen BK112.out 0
                      have hfz20_1 := blk_frozen BK112.out 1
                      go_wp2
                      go_meet
                      case rel => exact ⟨_, (false), (by first | rfl | (simp; done) | (simp [*]; done)), H', ⟨by have := HJ1.out; have := HK2.out; first | omega | exact Nat.le_refl _⟩, ⟨by (with_reducible repeat (first | refine blk_drewN ?_ _ | refine blk_drew ?_ | refine blk_alloc ?_ _)); refine blk_far ?_ NB110_112.out _; (with_reducible repeat (first | refine blk_drewN ?_ _ | refine blk_drew ?_ | refine blk_alloc ?_ _)); refine blk_far ?_ NB110_112.out _; (with_reducible repeat (first | refine blk_drewN ?_ _ | refine blk_drew ?_ | refine blk_alloc ?_ _)); exact BK110.out⟩, ⟨by (with_reducible repeat (first | refine blk_drewN ?_ _ | refine blk_drew ?_ | refine blk_alloc ?_ _)); refine blk_put (cs := #[.string ((rd_T43 l0_1 x4_2).f0), .string (⟨#[]⟩ : ByteArray)]) ?_ 1 _ rfl; (with_reducible repeat (first | refine blk_drewN ?_ _ | refine blk_drew ?_ | refine blk_alloc ?_ _)); refine blk_put (cs := #[.string (⟨#[]⟩ : ByteArray), .string (⟨#[]⟩ : ByteArray)]) ?_ 0 _ rfl; (with_reducible repeat (first | refine blk_drewN ?_ _ | refine blk_drew ?_ | refine blk_alloc ?_ _)); exact BK112.out⟩, ⟨by repeat (first | (with_reducible first | exact HB.out | apply below_alloc | apply pw_below_drewN | apply below_drew1 | refine below_set ?_ GE110.out | refine below_set ?_ GE112.out) | exact HB.out)⟩⟩
                    · rw [if_neg c18] at H
                      have c18b0 : (((rd_T43 l0_1 x4_2).f0).toList == ([] : List UInt8)) = false := beq_eq_false_iff_ne.mpr c18
                      have c18b1 : (((rd_T43 l0_1 x4_2).f0).toList != ([] : List UInt8)) = true := bne_iff_ne.mpr c18
                      (first | rw [c18b0] | (simp only [i64_w, i32_w]; rw [c18b0]) | skip)
                      replace H := Option.bind_eq_some_iff.mp H
                      obtain ⟨t113, A210, H⟩ := H
                      replace H : (eponymref27_Check.j2 k2 x4_2 (t113.toList != ([99, 111, 110, 116, 101, 110, 116, 45, 108, 101, 110, 103, 116, 104] : List UInt8)) a0_0 l0_1 a0_2 ((rd_T43 l0_1 x4_2).f0) ((rd_T43 l0_1 x4_2).f1)) = some (r1, r2) := H
                      have A21 := Aside0.mk A210
                      clear A210
                      have H' := Aside0.mk H
                      clear H
                      have hnb22 := NB112_110.out
                      have hnc22 := NB110_112.out
                      have hcz23_0 : w15.cell? ⟨gb112, 0, none⟩ = some (.string (⟨#[]⟩ : ByteArray)) := (blk_cell BK112.out 0).trans rfl
                      have hcz23_1 : w15.cell? ⟨gb112, 1, none⟩ = some (.string (⟨#[]⟩ : ByteArray)) := (blk_cell BK112.out 1).trans rfl
                      have hfz23_0 := blk_frozen BK112.out 0
                      have hfz23_1 := blk_frozen BK112.out 1
                      go_wp2_with (first | (go_at_call 15; (with_reducible refine (eponymref27_Small.calls k2 ((rd_T43 l0_1 x4_2).f0) t113 _ A21.out).mono ?_); rintro e w24 ⟨rfl, hb⟩; have n0_ := Aside0.mk (blk_below (g := gb110) (o := .cells #[.int .i64 a0_0, .slice (some ad111) l0_1.length c0_1, .string a0_2] 24 (0, 0)) (by (with_reducible repeat (first | refine blk_drewN ?_ _ | refine blk_drew ?_ | refine blk_alloc ?_ _)); refine blk_far ?_ NB110_112.out _; (with_reducible repeat (first | refine blk_drewN ?_ _ | refine blk_drew ?_ | refine blk_alloc ?_ _)); refine blk_far ?_ NB110_112.out _; (with_reducible repeat (first | refine blk_drewN ?_ _ | refine blk_drew ?_ | refine blk_alloc ?_ _)); exact BK110.out) hb); have n1_ := Aside0.mk (blk_below (g := gb112) (o := .cells #[.string ((rd_T43 l0_1 x4_2).f0), .string ((rd_T43 l0_1 x4_2).f1)] 43 (0, 0)) (by (with_reducible repeat (first | refine blk_drewN ?_ _ | refine blk_drew ?_ | refine blk_alloc ?_ _)); refine blk_put (cs := #[.string ((rd_T43 l0_1 x4_2).f0), .string (⟨#[]⟩ : ByteArray)]) ?_ 1 _ rfl; (with_reducible repeat (first | refine blk_drewN ?_ _ | refine blk_drew ?_ | refine blk_alloc ?_ _)); refine blk_put (cs := #[.string (⟨#[]⟩ : ByteArray), .string (⟨#[]⟩ : ByteArray)]) ?_ 0 _ rfl; (with_reducible repeat (first | refine blk_drewN ?_ _ | refine blk_drew ?_ | refine blk_alloc ?_ _)); exact BK112.out) hb); have n2_ := Aside0.mk (below_step (by repeat (first | (with_reducible first | exact HB.out | apply below_alloc | apply pw_below_drewN | apply below_drew1 | refine below_set ?_ GE110.out | refine below_set ?_ GE112.out) | exact HB.out)) hb); clear BK110; clear BK112; clear HB; have BK110 := n0_; have BK112 := n1_; have HB := n2_; clear n0_ n1_ n2_; (try clear hb); (try clear hb2); (try clear hk); (try clear hi)))
                      go_meet
                      case rel => exact ⟨_, ((t113.toList != ([99, 111, 110, 116, 101, 110, 116, 45, 108, 101, 110, 103, 116, 104] : List UInt8))), (by first | rfl | (simp; done) | (simp [*]; done)), H', ⟨by have := HJ1.out; have := HK2.out; first | omega | exact Nat.le_refl _⟩, ⟨by (with_reducible repeat (first | refine blk_drewN ?_ _ | refine blk_drew ?_ | refine blk_alloc ?_ _)); exact BK110.out⟩, ⟨by (with_reducible repeat (first | refine blk_drewN ?_ _ | refine blk_drew ?_ | refine blk_alloc ?_ _)); exact BK112.out⟩, ⟨by repeat (first | (with_reducible first | exact HB.out | apply below_alloc | apply pw_below_drewN | apply below_drew1 | refine below_set ?_ GE110.out | refine below_set ?_ GE112.out) | exact HB.out)⟩⟩
                  case rest =>
                    clear HC13
                    try clear c1
                    try clear p1
                    try clear q1
                    try clear hx1
                    try clear c2
                    try clear p2
                    try clear c4
                    try clear c4b0
                    try clear c7
                    try clear c8
                    try clear c8b0
                    try clear c8b1
                    try clear c11
                    try clear c11b0
                    try clear p11
                    try clear q11
                    try clear hx11
                    try clear c12
                    try clear c12b0
                    try clear c16
                    try clear c18
                    try clear c18b0
                    try clear c18b1
                    try clear c19
                    try clear c22
                    try clear hcz10_0
                    try clear hcz10_1
                    try clear hcz10_2
                    try clear hcz14_0
                    try clear hcz14_1
                    try clear hcz14_2
                    try clear hcz17_0
                    try clear hcz17_1
                    try clear hcz20_0
                    try clear hcz20_1
                    try clear hcz23_0
                    try clear hcz23_1
                    try clear hcz5_0
                    try clear hcz5_1
                    try clear hcz5_2
                    try clear hcz6_0
                    try clear hcz6_1
                    try clear hcz6_2
                    try clear hcz9_0
                    try clear hcz9_1
                    try clear hcz9_2
                    try clear hfz10_0
                    try clear hfz10_1
                    try clear hfz10_2
                    try clear hfz14_0
                    try clear hfz14_1
                    try clear hfz14_2
                    try clear hfz17_0
                    try clear hfz17_1
                    try clear hfz20_0
                    try clear hfz20_1
                    try clear hfz23_0
                    try clear hfz23_1
                    try clear hfz5_0
                    try clear hfz5_1
                    try clear hfz5_2
                    try clear hfz6_0
                    try clear hfz6_1
                    try clear hfz6_2
                    try clear hfz9_0
                    try clear hfz9_1
                    try clear hfz9_2
                    try clear hx111_0
                    try clear hx111_1
                    try clear p111
                    try clear p2
                    try clear q111
                    obtain ⟨kq, x6_12, rfl, HA, HJ12, BK110, BK112, HB⟩ := hcut
                    cases kq with
                    | zero => exact absurd HA.out (by simp [eponymref27_Check.j2])
                    | succ kj12 =>
                      have H := HA.out
                      clear HA
                      simp only [eponymref27_Check.j2] at H
                      have H' := Aside0.mk H
                      clear H
                      go_wp2
                      go_loopg [6, 7] kj12 (fun kq v6 v7 w' => ∃ (x6_4 : Bool) (x7_4 : Int), v6 = .bool x6_4 ∧ v7 = .int .i64 x7_4 ∧ Aside0 (eponymref27_Check.l1 kq x4_2 x6_4 x7_4 a0_0 l0_1 a0_2 ((rd_T43 l0_1 x4_2).f0) ((rd_T43 l0_1 x4_2).f1) = some (r1, r2)) ∧ Aside0 (kq ≤ kj12) ∧ Aside0 (w'.heap[gb110]? = some (.cells #[.int .i64 a0_0, (.slice (some ad111) l0_1.length c0_1), .string a0_2] 24 (0, 0))) ∧ Aside0 (w'.heap[gb112]? = some (.cells #[.string ((rd_T43 l0_1 x4_2).f0), .string ((rd_T43 l0_1 x4_2).f1)] 43 (0, 0))) ∧ Aside0 (Below w.heap.size w w'))
                      case atStart => exact ⟨(x6_12), (0), (by first | rfl | (simp; done) | (simp [*]; done)), (by first | rfl | (simp; done) | (simp [*]; done)), H', ⟨Nat.le_refl _⟩, ⟨by (with_reducible repeat (first | refine blk_drewN ?_ _ | refine blk_drew ?_ | refine blk_alloc ?_ _)); exact BK110.out⟩, ⟨by (with_reducible repeat (first | refine blk_drewN ?_ _ | refine blk_drew ?_ | refine blk_alloc ?_ _)); exact BK112.out⟩, ⟨by repeat (first | (with_reducible first | exact HB.out | apply below_alloc | apply pw_below_drewN | apply below_drew1 | refine below_set ?_ GE110.out | refine below_set ?_ GE112.out) | exact HB.out)⟩⟩
                      case round =>
                        clear H'
                        try clear c1
                        try clear p1
                        try clear q1
                        try clear hx1
                        try clear c2
                        try clear p2
                        try clear c4
                        try clear c4b0
                        try clear c7
                        try clear c8
                        try clear c8b0
                        try clear c8b1
                        try clear c11
                        try clear c11b0
                        try clear p11
                        try clear q11
                        try clear hx11
                        try clear c12
                        try clear c12b0
                        try clear c16
                        try clear c18
                        try clear c18b0
                        try clear c18b1
                        try clear c19
                        try clear c22
                        try clear hcz10_0
                        try clear hcz10_1
                        try clear hcz10_2
                        try clear hcz14_0
                        try clear hcz14_1
                        try clear hcz14_2
                        try clear hcz17_0
                        try clear hcz17_1
                        try clear hcz20_0
                        try clear hcz20_1
                        try clear hcz23_0
                        try clear hcz23_1
                        try clear hcz5_0
                        try clear hcz5_1
                        try clear hcz5_2
                        try clear hcz6_0
                        try clear hcz6_1
                        try clear hcz6_2
                        try clear hcz9_0
                        try clear hcz9_1
                        try clear hcz9_2
                        try clear hfz10_0
                        try clear hfz10_1
                        try clear hfz10_2
                        try clear hfz14_0
                        try clear hfz14_1
                        try clear hfz14_2
                        try clear hfz17_0
                        try clear hfz17_1
                        try clear hfz20_0
                        try clear hfz20_1
                        try clear hfz23_0
                        try clear hfz23_1
                        try clear hfz5_0
                        try clear hfz5_1
                        try clear hfz5_2
                        try clear hfz6_0
                        try clear hfz6_1
                        try clear hfz6_2
                        try clear hfz9_0
                        try clear hfz9_1
                        try clear hfz9_2
                        try clear hx111_0
                        try clear hx111_1
                        try clear p1
                        try clear p11
                        try clear p111
                        try clear p2
                        try clear q1
                        try clear q11
                        try clear q111
                        obtain ⟨x6_4, x7_4, rfl, rfl, HA, HK4, BK110, BK112, HB⟩ := hrel
                        cases gk with
                        | zero => exact absurd HA.out (by simp [eponymref27_Check.l1])
                        | succ k4 =>
                          have H := HA.out
                          clear HA
                          simp only [eponymref27_Check.l1] at H
                          by_cases c25 : x7_4 < (((rd_T43 l0_1 x4_2).f0).size : Int)
                          · rw [if_pos c25] at H
                            have c25b0 : decide (x7_4 < (((rd_T43 l0_1 x4_2).f0).size : Int)) = true := decide_eq_true c25
                            clear c25
                            by_cases c26 : x6_4 = true
                            · subst c26
                              have H1 : (if 0 ≤ x7_4 then ((eponymref27_Token.f k4 (bt ((rd_T43 l0_1 x4_2).f0) x7_4)).bind fun t114 => (eponymref27_Check.l1 k4 x4_2 t114 (wrap64 (x7_4 + 1)) a0_0 l0_1 a0_2 ((rd_T43 l0_1 x4_2).f0) ((rd_T43 l0_1 x4_2).f1))) else (none)) = some (r1, r2) := by rw [if_pos rfl] at H; exact H
                              clear H
                              have H := H1
                              clear H1
                              by_cases c27 : 0 ≤ x7_4
                              · rw [if_pos c27] at H
                                have c27b0 : decide (0 ≤ x7_4) = true := decide_eq_true c27
                                clear c27
                                replace H := Option.bind_eq_some_iff.mp H
                                obtain ⟨t114, A290, H⟩ := H
                                replace H : (eponymref27_Check.l1 k4 x4_2 t114 (wrap64 (x7_4 + 1)) a0_0 l0_1 a0_2 ((rd_T43 l0_1 x4_2).f0) ((rd_T43 l0_1 x4_2).f1)) = some (r1, r2) := H
                                have A29 := Aside0.mk A290
                                clear A290
                                have H' := Aside0.mk H
                                clear H
                                have hnb30 := NB112_110.out
                                have hnc30 := NB110_112.out
                                have hcz31_0 : wr.cell? ⟨gb112, 0, none⟩ = some (.string ((rd_T43 l0_1 x4_2).f0)) := (blk_cell BK112.out 0).trans rfl
                                have hcz31_1 : wr.cell? ⟨gb112, 1, none⟩ = some (.string ((rd_T43 l0_1 x4_2).f1)) := (blk_cell BK112.out 1).trans rfl
                                have hfz31_0 := blk_frozen BK112.out 0
                                have hfz31_1 := blk_frozen BK112.out 1
                                have p28 : 0 ≤ (x7_4 : Int) := of_decide_eq_true (by first | (with_reducible assumption) | assumption)
                                have q28 : x7_4 < (((rd_T43 l0_1 x4_2).f0).size : Int) := of_decide_eq_true (by first | (with_reducible assumption) | assumption)
                                have hx28 := bt_at ((rd_T43 l0_1 x4_2).f0) x7_4
                                replace p28 := eq_true p28
                                replace q28 := eq_true q28
                                go_wp2_with (first | (go_at_call 16; (with_reducible refine (eponymref27_Token.calls k4 (bt ((rd_T43 l0_1 x4_2).f0) x7_4) t114 _ A29.out).mono ?_); rintro e w' ⟨rfl, ⟨nd, rfl⟩⟩))
                                go_roundg k4
                                case measure => have := HJ1.out; have := HK2.out; have := HJ12.out; have := HK4.out; omega
                                case rel => exact ⟨(t114), (wrap64 (x7_4 + 1)), (by first | rfl | (simp; done) | (simp [*]; done)), (by first | rfl | (simp; done) | (simp [*]; done)), H', ⟨by have := HJ1.out; have := HK2.out; have := HJ12.out; have := HK4.out; omega⟩, ⟨by (with_reducible repeat (first | refine blk_drewN ?_ _ | refine blk_drew ?_ | refine blk_alloc ?_ _)); exact BK110.out⟩, ⟨by (with_reducible repeat (first | refine blk_drewN ?_ _ | refine blk_drew ?_ | refine blk_alloc ?_ _)); exact BK112.out⟩, ⟨by repeat (first | (with_reducible first | exact HB.out | apply below_alloc | apply pw_below_drewN | apply below_drew1 | refine below_set ?_ GE110.out | refine below_set ?_ GE112.out) | exact HB.out)⟩⟩
                              · rw [if_neg c27] at H
                                exact absurd H (by simp)
                            · replace c26 := Bool.eq_false_iff.mpr c26
                              subst c26
                              have H1 : (eponymref27_Check.l1 k4 x4_2 false (wrap64 (x7_4 + 1)) a0_0 l0_1 a0_2 ((rd_T43 l0_1 x4_2).f0) ((rd_T43 l0_1 x4_2).f1)) = some (r1, r2) := by rw [if_neg (show ¬ (false = true) by decide)] at H; exact H
                              clear H
                              have H := H1
                              clear H1
                              have H' := Aside0.mk H
                              clear H
                              have hnb32 := NB112_110.out
                              have hnc32 := NB110_112.out
                              have hcz33_0 : wr.cell? ⟨gb112, 0, none⟩ = some (.string ((rd_T43 l0_1 x4_2).f0)) := (blk_cell BK112.out 0).trans rfl
                              have hcz33_1 : wr.cell? ⟨gb112, 1, none⟩ = some (.string ((rd_T43 l0_1 x4_2).f1)) := (blk_cell BK112.out 1).trans rfl
                              have hfz33_0 := blk_frozen BK112.out 0
                              have hfz33_1 := blk_frozen BK112.out 1
                              go_wp2
                              go_roundg k4
                              case measure => have := HJ1.out; have := HK2.out; have := HJ12.out; have := HK4.out; omega
                              case rel => exact ⟨(false), (wrap64 (x7_4 + 1)), (by first | rfl | (simp; done) | (simp [*]; done)), (by first | rfl | (simp; done) | (simp [*]; done)), H', ⟨by have := HJ1.out; have := HK2.out; have := HJ12.out; have := HK4.out; omega⟩, ⟨by (with_reducible repeat (first | refine blk_drewN ?_ _ | refine blk_drew ?_ | refine blk_alloc ?_ _)); exact BK110.out⟩, ⟨by (with_reducible repeat (first | refine blk_drewN ?_ _ | refine blk_drew ?_ | refine blk_alloc ?_ _)); exact BK112.out⟩, ⟨by repeat (first | (with_reducible first | exact HB.out | apply below_alloc | apply pw_below_drewN | apply below_drew1 | refine below_set ?_ GE110.out | refine below_set ?_ GE112.out) | exact HB.out)⟩⟩
                          · rw [if_neg c25] at H
                            have c25b0 : decide (x7_4 < (((rd_T43 l0_1 x4_2).f0).size : Int)) = false := decide_eq_false c25
                            clear c25
                            have H' := Aside0.mk H
                            clear H
                            have hnb34 := NB112_110.out
                            have hnc34 := NB110_112.out
                            have hcz35_0 : wr.cell? ⟨gb112, 0, none⟩ = some (.string ((rd_T43 l0_1 x4_2).f0)) := (blk_cell BK112.out 0).trans rfl
                            have hcz35_1 : wr.cell? ⟨gb112, 1, none⟩ = some (.string ((rd_T43 l0_1 x4_2).f1)) := (blk_cell BK112.out 1).trans rfl
                            have hfz35_0 := blk_frozen BK112.out 0
                            have hfz35_1 := blk_frozen BK112.out 1
                            go_wp2
                            go_loopg [6, 8] k4 (fun kq v6 v8 w' => ∃ (x6_5 : Bool) (x8_5 : Int), v6 = .bool x6_5 ∧ v8 = .int .i64 x8_5 ∧ Aside0 (eponymref27_Check.l2 kq x4_2 x6_5 x8_5 a0_0 l0_1 a0_2 ((rd_T43 l0_1 x4_2).f0) ((rd_T43 l0_1 x4_2).f1) = some (r1, r2)) ∧ Aside0 (kq ≤ k4) ∧ Aside0 (w'.heap[gb110]? = some (.cells #[.int .i64 a0_0, (.slice (some ad111) l0_1.length c0_1), .string a0_2] 24 (0, 0))) ∧ Aside0 (w'.heap[gb112]? = some (.cells #[.string ((rd_T43 l0_1 x4_2).f0), .string ((rd_T43 l0_1 x4_2).f1)] 43 (0, 0))) ∧ Aside0 (Below w.heap.size w w'))
                            case atStart => exact ⟨(x6_4), (0), (by first | rfl | (simp; done) | (simp [*]; done)), (by first | rfl | (simp; done) | (simp [*]; done)), H', ⟨Nat.le_refl _⟩, ⟨by (with_reducible repeat (first | refine blk_drewN ?_ _ | refine blk_drew ?_ | refine blk_alloc ?_ _)); exact BK110.out⟩, ⟨by (with_reducible repeat (first | refine blk_drewN ?_ _ | refine blk_drew ?_ | refine blk_alloc ?_ _)); exact BK112.out⟩, ⟨by repeat (first | (with_reducible first | exact HB.out | apply below_alloc | apply pw_below_drewN | apply below_drew1 | refine below_set ?_ GE110.out | refine below_set ?_ GE112.out) | exact HB.out)⟩⟩
                            case round =>
                              clear H'
                              try clear c1
                              try clear p1
                              try clear q1
                              try clear hx1
                              try clear c2
                              try clear p2
                              try clear q2
                              try clear hx2
                              try clear c3
                              try clear c4
                              try clear c4b0
                              try clear p6
                              try clear c7
                              try clear c8
                              try clear c8b0
                              try clear c8b1
                              try clear c11
                              try clear c11b0
                              try clear p11
                              try clear q11
                              try clear hx11
                              try clear c12
                              try clear c12b0
                              try clear c16
                              try clear c18
                              try clear c18b0
                              try clear c18b1
                              try clear c19
                              try clear c22
                              try clear c25
                              try clear c25b0
                              try clear c26
                              try clear c27
                              try clear c27b0
                              try clear p28
                              try clear q28
                              try clear hx28
                              try clear c30
                              try clear c32
                              try clear c34
                              try clear hcz10_0
                              try clear hcz10_1
                              try clear hcz10_2
                              try clear hcz14_0
                              try clear hcz14_1
                              try clear hcz14_2
                              try clear hcz17_0
                              try clear hcz17_1
                              try clear hcz20_0
                              try clear hcz20_1
                              try clear hcz23_0
                              try clear hcz23_1
                              try clear hcz31_0
                              try clear hcz31_1
                              try clear hcz33_0
                              try clear hcz33_1
                              try clear hcz35_0
                              try clear hcz35_1
                              try clear hcz5_0
                              try clear hcz5_1
                              try clear hcz5_2
                              try clear hcz6_0
                              try clear hcz6_1
                              try clear hcz6_2
                              try clear hcz9_0
                              try clear hcz9_1
                              try clear hcz9_2
                              try clear hfz10_0
                              try clear hfz10_1
                              try clear hfz10_2
                              try clear hfz14_0
                              try clear hfz14_1
                              try clear hfz14_2
                              try clear hfz17_0
                              try clear hfz17_1
                              try clear hfz20_0
                              try clear hfz20_1
                              try clear hfz23_0
                              try clear hfz23_1
                              try clear hfz31_0
                              try clear hfz31_1
                              try clear hfz33_0
                              try clear hfz33_1
                              try clear hfz35_0
                              try clear hfz35_1
                              try clear hfz5_0
                              try clear hfz5_1
                              try clear hfz5_2
                              try clear hfz6_0
                              try clear hfz6_1
                              try clear hfz6_2
                              try clear hfz9_0
                              try clear hfz9_1
                              try clear hfz9_2
                              try clear hx111_0
                              try clear hx111_1
                              try clear p1
                              try clear p11
                              try clear p111
                              try clear p2
                              try clear p28
                              try clear q1
                              try clear q11
                              try clear q111
                              try clear q28
                              obtain ⟨x6_5, x8_5, rfl, rfl, HA, HK5, BK110, BK112, HB⟩ := hrel
                              cases gk with
                              | zero => exact absurd HA.out (by simp [eponymref27_Check.l2])
                              | succ k5 =>
                                have H := HA.out
                                clear HA
                                simp only [eponymref27_Check.l2] at H
                                by_cases c36 : x8_5 < (((rd_T43 l0_1 x4_2).f1).size : Int)
                                · rw [if_pos c36] at H
                                  have c36b0 : decide (x8_5 < (((rd_T43 l0_1 x4_2).f1).size : Int)) = true := decide_eq_true c36
                                  clear c36
                                  by_cases c37 : x6_5 = true
                                  · subst c37
                                    have H1 : (if 0 ≤ x8_5 then ((eponymref27_value.f (bt ((rd_T43 l0_1 x4_2).f1) x8_5)).bind fun t115 => (if x8_5 = 0 then (if t115 = true then (if (bt ((rd_T43 l0_1 x4_2).f1) x8_5) = 32 then (eponymref27_Check.l2 k5 x4_2 false (wrap64 (x8_5 + 1)) a0_0 l0_1 a0_2 ((rd_T43 l0_1 x4_2).f0) ((rd_T43 l0_1 x4_2).f1)) else (eponymref27_Check.l2 k5 x4_2 ((bt ((rd_T43 l0_1 x4_2).f1) x8_5) != 9) (wrap64 (x8_5 + 1)) a0_0 l0_1 a0_2 ((rd_T43 l0_1 x4_2).f0) ((rd_T43 l0_1 x4_2).f1))) else (eponymref27_Check.l2 k5 x4_2 false (wrap64 (x8_5 + 1)) a0_0 l0_1 a0_2 ((rd_T43 l0_1 x4_2).f0) ((rd_T43 l0_1 x4_2).f1))) else (if x8_5 = (wrap64 ((((rd_T43 l0_1 x4_2).f1).size : Int) - 1)) then (if t115 = true then (if (bt ((rd_T43 l0_1 x4_2).f1) x8_5) = 32 then (eponymref27_Check.l2 k5 x4_2 false (wrap64 (x8_5 + 1)) a0_0 l0_1 a0_2 ((rd_T43 l0_1 x4_2).f0) ((rd_T43 l0_1 x4_2).f1)) else (eponymref27_Check.l2 k5 x4_2 ((bt ((rd_T43 l0_1 x4_2).f1) x8_5) != 9) (wrap64 (x8_5 + 1)) a0_0 l0_1 a0_2 ((rd_T43 l0_1 x4_2).f0) ((rd_T43 l0_1 x4_2).f1))) else (eponymref27_Check.l2 k5 x4_2 false (wrap64 (x8_5 + 1)) a0_0 l0_1 a0_2 ((rd_T43 l0_1 x4_2).f0) ((rd_T43 l0_1 x4_2).f1))) else (eponymref27_Check.l2 k5 x4_2 t115 (wrap64 (x8_5 + 1)) a0_0 l0_1 a0_2 ((rd_T43 l0_1 x4_2).f0) ((rd_T43 l0_1 x4_2).f1))))) else (none)) = some (r1, r2) := by rw [if_pos rfl] at H; exact H
                                    clear H
                                    have H := H1
                                    clear H1
                                    by_cases c38 : 0 ≤ x8_5
                                    · rw [if_pos c38] at H
                                      have c38b0 : decide (0 ≤ x8_5) = true := decide_eq_true c38
                                      clear c38
                                      replace H := Option.bind_eq_some_iff.mp H
                                      obtain ⟨t115, A400, H⟩ := H
                                      replace H : (if x8_5 = 0 then (if t115 = true then (if (bt ((rd_T43 l0_1 x4_2).f1) x8_5) = 32 then (eponymref27_Check.l2 k5 x4_2 false (wrap64 (x8_5 + 1)) a0_0 l0_1 a0_2 ((rd_T43 l0_1 x4_2).f0) ((rd_T43 l0_1 x4_2).f1)) else (eponymref27_Check.l2 k5 x4_2 ((bt ((rd_T43 l0_1 x4_2).f1) x8_5) != 9) (wrap64 (x8_5 + 1)) a0_0 l0_1 a0_2 ((rd_T43 l0_1 x4_2).f0) ((rd_T43 l0_1 x4_2).f1))) else (eponymref27_Check.l2 k5 x4_2 false (wrap64 (x8_5 + 1)) a0_0 l0_1 a0_2 ((rd_T43 l0_1 x4_2).f0) ((rd_T43 l0_1 x4_2).f1))) else (if x8_5 = (wrap64 ((((rd_T43 l0_1 x4_2).f1).size : Int) - 1)) then (if t115 = true then (if (bt ((rd_T43 l0_1 x4_2).f1) x8_5) = 32 then (eponymref27_Check.l2 k5 x4_2 false (wrap64 (x8_5 + 1)) a0_0 l0_1 a0_2 ((rd_T43 l0_1 x4_2).f0) ((rd_T43 l0_1 x4_2).f1)) else (eponymref27_Check.l2 k5 x4_2 ((bt ((rd_T43 l0_1 x4_2).f1) x8_5) != 9) (wrap64 (x8_5 + 1)) a0_0 l0_1 a0_2 ((rd_T43 l0_1 x4_2).f0) ((rd_T43 l0_1 x4_2).f1))) else (eponymref27_Check.l2 k5 x4_2 false (wrap64 (x8_5 + 1)) a0_0 l0_1 a0_2 ((rd_T43 l0_1 x4_2).f0) ((rd_T43 l0_1 x4_2).f1))) else (eponymref27_Check.l2 k5 x4_2 t115 (wrap64 (x8_5 + 1)) a0_0 l0_1 a0_2 ((rd_T43 l0_1 x4_2).f0) ((rd_T43 l0_1 x4_2).f1)))) = some (r1, r2) := H
                                      have A40 := Aside0.mk A400
                                      clear A400
                                      by_cases c41 : x8_5 = 0
                                      · rw [if_pos c41] at H
                                        have c41b0 : (x8_5 == 0) = true := beq_iff_eq.mpr c41
                                        have c41b1 : (x8_5 != 0) = false := bne_eq_false_iff_eq.mpr c41
                                        clear c41
                                        by_cases c42 : t115 = true
                                        · subst c42
                                          have H1 : (if (bt ((rd_T43 l0_1 x4_2).f1) x8_5) = 32 then (eponymref27_Check.l2 k5 x4_2 false (wrap64 (x8_5 + 1)) a0_0 l0_1 a0_2 ((rd_T43 l0_1 x4_2).f0) ((rd_T43 l0_1 x4_2).f1)) else (eponymref27_Check.l2 k5 x4_2 ((bt ((rd_T43 l0_1 x4_2).f1) x8_5) != 9) (wrap64 (x8_5 + 1)) a0_0 l0_1 a0_2 ((rd_T43 l0_1 x4_2).f0) ((rd_T43 l0_1 x4_2).f1))) = some (r1, r2) := by rw [if_pos rfl] at H; exact H
                                          clear H
                                          have H := H1
                                          clear H1
                                          by_cases c44 : (bt ((rd_T43 l0_1 x4_2).f1) x8_5) = 32
                                          · rw [if_pos c44] at H
                                            have c44b0 : ((bt ((rd_T43 l0_1 x4_2).f1) x8_5) == 32) = true := beq_iff_eq.mpr c44
                                            have c44b1 : ((bt ((rd_T43 l0_1 x4_2).f1) x8_5) != 32) = false := bne_eq_false_iff_eq.mpr c44
                                            clear c44
                                            have H' := Aside0.mk H
                                            clear H
                                            have hnb45 := NB112_110.out
                                            have hnc45 := NB110_112.out
                                            have hcz46_0 : wr.cell? ⟨gb112, 0, none⟩ = some (.string ((rd_T43 l0_1 x4_2).f0)) := (blk_cell BK112.out 0).trans rfl
                                            have hcz46_1 : wr.cell? ⟨gb112, 1, none⟩ = some (.string ((rd_T43 l0_1 x4_2).f1)) := (blk_cell BK112.out 1).trans rfl
                                            have hfz46_0 := blk_frozen BK112.out 0
                                            have hfz46_1 := blk_frozen BK112.out 1
                                            have p39 : 0 ≤ (x8_5 : Int) := of_decide_eq_true (by first | (with_reducible assumption) | assumption)
                                            have q39 : x8_5 < (((rd_T43 l0_1 x4_2).f1).size : Int) := of_decide_eq_true (by first | (with_reducible assumption) | assumption)
                                            have hx39 := bt_at ((rd_T43 l0_1 x4_2).f1) x8_5
                                            replace p39 := eq_true p39
                                            replace q39 := eq_true q39
                                            go_wp2_with (first | (go_at_call 17; (with_reducible refine (eponymref27_value.calls (bt ((rd_T43 l0_1 x4_2).f1) x8_5) true _ A40.out).mono ?_); rintro e w' ⟨rfl, ⟨nd, rfl⟩⟩; have p43 : 0 ≤ (x8_5 : Int) := of_decide_eq_true (by first | (with_reducible assumption) | assumption); have q43 : x8_5 < (((rd_T43 l0_1 x4_2).f1).size : Int) := of_decide_eq_true (by first | (with_reducible assumption) | assumption); have hx43 := bt_at ((rd_T43 l0_1 x4_2).f1) x8_5; replace p43 := eq_true p43; replace q43 := eq_true q43))
                                            go_roundg k5
                                            case measure => have := HJ1.out; have := HK2.out; have := HJ12.out; have := HK4.out; have := HK5.out; omega
                                            case rel => exact ⟨(false), (wrap64 (x8_5 + 1)), (by first | rfl | (simp; done) | (simp [*]; done)), (by first | rfl | (simp; done) | (simp [*]; done)), H', ⟨by have := HJ1.out; have := HK2.out; have := HJ12.out; have := HK4.out; have := HK5.out; omega⟩, ⟨by (with_reducible repeat (first | refine blk_drewN ?_ _ | refine blk_drew ?_ | refine blk_alloc ?_ _)); exact BK110.out⟩, ⟨by (with_reducible repeat (first | refine blk_drewN ?_ _ | refine blk_drew ?_ | refine blk_alloc ?_ _)); exact BK112.out⟩, ⟨by repeat (first | (with_reducible first | exact HB.out | apply below_alloc | apply pw_below_drewN | apply below_drew1 | refine below_set ?_ GE110.out | refine below_set ?_ GE112.out) | exact HB.out)⟩⟩
                                          · rw [if_neg c44] at H
                                            have c44b0 : ((bt ((rd_T43 l0_1 x4_2).f1) x8_5) == 32) = false := beq_eq_false_iff_ne.mpr c44
                                            have c44b1 : ((bt ((rd_T43 l0_1 x4_2).f1) x8_5) != 32) = true := bne_iff_ne.mpr c44
                                            have H' := Aside0.mk H
                                            clear H
                                            have hnb48 := NB112_110.out
                                            have hnc48 := NB110_112.out
                                            have hcz49_0 : wr.cell? ⟨gb112, 0, none⟩ = some (.string ((rd_T43 l0_1 x4_2).f0)) := (blk_cell BK112.out 0).trans rfl
                                            have hcz49_1 : wr.cell? ⟨gb112, 1, none⟩ = some (.string ((rd_T43 l0_1 x4_2).f1)) := (blk_cell BK112.out 1).trans rfl
                                            have hfz49_0 := blk_frozen BK112.out 0
                                            have hfz49_1 := blk_frozen BK112.out 1
                                            have p39 : 0 ≤ (x8_5 : Int) := of_decide_eq_true (by first | (with_reducible assumption) | assumption)
                                            have q39 : x8_5 < (((rd_T43 l0_1 x4_2).f1).size : Int) := of_decide_eq_true (by first | (with_reducible assumption) | assumption)
                                            have hx39 := bt_at ((rd_T43 l0_1 x4_2).f1) x8_5
                                            replace p39 := eq_true p39
                                            replace q39 := eq_true q39
                                            go_wp2_with (first | (go_at_call 17; (with_reducible refine (eponymref27_value.calls (bt ((rd_T43 l0_1 x4_2).f1) x8_5) true _ A40.out).mono ?_); rintro e w' ⟨rfl, ⟨nd, rfl⟩⟩; have p43 : 0 ≤ (x8_5 : Int) := of_decide_eq_true (by first | (with_reducible assumption) | assumption); have q43 : x8_5 < (((rd_T43 l0_1 x4_2).f1).size : Int) := of_decide_eq_true (by first | (with_reducible assumption) | assumption); have hx43 := bt_at ((rd_T43 l0_1 x4_2).f1) x8_5; replace p43 := eq_true p43; replace q43 := eq_true q43; have p47 : 0 ≤ (x8_5 : Int) := of_decide_eq_true (by first | (with_reducible assumption) | assumption); have q47 : x8_5 < (((rd_T43 l0_1 x4_2).f1).size : Int) := of_decide_eq_true (by first | (with_reducible assumption) | assumption); have hx47 := bt_at ((rd_T43 l0_1 x4_2).f1) x8_5; replace p47 := eq_true p47; replace q47 := eq_true q47))
                                            go_roundg k5
                                            case measure => have := HJ1.out; have := HK2.out; have := HJ12.out; have := HK4.out; have := HK5.out; omega
                                            case rel => exact ⟨(((bt ((rd_T43 l0_1 x4_2).f1) x8_5) != 9)), (wrap64 (x8_5 + 1)), (by first | rfl | (simp; done) | (simp [*]; done)), (by first | rfl | (simp; done) | (simp [*]; done)), H', ⟨by have := HJ1.out; have := HK2.out; have := HJ12.out; have := HK4.out; have := HK5.out; omega⟩, ⟨by (with_reducible repeat (first | refine blk_drewN ?_ _ | refine blk_drew ?_ | refine blk_alloc ?_ _)); exact BK110.out⟩, ⟨by (with_reducible repeat (first | refine blk_drewN ?_ _ | refine blk_drew ?_ | refine blk_alloc ?_ _)); exact BK112.out⟩, ⟨by repeat (first | (with_reducible first | exact HB.out | apply below_alloc | apply pw_below_drewN | apply below_drew1 | refine below_set ?_ GE110.out | refine below_set ?_ GE112.out) | exact HB.out)⟩⟩
                                        · replace c42 := Bool.eq_false_iff.mpr c42
                                          subst c42
                                          have H1 : (eponymref27_Check.l2 k5 x4_2 false (wrap64 (x8_5 + 1)) a0_0 l0_1 a0_2 ((rd_T43 l0_1 x4_2).f0) ((rd_T43 l0_1 x4_2).f1)) = some (r1, r2) := by rw [if_neg (show ¬ (false = true) by decide)] at H; exact H
                                          clear H
                                          have H := H1
                                          clear H1
                                          have H' := Aside0.mk H
                                          clear H
                                          have hnb50 := NB112_110.out
                                          have hnc50 := NB110_112.out
                                          have hcz51_0 : wr.cell? ⟨gb112, 0, none⟩ = some (.string ((rd_T43 l0_1 x4_2).f0)) := (blk_cell BK112.out 0).trans rfl
                                          have hcz51_1 : wr.cell? ⟨gb112, 1, none⟩ = some (.string ((rd_T43 l0_1 x4_2).f1)) := (blk_cell BK112.out 1).trans rfl
                                          have hfz51_0 := blk_frozen BK112.out 0
                                          have hfz51_1 := blk_frozen BK112.out 1
                                          have p39 : 0 ≤ (x8_5 : Int) := of_decide_eq_true (by first | (with_reducible assumption) | assumption)
                                          have q39 : x8_5 < (((rd_T43 l0_1 x4_2).f1).size : Int) := of_decide_eq_true (by first | (with_reducible assumption) | assumption)
                                          have hx39 := bt_at ((rd_T43 l0_1 x4_2).f1) x8_5
                                          replace p39 := eq_true p39
                                          replace q39 := eq_true q39
                                          go_wp2_with (first | (go_at_call 17; (with_reducible refine (eponymref27_value.calls (bt ((rd_T43 l0_1 x4_2).f1) x8_5) false _ A40.out).mono ?_); rintro e w' ⟨rfl, ⟨nd, rfl⟩⟩))
                                          go_roundg k5
                                          case measure => have := HJ1.out; have := HK2.out; have := HJ12.out; have := HK4.out; have := HK5.out; omega
                                          case rel => exact ⟨(false), (wrap64 (x8_5 + 1)), (by first | rfl | (simp; done) | (simp [*]; done)), (by first | rfl | (simp; done) | (simp [*]; done)), H', ⟨by have := HJ1.out; have := HK2.out; have := HJ12.out; have := HK4.out; have := HK5.out; omega⟩, ⟨by (with_reducible repeat (first | refine blk_drewN ?_ _ | refine blk_drew ?_ | refine blk_alloc ?_ _)); exact BK110.out⟩, ⟨by (with_reducible repeat (first | refine blk_drewN ?_ _ | refine blk_drew ?_ | refine blk_alloc ?_ _)); exact BK112.out⟩, ⟨by repeat (first | (with_reducible first | exact HB.out | apply below_alloc | apply pw_below_drewN | apply below_drew1 | refine below_set ?_ GE110.out | refine below_set ?_ GE112.out) | exact HB.out)⟩⟩
                                      · rw [if_neg c41] at H
                                        have c41b0 : (x8_5 == 0) = false := beq_eq_false_iff_ne.mpr c41
                                        have c41b1 : (x8_5 != 0) = true := bne_iff_ne.mpr c41
                                        by_cases c52 : x8_5 = (wrap64 ((((rd_T43 l0_1 x4_2).f1).size : Int) - 1))
                                        · rw [if_pos c52] at H
                                          have c52b0 : (x8_5 == (wrap64 ((((rd_T43 l0_1 x4_2).f1).size : Int) - 1))) = true := beq_iff_eq.mpr c52
                                          have c52b1 : (x8_5 != (wrap64 ((((rd_T43 l0_1 x4_2).f1).size : Int) - 1))) = false := bne_eq_false_iff_eq.mpr c52
                                          clear c52
                                          by_cases c53 : t115 = true
                                          · subst c53
                                            have H1 : (if (bt ((rd_T43 l0_1 x4_2).f1) x8_5) = 32 then (eponymref27_Check.l2 k5 x4_2 false (wrap64 (x8_5 + 1)) a0_0 l0_1 a0_2 ((rd_T43 l0_1 x4_2).f0) ((rd_T43 l0_1 x4_2).f1)) else (eponymref27_Check.l2 k5 x4_2 ((bt ((rd_T43 l0_1 x4_2).f1) x8_5) != 9) (wrap64 (x8_5 + 1)) a0_0 l0_1 a0_2 ((rd_T43 l0_1 x4_2).f0) ((rd_T43 l0_1 x4_2).f1))) = some (r1, r2) := by rw [if_pos rfl] at H; exact H
                                            clear H
                                            have H := H1
                                            clear H1
                                            by_cases c55 : (bt ((rd_T43 l0_1 x4_2).f1) x8_5) = 32
                                            · rw [if_pos c55] at H
                                              have c55b0 : ((bt ((rd_T43 l0_1 x4_2).f1) x8_5) == 32) = true := beq_iff_eq.mpr c55
                                              have c55b1 : ((bt ((rd_T43 l0_1 x4_2).f1) x8_5) != 32) = false := bne_eq_false_iff_eq.mpr c55
                                              clear c55
                                              have H' := Aside0.mk H
                                              clear H
                                              have hnb56 := NB112_110.out
                                              have hnc56 := NB110_112.out
                                              have hcz57_0 : wr.cell? ⟨gb112, 0, none⟩ = some (.string ((rd_T43 l0_1 x4_2).f0)) := (blk_cell BK112.out 0).trans rfl
                                              have hcz57_1 : wr.cell? ⟨gb112, 1, none⟩ = some (.string ((rd_T43 l0_1 x4_2).f1)) := (blk_cell BK112.out 1).trans rfl
                                              have hfz57_0 := blk_frozen BK112.out 0
                                              have hfz57_1 := blk_frozen BK112.out 1
                                              have p39 : 0 ≤ (x8_5 : Int) := of_decide_eq_true (by first | (with_reducible assumption) | assumption)
                                              have q39 : x8_5 < (((rd_T43 l0_1 x4_2).f1).size : Int) := of_decide_eq_true (by first | (with_reducible assumption) | assumption)
                                              have hx39 := bt_at ((rd_T43 l0_1 x4_2).f1) x8_5
                                              replace p39 := eq_true p39
                                              replace q39 := eq_true q39
                                              go_wp2_with (first | (go_at_call 17; (with_reducible refine (eponymref27_value.calls (bt ((rd_T43 l0_1 x4_2).f1) x8_5) true _ A40.out).mono ?_); rintro e w' ⟨rfl, ⟨nd, rfl⟩⟩; have p54 : 0 ≤ (x8_5 : Int) := of_decide_eq_true (by first | (with_reducible assumption) | assumption); have q54 : x8_5 < (((rd_T43 l0_1 x4_2).f1).size : Int) := of_decide_eq_true (by first | (with_reducible assumption) | assumption); have hx54 := bt_at ((rd_T43 l0_1 x4_2).f1) x8_5; replace p54 := eq_true p54; replace q54 := eq_true q54))
                                              go_roundg k5
                                              case measure => have := HJ1.out; have := HK2.out; have := HJ12.out; have := HK4.out; have := HK5.out; omega
                                              case rel => exact ⟨(false), (wrap64 (x8_5 + 1)), (by first | rfl | (simp; done) | (simp [*]; done)), (by first | rfl | (simp; done) | (simp [*]; done)), H', ⟨by have := HJ1.out; have := HK2.out; have := HJ12.out; have := HK4.out; have := HK5.out; omega⟩, ⟨by (with_reducible repeat (first | refine blk_drewN ?_ _ | refine blk_drew ?_ | refine blk_alloc ?_ _)); exact BK110.out⟩, ⟨by (with_reducible repeat (first | refine blk_drewN ?_ _ | refine blk_drew ?_ | refine blk_alloc ?_ _)); exact BK112.out⟩, ⟨by repeat (first | (with_reducible first | exact HB.out | apply below_alloc | apply pw_below_drewN | apply below_drew1 | refine below_set ?_ GE110.out | refine below_set ?_ GE112.out) | exact HB.out)⟩⟩
                                            · rw [if_neg c55] at H
                                              have c55b0 : ((bt ((rd_T43 l0_1 x4_2).f1) x8_5) == 32) = false := beq_eq_false_iff_ne.mpr c55
                                              have c55b1 : ((bt ((rd_T43 l0_1 x4_2).f1) x8_5) != 32) = true := bne_iff_ne.mpr c55
                                              have H' := Aside0.mk H
                                              clear H
                                              have hnb59 := NB112_110.out
                                              have hnc59 := NB110_112.out
                                              have hcz60_0 : wr.cell? ⟨gb112, 0, none⟩ = some (.string ((rd_T43 l0_1 x4_2).f0)) := (blk_cell BK112.out 0).trans rfl
                                              have hcz60_1 : wr.cell? ⟨gb112, 1, none⟩ = some (.string ((rd_T43 l0_1 x4_2).f1)) := (blk_cell BK112.out 1).trans rfl
                                              have hfz60_0 := blk_frozen BK112.out 0
                                              have hfz60_1 := blk_frozen BK112.out 1
                                              have p39 : 0 ≤ (x8_5 : Int) := of_decide_eq_true (by first | (with_reducible assumption) | assumption)
                                              have q39 : x8_5 < (((rd_T43 l0_1 x4_2).f1).size : Int) := of_decide_eq_true (by first | (with_reducible assumption) | assumption)
                                              have hx39 := bt_at ((rd_T43 l0_1 x4_2).f1) x8_5
                                              replace p39 := eq_true p39
                                              replace q39 := eq_true q39
                                              go_wp2_with (first | (go_at_call 17; (with_reducible refine (eponymref27_value.calls (bt ((rd_T43 l0_1 x4_2).f1) x8_5) true _ A40.out).mono ?_); rintro e w' ⟨rfl, ⟨nd, rfl⟩⟩; have p54 : 0 ≤ (x8_5 : Int) := of_decide_eq_true (by first | (with_reducible assumption) | assumption); have q54 : x8_5 < (((rd_T43 l0_1 x4_2).f1).size : Int) := of_decide_eq_true (by first | (with_reducible assumption) | assumption); have hx54 := bt_at ((rd_T43 l0_1 x4_2).f1) x8_5; replace p54 := eq_true p54; replace q54 := eq_true q54; have p58 : 0 ≤ (x8_5 : Int) := of_decide_eq_true (by first | (with_reducible assumption) | assumption); have q58 : x8_5 < (((rd_T43 l0_1 x4_2).f1).size : Int) := of_decide_eq_true (by first | (with_reducible assumption) | assumption); have hx58 := bt_at ((rd_T43 l0_1 x4_2).f1) x8_5; replace p58 := eq_true p58; replace q58 := eq_true q58))
                                              go_roundg k5
                                              case measure => have := HJ1.out; have := HK2.out; have := HJ12.out; have := HK4.out; have := HK5.out; omega
                                              case rel => exact ⟨(((bt ((rd_T43 l0_1 x4_2).f1) x8_5) != 9)), (wrap64 (x8_5 + 1)), (by first | rfl | (simp; done) | (simp [*]; done)), (by first | rfl | (simp; done) | (simp [*]; done)), H', ⟨by have := HJ1.out; have := HK2.out; have := HJ12.out; have := HK4.out; have := HK5.out; omega⟩, ⟨by (with_reducible repeat (first | refine blk_drewN ?_ _ | refine blk_drew ?_ | refine blk_alloc ?_ _)); exact BK110.out⟩, ⟨by (with_reducible repeat (first | refine blk_drewN ?_ _ | refine blk_drew ?_ | refine blk_alloc ?_ _)); exact BK112.out⟩, ⟨by repeat (first | (with_reducible first | exact HB.out | apply below_alloc | apply pw_below_drewN | apply below_drew1 | refine below_set ?_ GE110.out | refine below_set ?_ GE112.out) | exact HB.out)⟩⟩
                                          · replace c53 := Bool.eq_false_iff.mpr c53
                                            subst c53
                                            have H1 : (eponymref27_Check.l2 k5 x4_2 false (wrap64 (x8_5 + 1)) a0_0 l0_1 a0_2 ((rd_T43 l0_1 x4_2).f0) ((rd_T43 l0_1 x4_2).f1)) = some (r1, r2) := by rw [if_neg (show ¬ (false = true) by decide)] at H; exact H
                                            clear H
                                            have H := H1
                                            clear H1
                                            have H' := Aside0.mk H
                                            clear H
                                            have hnb61 := NB112_110.out
                                            have hnc61 := NB110_112.out
                                            have hcz62_0 : wr.cell? ⟨gb112, 0, none⟩ = some (.string ((rd_T43 l0_1 x4_2).f0)) := (blk_cell BK112.out 0).trans rfl
                                            have hcz62_1 : wr.cell? ⟨gb112, 1, none⟩ = some (.string ((rd_T43 l0_1 x4_2).f1)) := (blk_cell BK112.out 1).trans rfl
                                            have hfz62_0 := blk_frozen BK112.out 0
                                            have hfz62_1 := blk_frozen BK112.out 1
                                            have p39 : 0 ≤ (x8_5 : Int) := of_decide_eq_true (by first | (with_reducible assumption) | assumption)
                                            have q39 : x8_5 < (((rd_T43 l0_1 x4_2).f1).size : Int) := of_decide_eq_true (by first | (with_reducible assumption) | assumption)
                                            have hx39 := bt_at ((rd_T43 l0_1 x4_2).f1) x8_5
                                            replace p39 := eq_true p39
                                            replace q39 := eq_true q39
                                            go_wp2_with (first | (go_at_call 17; (with_reducible refine (eponymref27_value.calls (bt ((rd_T43 l0_1 x4_2).f1) x8_5) false _ A40.out).mono ?_); rintro e w' ⟨rfl, ⟨nd, rfl⟩⟩))
                                            go_roundg k5
                                            case measure => have := HJ1.out; have := HK2.out; have := HJ12.out; have := HK4.out; have := HK5.out; omega
                                            case rel => exact ⟨(false), (wrap64 (x8_5 + 1)), (by first | rfl | (simp; done) | (simp [*]; done)), (by first | rfl | (simp; done) | (simp [*]; done)), H', ⟨by have := HJ1.out; have := HK2.out; have := HJ12.out; have := HK4.out; have := HK5.out; omega⟩, ⟨by (with_reducible repeat (first | refine blk_drewN ?_ _ | refine blk_drew ?_ | refine blk_alloc ?_ _)); exact BK110.out⟩, ⟨by (with_reducible repeat (first | refine blk_drewN ?_ _ | refine blk_drew ?_ | refine blk_alloc ?_ _)); exact BK112.out⟩, ⟨by repeat (first | (with_reducible first | exact HB.out | apply below_alloc | apply pw_below_drewN | apply below_drew1 | refine below_set ?_ GE110.out | refine below_set ?_ GE112.out) | exact HB.out)⟩⟩
                                        · rw [if_neg c52] at H
                                          have c52b0 : (x8_5 == (wrap64 ((((rd_T43 l0_1 x4_2).f1).size : Int) - 1))) = false := beq_eq_false_iff_ne.mpr c52
                                          have c52b1 : (x8_5 != (wrap64 ((((rd_T43 l0_1 x4_2).f1).size : Int) - 1))) = true := bne_iff_ne.mpr c52
                                          have H' := Aside0.mk H
                                          clear H
                                          have hnb63 := NB112_110.out
                                          have hnc63 := NB110_112.out
                                          have hcz64_0 : wr.cell? ⟨gb112, 0, none⟩ = some (.string ((rd_T43 l0_1 x4_2).f0)) := (blk_cell BK112.out 0).trans rfl
                                          have hcz64_1 : wr.cell? ⟨gb112, 1, none⟩ = some (.string ((rd_T43 l0_1 x4_2).f1)) := (blk_cell BK112.out 1).trans rfl
                                          have hfz64_0 := blk_frozen BK112.out 0
                                          have hfz64_1 := blk_frozen BK112.out 1
                                          have p39 : 0 ≤ (x8_5 : Int) := of_decide_eq_true (by first | (with_reducible assumption) | assumption)
                                          have q39 : x8_5 < (((rd_T43 l0_1 x4_2).f1).size : Int) := of_decide_eq_true (by first | (with_reducible assumption) | assumption)
                                          have hx39 := bt_at ((rd_T43 l0_1 x4_2).f1) x8_5
                                          replace p39 := eq_true p39
                                          replace q39 := eq_true q39
                                          go_wp2_with (first | (go_at_call 17; (with_reducible refine (eponymref27_value.calls (bt ((rd_T43 l0_1 x4_2).f1) x8_5) t115 _ A40.out).mono ?_); rintro e w' ⟨rfl, ⟨nd, rfl⟩⟩))
                                          go_roundg k5
                                          case measure => have := HJ1.out; have := HK2.out; have := HJ12.out; have := HK4.out; have := HK5.out; omega
                                          case rel => exact ⟨(t115), (wrap64 (x8_5 + 1)), (by first | rfl | (simp; done) | (simp [*]; done)), (by first | rfl | (simp; done) | (simp [*]; done)), H', ⟨by have := HJ1.out; have := HK2.out; have := HJ12.out; have := HK4.out; have := HK5.out; omega⟩, ⟨by (with_reducible repeat (first | refine blk_drewN ?_ _ | refine blk_drew ?_ | refine blk_alloc ?_ _)); exact BK110.out⟩, ⟨by (with_reducible repeat (first | refine blk_drewN ?_ _ | refine blk_drew ?_ | refine blk_alloc ?_ _)); exact BK112.out⟩, ⟨by repeat (first | (with_reducible first | exact HB.out | apply below_alloc | apply pw_below_drewN | apply below_drew1 | refine below_set ?_ GE110.out | refine below_set ?_ GE112.out) | exact HB.out)⟩⟩
                                    · rw [if_neg c38] at H
                                      exact absurd H (by simp)
                                  · replace c37 := Bool.eq_false_iff.mpr c37
                                    subst c37
                                    have H1 : (if x8_5 = 0 then (eponymref27_Check.l2 k5 x4_2 false (wrap64 (x8_5 + 1)) a0_0 l0_1 a0_2 ((rd_T43 l0_1 x4_2).f0) ((rd_T43 l0_1 x4_2).f1)) else (if x8_5 = (wrap64 ((((rd_T43 l0_1 x4_2).f1).size : Int) - 1)) then (eponymref27_Check.l2 k5 x4_2 false (wrap64 (x8_5 + 1)) a0_0 l0_1 a0_2 ((rd_T43 l0_1 x4_2).f0) ((rd_T43 l0_1 x4_2).f1)) else (eponymref27_Check.l2 k5 x4_2 false (wrap64 (x8_5 + 1)) a0_0 l0_1 a0_2 ((rd_T43 l0_1 x4_2).f0) ((rd_T43 l0_1 x4_2).f1)))) = some (r1, r2) := by rw [if_neg (show ¬ (false = true) by decide)] at H; exact H
                                    clear H
                                    have H := H1
                                    clear H1
                                    by_cases c65 : x8_5 = 0
                                    · rw [if_pos c65] at H
                                      have c65b0 : (x8_5 == 0) = true := beq_iff_eq.mpr c65
                                      have c65b1 : (x8_5 != 0) = false := bne_eq_false_iff_eq.mpr c65
                                      clear c65
                                      have H' := Aside0.mk H
                                      clear H
                                      have hnb66 := NB112_110.out
                                      have hnc66 := NB110_112.out
                                      have hcz67_0 : wr.cell? ⟨gb112, 0, none⟩ = some (.string ((rd_T43 l0_1 x4_2).f0)) := (blk_cell BK112.out 0).trans rfl
                                      have hcz67_1 : wr.cell? ⟨gb112, 1, none⟩ = some (.string ((rd_T43 l0_1 x4_2).f1)) := (blk_cell BK112.out 1).trans rfl
                                      have hfz67_0 := blk_frozen BK112.out 0
                                      have hfz67_1 := blk_frozen BK112.out 1
                                      go_wp2
                                      go_roundg k5
                                      case measure => have := HJ1.out; have := HK2.out; have := HJ12.out; have := HK4.out; have := HK5.out; omega
                                      case rel => exact ⟨(false), (wrap64 (x8_5 + 1)), (by first | rfl | (simp; done) | (simp [*]; done)), (by first | rfl | (simp; done) | (simp [*]; done)), H', ⟨by have := HJ1.out; have := HK2.out; have := HJ12.out; have := HK4.out; have := HK5.out; omega⟩, ⟨by (with_reducible repeat (first | refine blk_drewN ?_ _ | refine blk_drew ?_ | refine blk_alloc ?_ _)); exact BK110.out⟩, ⟨by (with_reducible repeat (first | refine blk_drewN ?_ _ | refine blk_drew ?_ | refine blk_alloc ?_ _)); exact BK112.out⟩, ⟨by repeat (first | (with_reducible first | exact HB.out | apply below_alloc | apply pw_below_drewN | apply below_drew1 | refine below_set ?_ GE110.out | refine below_set ?_ GE112.out) | exact HB.out)⟩⟩
                                    · rw [if_neg c65] at H
                                      have c65b0 : (x8_5 == 0) = false := beq_eq_false_iff_ne.mpr c65
                                      have c65b1 : (x8_5 != 0) = true := bne_iff_ne.mpr c65
                                      by_cases c68 : x8_5 = (wrap64 ((((rd_T43 l0_1 x4_2).f1).size : Int) - 1))
                                      · rw [if_pos c68] at H
                                        have c68b0 : (x8_5 == (wrap64 ((((rd_T43 l0_1 x4_2).f1).size : Int) - 1))) = true := beq_iff_eq.mpr c68
                                        have c68b1 : (x8_5 != (wrap64 ((((rd_T43 l0_1 x4_2).f1).size : Int) - 1))) = false := bne_eq_false_iff_eq.mpr c68
                                        clear c68
                                        have H' := Aside0.mk H
                                        clear H
                                        have hnb69 := NB112_110.out
                                        have hnc69 := NB110_112.out
                                        have hcz70_0 : wr.cell? ⟨gb112, 0, none⟩ = some (.string ((rd_T43 l0_1 x4_2).f0)) := (blk_cell BK112.out 0).trans rfl
                                        have hcz70_1 : wr.cell? ⟨gb112, 1, none⟩ = some (.string ((rd_T43 l0_1 x4_2).f1)) := (blk_cell BK112.out 1).trans rfl
                                        have hfz70_0 := blk_frozen BK112.out 0
                                        have hfz70_1 := blk_frozen BK112.out 1
                                        go_wp2
                                        go_roundg k5
                                        case measure => have := HJ1.out; have := HK2.out; have := HJ12.out; have := HK4.out; have := HK5.out; omega
                                        case rel => exact ⟨(false), (wrap64 (x8_5 + 1)), (by first | rfl | (simp; done) | (simp [*]; done)), (by first | rfl | (simp; done) | (simp [*]; done)), H', ⟨by have := HJ1.out; have := HK2.out; have := HJ12.out; have := HK4.out; have := HK5.out; omega⟩, ⟨by (with_reducible repeat (first | refine blk_drewN ?_ _ | refine blk_drew ?_ | refine blk_alloc ?_ _)); exact BK110.out⟩, ⟨by (with_reducible repeat (first | refine blk_drewN ?_ _ | refine blk_drew ?_ | refine blk_alloc ?_ _)); exact BK112.out⟩, ⟨by repeat (first | (with_reducible first | exact HB.out | apply below_alloc | apply pw_below_drewN | apply below_drew1 | refine below_set ?_ GE110.out | refine below_set ?_ GE112.out) | exact HB.out)⟩⟩
                                      · rw [if_neg c68] at H
                                        have c68b0 : (x8_5 == (wrap64 ((((rd_T43 l0_1 x4_2).f1).size : Int) - 1))) = false := beq_eq_false_iff_ne.mpr c68
                                        have c68b1 : (x8_5 != (wrap64 ((((rd_T43 l0_1 x4_2).f1).size : Int) - 1))) = true := bne_iff_ne.mpr c68
                                        have H' := Aside0.mk H
                                        clear H
                                        have hnb71 := NB112_110.out
                                        have hnc71 := NB110_112.out
                                        have hcz72_0 : wr.cell? ⟨gb112, 0, none⟩ = some (.string ((rd_T43 l0_1 x4_2).f0)) := (blk_cell BK112.out 0).trans rfl
                                        have hcz72_1 : wr.cell? ⟨gb112, 1, none⟩ = some (.string ((rd_T43 l0_1 x4_2).f1)) := (blk_cell BK112.out 1).trans rfl
                                        have hfz72_0 := blk_frozen BK112.out 0
                                        have hfz72_1 := blk_frozen BK112.out 1
                                        go_wp2
                                        go_roundg k5
                                        case measure => have := HJ1.out; have := HK2.out; have := HJ12.out; have := HK4.out; have := HK5.out; omega
                                        case rel => exact ⟨(false), (wrap64 (x8_5 + 1)), (by first | rfl | (simp; done) | (simp [*]; done)), (by first | rfl | (simp; done) | (simp [*]; done)), H', ⟨by have := HJ1.out; have := HK2.out; have := HJ12.out; have := HK4.out; have := HK5.out; omega⟩, ⟨by (with_reducible repeat (first | refine blk_drewN ?_ _ | refine blk_drew ?_ | refine blk_alloc ?_ _)); exact BK110.out⟩, ⟨by (with_reducible repeat (first | refine blk_drewN ?_ _ | refine blk_drew ?_ | refine blk_alloc ?_ _)); exact BK112.out⟩, ⟨by repeat (first | (with_reducible first | exact HB.out | apply below_alloc | apply pw_below_drewN | apply below_drew1 | refine below_set ?_ GE110.out | refine below_set ?_ GE112.out) | exact HB.out)⟩⟩
                                · rw [if_neg c36] at H
                                  have c36b0 : decide (x8_5 < (((rd_T43 l0_1 x4_2).f1).size : Int)) = false := decide_eq_false c36
                                  clear c36
                                  by_cases c73 : x6_5 = true
                                  · subst c73
                                    have H1 : (eponymref27_Check.l0 k5 (wrap64 (x4_2 + 1)) a0_0 l0_1 a0_2) = some (r1, r2) := by rw [if_pos rfl] at H; exact H
                                    clear H
                                    have H := H1
                                    clear H1
                                    have H' := Aside0.mk H
                                    clear H
                                    have hnb74 := NB112_110.out
                                    have hnc74 := NB110_112.out
                                    have hcz75_0 : wr.cell? ⟨gb112, 0, none⟩ = some (.string ((rd_T43 l0_1 x4_2).f0)) := (blk_cell BK112.out 0).trans rfl
                                    have hcz75_1 : wr.cell? ⟨gb112, 1, none⟩ = some (.string ((rd_T43 l0_1 x4_2).f1)) := (blk_cell BK112.out 1).trans rfl
                                    have hfz75_0 := blk_frozen BK112.out 0
                                    have hfz75_1 := blk_frozen BK112.out 1
                                    go_wp2
                                    go_roundg k5
                                    case measure => have := HJ1.out; have := HK2.out; have := HJ12.out; have := HK4.out; have := HK5.out; omega
                                    case rel => exact ⟨(wrap64 (x4_2 + 1)), (by first | rfl | (simp; done) | (simp [*]; done)), H', ⟨by have := HJ1.out; have := HK2.out; have := HJ12.out; have := HK4.out; have := HK5.out; omega⟩, ⟨by (with_reducible repeat (first | refine blk_drewN ?_ _ | refine blk_drew ?_ | refine blk_alloc ?_ _)); exact BK110.out⟩, ⟨by repeat (first | (with_reducible first | exact HB.out | apply below_alloc | apply pw_below_drewN | apply below_drew1 | refine below_set ?_ GE110.out | refine below_set ?_ GE112.out) | exact HB.out)⟩⟩
                                  · replace c73 := Bool.eq_false_iff.mpr c73
                                    subst c73
                                    have H1 : (some (x4_2, 5)) = some (r1, r2) := by rw [if_neg (show ¬ (false = true) by decide)] at H; exact H
                                    clear H
                                    have H := H1
                                    clear H1
                                    simp only [Option.some.injEq, Prod.mk.injEq] at H
                                    obtain ⟨rfl, rfl⟩ := H
                                    have hnb76 := NB112_110.out
                                    have hnc76 := NB110_112.out
                                    have hcz77_0 : wr.cell? ⟨gb112, 0, none⟩ = some (.string ((rd_T43 l0_1 x4_2).f0)) := (blk_cell BK112.out 0).trans rfl
                                    have hcz77_1 : wr.cell? ⟨gb112, 1, none⟩ = some (.string ((rd_T43 l0_1 x4_2).f1)) := (blk_cell BK112.out 1).trans rfl
                                    have hfz77_0 := blk_frozen BK112.out 0
                                    have hfz77_1 := blk_frozen BK112.out 1
                                    go_wp2
                                    go_ret2
                                    exact ⟨by first | rfl | (simp [errW_none, errW_some] <;> rfl) | (simp [*, errW_none, errW_some] <;> rfl), by repeat (first | (with_reducible first | exact HB.out | apply below_alloc | apply pw_below_drewN | apply below_drew1 | refine below_set ?_ GE110.out | refine below_set ?_ GE112.out) | exact HB.out)⟩
                · rw [if_neg c12] at H
                  exact absurd H (by simp)
              · rw [if_neg c11] at H
                have c11b0 : decide (x4_2 < (l0_1.length : Int)) = false := decide_eq_false c11
                clear c11
                by_cases c78 : (a0_2.size : Int) > 4194304
                · rw [if_pos c78] at H
                  have c78b0 : decide (4194304 < (a0_2.size : Int)) = true := decide_eq_true c78
                  have c78b1 : decide (4194304 < a0_2.size) = true := decide_eq_true (by omega)
                  clear c78
                  simp only [Option.some.injEq, Prod.mk.injEq] at H
                  obtain ⟨rfl, rfl⟩ := H
                  have hcz79_0 : wr.cell? ⟨gb110, 0, none⟩ = some (.int .i64 a0_0) := (blk_cell BK110.out 0).trans rfl
                  have hcz79_1 : wr.cell? ⟨gb110, 1, none⟩ = some (.slice A0_1 l0_1.length c0_1) := (blk_cell BK110.out 1).trans rfl
                  have hcz79_2 : wr.cell? ⟨gb110, 2, none⟩ = some (.string a0_2) := (blk_cell BK110.out 2).trans rfl
                  have hfz79_0 := blk_frozen BK110.out 0
                  have hfz79_1 := blk_frozen BK110.out 1
                  have hfz79_2 := blk_frozen BK110.out 2
                  go_wp2
                  go_ret2
                  exact ⟨by first | rfl | (simp [errW_none, errW_some] <;> rfl) | (simp [*, errW_none, errW_some] <;> rfl), by repeat (first | (with_reducible first | exact HB.out | apply below_alloc | apply pw_below_drewN | apply below_drew1 | refine below_set ?_ GE110.out) | exact HB.out)⟩
                · rw [if_neg c78] at H
                  have c78b0 : decide (4194304 < (a0_2.size : Int)) = false := decide_eq_false c78
                  have c78b1 : decide (4194304 < a0_2.size) = false := decide_eq_false (by omega)
                  clear c78
                  simp only [Option.some.injEq, Prod.mk.injEq] at H
                  obtain ⟨rfl, rfl⟩ := H
                  have hcz80_0 : wr.cell? ⟨gb110, 0, none⟩ = some (.int .i64 a0_0) := (blk_cell BK110.out 0).trans rfl
                  have hcz80_1 : wr.cell? ⟨gb110, 1, none⟩ = some (.slice A0_1 l0_1.length c0_1) := (blk_cell BK110.out 1).trans rfl
                  have hcz80_2 : wr.cell? ⟨gb110, 2, none⟩ = some (.string a0_2) := (blk_cell BK110.out 2).trans rfl
                  have hfz80_0 := blk_frozen BK110.out 0
                  have hfz80_1 := blk_frozen BK110.out 1
                  have hfz80_2 := blk_frozen BK110.out 2
                  go_wp2
                  go_ret2
                  exact ⟨by first | rfl | (simp [errW_none, errW_some] <;> rfl) | (simp [*, errW_none, errW_some] <;> rfl), by repeat (first | (with_reducible first | exact HB.out | apply below_alloc | apply pw_below_drewN | apply below_drew1 | refine below_set ?_ GE110.out) | exact HB.out)⟩

end Go.Proofs.YtpjjkejppgehaaaGreatDoor.PRf
