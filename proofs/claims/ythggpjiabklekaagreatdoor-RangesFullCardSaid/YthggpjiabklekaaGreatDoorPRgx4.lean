-- Printed by a program of this claim's author (wip/tools), out of the translation. Not trusted: Lean checks it.
import Derived.Test.YthggpjiabklekaaGreatDoorPRgx0
import Derived.Test.YthggpjiabklekaaGreatDoorPRgx2
import Derived.Test.YthggpjiabklekaaGreatDoorExt
namespace Go.Proofs.YthggpjiabklekaaGreatDoor.PRg
open Go.RowKit Go.Proofs.YthggpjiabklekaaGreatDoorW.PrintWords Go.Proofs.YthggpjiabklekaaGreatDoorW.PrintLast Go.Proofs.YthggpjiabklekaaGreatDoorW.PrintMore
attribute [local go_sem] max2_int min2_int max_two min_two max_three min_three max_four min_four   -- for this text's walks alone
set_option linter.unusedVariables false
set_option linter.unusedSimpArgs false

/-! ### eponymref03_Build: function 25 -/
mutual
def eponymref03_Build.l0 : Nat → List (S28) → Int → Option ((List (S28)) × Int × Int)
  | 0, _, _ => none
  | k + 1, x0, x5 => if x5 < (x0.length : Int) then (if 0 ≤ x5 then ((eponymref03_May.f ((rd_T28 x0 x5).f0) ((rd_T28 x0 x5).f1) ((rd_T28 x0 x5).f2)).bind fun t164 => (if t164 = true then (eponymref03_Build.l0 k x0 (wrap64 (x5 + 1))) else (some (([] : List (S28)), x5, 4)))) else (none)) else (eponymref03_Build.l1 k x0 0)
def eponymref03_Build.l1 : Nat → List (S28) → Int → Option ((List (S28)) × Int × Int)
  | 0, _, _ => none
  | k + 1, x0, x6 => if x6 < (x0.length : Int) then (eponymref03_Build.l2 k x0 x6 0) else (eponymref03_Build.l3 k x0 ([] : List (S28)) 0)
def eponymref03_Build.l2 : Nat → List (S28) → Int → Int → Option ((List (S28)) × Int × Int)
  | 0, _, _, _ => none
  | k + 1, x0, x6, x7 => if x7 < x6 then (if 0 ≤ x7 then (if x7 < (x0.length : Int) then (if 0 ≤ x6 then (if x6 < (x0.length : Int) then (if ((rd_T28 x0 x7).f0) ≤ ((rd_T28 x0 x6).f1) then (if ((rd_T28 x0 x6).f0) ≤ ((rd_T28 x0 x7).f1) then (some (([] : List (S28)), x6, 7)) else (eponymref03_Build.l2 k x0 x6 (wrap64 (x7 + 1)))) else (eponymref03_Build.l2 k x0 x6 (wrap64 (x7 + 1)))) else (none)) else (none)) else (none)) else (none)) else (eponymref03_Build.l1 k x0 (wrap64 (x6 + 1)))
def eponymref03_Build.l3 : Nat → List (S28) → List (S28) → Int → Option ((List (S28)) × Int × Int)
  | 0, _, _, _ => none
  | k + 1, x0, x8, x9 => if x9 < (x0.length : Int) then (eponymref03_Build.l4 k x0 x8 x9 ([] : List (S28)) false 0) else (some (x8, 0, 0))
def eponymref03_Build.l4 : Nat → List (S28) → List (S28) → Int → List (S28) → Bool → Int → Option ((List (S28)) × Int × Int)
  | 0, _, _, _, _, _, _ => none
  | k + 1, x0, x8, x9, x10, x11, x12 => if x12 < (x8.length : Int) then (if x11 = true then (if 0 ≤ x12 then (if x10.length < 8796093022208 then (eponymref03_Build.l4 k x0 x8 x9 (x10 ++ [(⟨(rd_T28 x8 x12).f0, (rd_T28 x8 x12).f1, (rd_T28 x8 x12).f2⟩ : S28)]) x11 (wrap64 (x12 + 1))) else (none)) else (none)) else (if 0 ≤ x9 then (if x9 < (x0.length : Int) then (if 0 ≤ x12 then (if ((rd_T28 x0 x9).f0) < ((rd_T28 x8 x12).f0) then (if x10.length < 8796093022208 then ((some (x10 ++ [(⟨(rd_T28 x0 x9).f0, (rd_T28 x0 x9).f1, (rd_T28 x0 x9).f2⟩ : S28)] : List (S28))).bind fun y176 => (if y176.length < 8796093022208 then (eponymref03_Build.l4 k x0 x8 x9 (y176 ++ [(⟨(rd_T28 x8 x12).f0, (rd_T28 x8 x12).f1, (rd_T28 x8 x12).f2⟩ : S28)]) true (wrap64 (x12 + 1))) else (none))) else (none)) else (if x10.length < 8796093022208 then (eponymref03_Build.l4 k x0 x8 x9 (x10 ++ [(⟨(rd_T28 x8 x12).f0, (rd_T28 x8 x12).f1, (rd_T28 x8 x12).f2⟩ : S28)]) x11 (wrap64 (x12 + 1))) else (none))) else (none)) else (none)) else (none))) else (if x11 = true then (eponymref03_Build.l3 k x0 x10 (wrap64 (x9 + 1))) else (if 0 ≤ x9 then (if x9 < (x0.length : Int) then (if x10.length < 8796093022208 then (eponymref03_Build.l3 k x0 (x10 ++ [(⟨(rd_T28 x0 x9).f0, (rd_T28 x0 x9).f1, (rd_T28 x0 x9).f2⟩ : S28)]) (wrap64 (x9 + 1))) else (none)) else (none)) else (none)))
end
def eponymref03_Build.f (k : Nat) (l0 : List (S28)) : Option ((List (S28)) × Int × Int) := if (l0.length : Int) > 2000 then (some (([] : List (S28)), 0, 18)) else (eponymref03_Build.l0 k l0 0)
theorem eponymref03_Build.mono_l : ∀ k, (∀ y0 y1, LeO (eponymref03_Build.l0 k y0 y1) (eponymref03_Build.l0 (k + 1) y0 y1)) ∧ (∀ y0 y1, LeO (eponymref03_Build.l1 k y0 y1) (eponymref03_Build.l1 (k + 1) y0 y1)) ∧ (∀ y0 y1 y2, LeO (eponymref03_Build.l2 k y0 y1 y2) (eponymref03_Build.l2 (k + 1) y0 y1 y2)) ∧ (∀ y0 y1 y2, LeO (eponymref03_Build.l3 k y0 y1 y2) (eponymref03_Build.l3 (k + 1) y0 y1 y2)) ∧ (∀ y0 y1 y2 y3 y4 y5, LeO (eponymref03_Build.l4 k y0 y1 y2 y3 y4 y5) (eponymref03_Build.l4 (k + 1) y0 y1 y2 y3 y4 y5))
  | 0 => ⟨fun _ _ r h => by simp [eponymref03_Build.l0] at h, fun _ _ r h => by simp [eponymref03_Build.l1] at h, fun _ _ _ r h => by simp [eponymref03_Build.l2] at h, fun _ _ _ r h => by simp [eponymref03_Build.l3] at h, fun _ _ _ _ _ _ r h => by simp [eponymref03_Build.l4] at h⟩
  | k + 1 => by
    obtain ⟨ih0, ih1, ih2, ih3, ih4⟩ := eponymref03_Build.mono_l k
    refine ⟨?_, ?_, ?_, ?_, ?_⟩
    · intro y0 y1
      unfold eponymref03_Build.l0
      repeat' first
      | (with_reducible exact ih0 _ _)
      | (with_reducible exact ih1 _ _)
      | (with_reducible exact ih2 _ _ _)
      | (with_reducible exact ih3 _ _ _)
      | (with_reducible exact ih4 _ _ _ _ _ _)
      | (with_reducible exact LeO.refl _)
      | (with_reducible exact LeO.none _)
      | (with_reducible refine LeO.ite ?_ ?_)
      | (with_reducible refine LeO.bind ?_ (fun _ => ?_))
      | exact ih0 _ _
      | exact ih1 _ _
      | exact ih2 _ _ _
      | exact ih3 _ _ _
      | exact ih4 _ _ _ _ _ _
      | exact LeO.none _
      | refine LeO.ite ?_ ?_
      | refine LeO.bind ?_ (fun _ => ?_)
    · intro y0 y1
      unfold eponymref03_Build.l1
      repeat' first
      | (with_reducible exact ih0 _ _)
      | (with_reducible exact ih1 _ _)
      | (with_reducible exact ih2 _ _ _)
      | (with_reducible exact ih3 _ _ _)
      | (with_reducible exact ih4 _ _ _ _ _ _)
      | (with_reducible exact LeO.refl _)
      | (with_reducible exact LeO.none _)
      | (with_reducible refine LeO.ite ?_ ?_)
      | (with_reducible refine LeO.bind ?_ (fun _ => ?_))
      | exact ih0 _ _
      | exact ih1 _ _
      | exact ih2 _ _ _
      | exact ih3 _ _ _
      | exact ih4 _ _ _ _ _ _
      | exact LeO.none _
      | refine LeO.ite ?_ ?_
      | refine LeO.bind ?_ (fun _ => ?_)
    · intro y0 y1 y2
      unfold eponymref03_Build.l2
      repeat' first
      | (with_reducible exact ih0 _ _)
      | (with_reducible exact ih1 _ _)
      | (with_reducible exact ih2 _ _ _)
      | (with_reducible exact ih3 _ _ _)
      | (with_reducible exact ih4 _ _ _ _ _ _)
      | (with_reducible exact LeO.refl _)
      | (with_reducible exact LeO.none _)
      | (with_reducible refine LeO.ite ?_ ?_)
      | (with_reducible refine LeO.bind ?_ (fun _ => ?_))
      | exact ih0 _ _
      | exact ih1 _ _
      | exact ih2 _ _ _
      | exact ih3 _ _ _
      | exact ih4 _ _ _ _ _ _
      | exact LeO.none _
      | refine LeO.ite ?_ ?_
      | refine LeO.bind ?_ (fun _ => ?_)
    · intro y0 y1 y2
      unfold eponymref03_Build.l3
      repeat' first
      | (with_reducible exact ih0 _ _)
      | (with_reducible exact ih1 _ _)
      | (with_reducible exact ih2 _ _ _)
      | (with_reducible exact ih3 _ _ _)
      | (with_reducible exact ih4 _ _ _ _ _ _)
      | (with_reducible exact LeO.refl _)
      | (with_reducible exact LeO.none _)
      | (with_reducible refine LeO.ite ?_ ?_)
      | (with_reducible refine LeO.bind ?_ (fun _ => ?_))
      | exact ih0 _ _
      | exact ih1 _ _
      | exact ih2 _ _ _
      | exact ih3 _ _ _
      | exact ih4 _ _ _ _ _ _
      | exact LeO.none _
      | refine LeO.ite ?_ ?_
      | refine LeO.bind ?_ (fun _ => ?_)
    · intro y0 y1 y2 y3 y4 y5
      unfold eponymref03_Build.l4
      repeat' first
      | (with_reducible exact ih0 _ _)
      | (with_reducible exact ih1 _ _)
      | (with_reducible exact ih2 _ _ _)
      | (with_reducible exact ih3 _ _ _)
      | (with_reducible exact ih4 _ _ _ _ _ _)
      | (with_reducible exact LeO.refl _)
      | (with_reducible exact LeO.none _)
      | (with_reducible refine LeO.ite ?_ ?_)
      | (with_reducible refine LeO.bind ?_ (fun _ => ?_))
      | exact ih0 _ _
      | exact ih1 _ _
      | exact ih2 _ _ _
      | exact ih3 _ _ _
      | exact ih4 _ _ _ _ _ _
      | exact LeO.none _
      | refine LeO.ite ?_ ?_
      | refine LeO.bind ?_ (fun _ => ?_)
theorem eponymref03_Build.mono : ∀ a0 k, LeO (eponymref03_Build.f k a0) (eponymref03_Build.f (k + 1) a0) := by
  intro a0 k
  obtain ⟨ih0, ih1, ih2, ih3, ih4⟩ := eponymref03_Build.mono_l k
  unfold eponymref03_Build.f
  repeat' first
      | (with_reducible exact ih0 _ _)
      | (with_reducible exact ih1 _ _)
      | (with_reducible exact ih2 _ _ _)
      | (with_reducible exact ih3 _ _ _)
      | (with_reducible exact ih4 _ _ _ _ _ _)
      | (with_reducible exact LeO.refl _)
      | (with_reducible exact LeO.none _)
      | (with_reducible refine LeO.ite ?_ ?_)
      | (with_reducible refine LeO.bind ?_ (fun _ => ?_))
      | exact ih0 _ _
      | exact ih1 _ _
      | exact ih2 _ _ _
      | exact ih3 _ _ _
      | exact ih4 _ _ _ _ _ _
      | exact LeO.none _
      | refine LeO.ite ?_ ?_
      | refine LeO.bind ?_ (fun _ => ?_)
set_option maxHeartbeats 8000000 in
set_option maxRecDepth 100000 in
theorem eponymref03_Build.calls (k : Nat) (A0 : Option Addr) (c0 : Nat) (l0 : List (S28)) (r1 : List (S28)) (r2 : Int) (r3 : Int) (w : World) (hr0 : Kd.C k28 w A0 l0.length l0) (hc0 : l0.length ≤ c0) (h : eponymref03_Build.f k l0 = some (r1, r2, r3)) :
    Calls Tryz.prog 25 #[.slice A0 l0.length c0] w fun e w' => ∃ v0_ : Value, e = .returned (.tuple #[v0_, .int .i64 r2, .int .i64 r3]) ∧ Kd.R k28 28 w' w.heap.size (fun _ => True) v0_ r1 ∧ Below w.heap.size w w' := by
  have hu28 := Tryz.underlying28
  have HR0 := Aside0.mk hr0
  have HC0 := Aside0.mk hc0
  clear hr0 hc0
  have HB := Aside0.mk (Below.refl w.heap.size w)
  have H : (if (l0.length : Int) > 2000 then (some (([] : List (S28)), 0, 18)) else (eponymref03_Build.l0 k l0 0)) = some (r1, r2, r3) := h
  clear h
  by_cases c2 : (l0.length : Int) > 2000
  · rw [if_pos c2] at H
    have c2b0 : decide (2000 < (l0.length : Int)) = true := decide_eq_true c2
    have c2b1 : decide (2000 < l0.length) = true := decide_eq_true (by omega)
    clear c2
    simp only [Option.some.injEq, Prod.mk.injEq] at H
    obtain ⟨rfl, rfl, rfl⟩ := H
    go_enter Tryz.func25, Tryz.ntmps25
    go_wp2
    repeat (go_quiet (fail); try go_wp2)
    go_ret3
    exact ⟨_, by first | rfl | (simp [errW_none, errW_some] <;> rfl) | (simp [*, errW_none, errW_some] <;> rfl), by first | exact Kd.R_nil _ _ _ _ _ | exact Kd.N_nil _ _ _ _ _ | exact Kd.V_nil _ _ _ _ _ | exact Kd.Q_nil _ _ _ _ _ | exact Kd.S_nil _ _ _ _ _, by repeat (first | (with_reducible first | exact HB.out | apply below_alloc | apply pw_below_drewN | apply below_drew1) | exact HB.out)⟩
  · rw [if_neg c2] at H
    have c2b0 : decide (2000 < (l0.length : Int)) = false := decide_eq_false c2
    have c2b1 : decide (2000 < l0.length) = false := decide_eq_false (by omega)
    clear c2
    have H' := Aside0.mk H
    clear H
    go_enter Tryz.func25, Tryz.ntmps25
    go_wp2
    repeat (go_quiet (fail); try go_wp2)
    go_loopg [5] k (fun kq v5 w' => ∃ (x5_1 : Int), v5 = .int .i64 x5_1 ∧ Aside0 (eponymref03_Build.l0 kq l0 x5_1 = some (r1, r2, r3)) ∧ Aside0 (kq ≤ k) ∧ Aside0 (Below w.heap.size w w'))
    case atStart => exact ⟨(0), (by first | rfl | (simp; done) | (simp [*]; done)), H', ⟨Nat.le_refl _⟩, ⟨by repeat (first | (with_reducible first | exact HB.out | apply below_alloc | apply pw_below_drewN | apply below_drew1) | exact HB.out)⟩⟩
    case round =>
      clear H'
      try clear c2
      try clear c2b0
      try clear c2b1
      try clear p2
      obtain ⟨x5_1, rfl, HA, HK1, HB⟩ := hrel
      cases gk with
      | zero => exact absurd HA.out (by simp [eponymref03_Build.l0])
      | succ k1 =>
        have H := HA.out
        clear HA
        simp only [eponymref03_Build.l0] at H
        by_cases c3 : x5_1 < (l0.length : Int)
        · rw [if_pos c3] at H
          have c3b0 : decide (x5_1 < (l0.length : Int)) = true := decide_eq_true c3
          clear c3
          by_cases c4 : 0 ≤ x5_1
          · rw [if_pos c4] at H
            have c4b0 : decide (0 ≤ x5_1) = true := decide_eq_true c4
            clear c4
            replace H := Option.bind_eq_some_iff.mp H
            obtain ⟨t164, A50, H⟩ := H
            replace H : (if t164 = true then (eponymref03_Build.l0 k1 l0 (wrap64 (x5_1 + 1))) else (some (([] : List (S28)), x5_1, 4))) = some (r1, r2, r3) := H
            have A5 := Aside0.mk A50
            clear A50
            by_cases c6 : t164 = true
            · subst c6
              have H1 : (eponymref03_Build.l0 k1 l0 (wrap64 (x5_1 + 1))) = some (r1, r2, r3) := by rw [if_pos rfl] at H; exact H
              clear H
              have H := H1
              clear H1
              have H' := Aside0.mk H
              clear H
              have p163 : 0 ≤ (x5_1 : Int) := of_decide_eq_true (by first | (with_reducible assumption) | assumption)
              have q163 : x5_1 < (l0.length : Int) := of_decide_eq_true (by first | (with_reducible assumption) | assumption)
              obtain ⟨ad163, e163, hx163_0, hx163_1, hx163_2⟩ := at_T28 HR0.out x5_1 p163 q163
              cases e163
              replace hx163_0 := (HB.out.cell (World.block_lt_of_cell? w _ hx163_0)).trans hx163_0
              replace hx163_1 := (HB.out.cell (World.block_lt_of_cell? w _ hx163_1)).trans hx163_1
              replace hx163_2 := (HB.out.cell (World.block_lt_of_cell? w _ hx163_2)).trans hx163_2
              replace p163 := eq_true p163
              replace q163 := eq_true q163
              go_wp2_with (first | (go_at_call 42; (with_reducible refine (eponymref03_May.calls ((rd_T28 l0 x5_1).f0) ((rd_T28 l0 x5_1).f1) ((rd_T28 l0 x5_1).f2) true _ A5.out).mono ?_); rintro e w7 ⟨rfl, hb⟩; have n0_ := Aside0.mk (below_step (by repeat (first | (with_reducible first | exact HB.out | apply below_alloc | apply pw_below_drewN | apply below_drew1) | exact HB.out)) hb); clear HB; have HB := n0_; clear n0_; (try clear hb); (try clear hb2); (try clear hk); (try clear hi)))
              repeat (go_quiet (first | (go_at_call 42; (with_reducible refine (eponymref03_May.calls ((rd_T28 l0 x5_1).f0) ((rd_T28 l0 x5_1).f1) ((rd_T28 l0 x5_1).f2) true _ A5.out).mono ?_); rintro e w7 ⟨rfl, hb⟩; have n0_ := Aside0.mk (below_step (by repeat (first | (with_reducible first | exact HB.out | apply below_alloc | apply pw_below_drewN | apply below_drew1) | exact HB.out)) hb); clear HB; have HB := n0_; clear n0_; (try clear hb); (try clear hb2); (try clear hk); (try clear hi))); try go_wp2_with (first | (go_at_call 42; (with_reducible refine (eponymref03_May.calls ((rd_T28 l0 x5_1).f0) ((rd_T28 l0 x5_1).f1) ((rd_T28 l0 x5_1).f2) true _ A5.out).mono ?_); rintro e w7 ⟨rfl, hb⟩; have n0_ := Aside0.mk (below_step (by repeat (first | (with_reducible first | exact HB.out | apply below_alloc | apply pw_below_drewN | apply below_drew1) | exact HB.out)) hb); clear HB; have HB := n0_; clear n0_; (try clear hb); (try clear hb2); (try clear hk); (try clear hi))))
              go_roundg k1
              case measure => have := HK1.out; omega
              case rel => exact ⟨(wrap64 (x5_1 + 1)), (by first | rfl | (simp; done) | (simp [*]; done)), H', ⟨by have := HK1.out; omega⟩, ⟨by repeat (first | (with_reducible first | exact HB.out | apply below_alloc | apply pw_below_drewN | apply below_drew1) | exact HB.out)⟩⟩
            · replace c6 := Bool.eq_false_iff.mpr c6
              subst c6
              have H1 : (some (([] : List (S28)), x5_1, 4)) = some (r1, r2, r3) := by rw [if_neg (show ¬ (false = true) by decide)] at H; exact H
              clear H
              have H := H1
              clear H1
              simp only [Option.some.injEq, Prod.mk.injEq] at H
              obtain ⟨rfl, rfl, rfl⟩ := H
              have p163 : 0 ≤ (x5_1 : Int) := of_decide_eq_true (by first | (with_reducible assumption) | assumption)
              have q163 : x5_1 < (l0.length : Int) := of_decide_eq_true (by first | (with_reducible assumption) | assumption)
              obtain ⟨ad163, e163, hx163_0, hx163_1, hx163_2⟩ := at_T28 HR0.out x5_1 p163 q163
              cases e163
              replace hx163_0 := (HB.out.cell (World.block_lt_of_cell? w _ hx163_0)).trans hx163_0
              replace hx163_1 := (HB.out.cell (World.block_lt_of_cell? w _ hx163_1)).trans hx163_1
              replace hx163_2 := (HB.out.cell (World.block_lt_of_cell? w _ hx163_2)).trans hx163_2
              replace p163 := eq_true p163
              replace q163 := eq_true q163
              go_wp2_with (first | (go_at_call 42; (with_reducible refine (eponymref03_May.calls ((rd_T28 l0 x5_1).f0) ((rd_T28 l0 x5_1).f1) ((rd_T28 l0 x5_1).f2) false _ A5.out).mono ?_); rintro e w8 ⟨rfl, hb⟩; have n0_ := Aside0.mk (below_step (by repeat (first | (with_reducible first | exact HB.out | apply below_alloc | apply pw_below_drewN | apply below_drew1) | exact HB.out)) hb); clear HB; have HB := n0_; clear n0_; (try clear hb); (try clear hb2); (try clear hk); (try clear hi)))
              repeat (go_quiet (first | (go_at_call 42; (with_reducible refine (eponymref03_May.calls ((rd_T28 l0 x5_1).f0) ((rd_T28 l0 x5_1).f1) ((rd_T28 l0 x5_1).f2) false _ A5.out).mono ?_); rintro e w8 ⟨rfl, hb⟩; have n0_ := Aside0.mk (below_step (by repeat (first | (with_reducible first | exact HB.out | apply below_alloc | apply pw_below_drewN | apply below_drew1) | exact HB.out)) hb); clear HB; have HB := n0_; clear n0_; (try clear hb); (try clear hb2); (try clear hk); (try clear hi))); try go_wp2_with (first | (go_at_call 42; (with_reducible refine (eponymref03_May.calls ((rd_T28 l0 x5_1).f0) ((rd_T28 l0 x5_1).f1) ((rd_T28 l0 x5_1).f2) false _ A5.out).mono ?_); rintro e w8 ⟨rfl, hb⟩; have n0_ := Aside0.mk (below_step (by repeat (first | (with_reducible first | exact HB.out | apply below_alloc | apply pw_below_drewN | apply below_drew1) | exact HB.out)) hb); clear HB; have HB := n0_; clear n0_; (try clear hb); (try clear hb2); (try clear hk); (try clear hi))))
              go_ret3
              exact ⟨_, by first | rfl | (simp [errW_none, errW_some] <;> rfl) | (simp [*, errW_none, errW_some] <;> rfl), by first | exact Kd.R_nil _ _ _ _ _ | exact Kd.N_nil _ _ _ _ _ | exact Kd.V_nil _ _ _ _ _ | exact Kd.Q_nil _ _ _ _ _ | exact Kd.S_nil _ _ _ _ _, by repeat (first | (with_reducible first | exact HB.out | apply below_alloc | apply pw_below_drewN | apply below_drew1) | exact HB.out)⟩
          · rw [if_neg c4] at H
            exact absurd H (by simp)
        · rw [if_neg c3] at H
          have c3b0 : decide (x5_1 < (l0.length : Int)) = false := decide_eq_false c3
          clear c3
          have H' := Aside0.mk H
          clear H
          go_wp2
          repeat (go_quiet (fail); try go_wp2)
          go_loopg [6] k1 (fun kq v6 w' => ∃ (x6_2 : Int), v6 = .int .i64 x6_2 ∧ Aside0 (eponymref03_Build.l1 kq l0 x6_2 = some (r1, r2, r3)) ∧ Aside0 (kq ≤ k1) ∧ Aside0 (Below w.heap.size w w'))
          case atStart => exact ⟨(0), (by first | rfl | (simp; done) | (simp [*]; done)), H', ⟨Nat.le_refl _⟩, ⟨by repeat (first | (with_reducible first | exact HB.out | apply below_alloc | apply pw_below_drewN | apply below_drew1) | exact HB.out)⟩⟩
          case round =>
            clear H'
            try clear p1
            try clear q1
            try clear hx1
            try clear c2
            try clear c2b0
            try clear c2b1
            try clear p2
            try clear c3
            try clear c3b0
            try clear c4
            try clear c4b0
            try clear c6
            try clear p6
            try clear hx163_0
            try clear hx163_1
            try clear hx163_2
            try clear p163
            try clear p2
            try clear q163
            obtain ⟨x6_2, rfl, HA, HK2, HB⟩ := hrel
            cases gk with
            | zero => exact absurd HA.out (by simp [eponymref03_Build.l1])
            | succ k2 =>
              have H := HA.out
              clear HA
              simp only [eponymref03_Build.l1] at H
              by_cases c9 : x6_2 < (l0.length : Int)
              · rw [if_pos c9] at H
                have c9b0 : decide (x6_2 < (l0.length : Int)) = true := decide_eq_true c9
                clear c9
                have H' := Aside0.mk H
                clear H
                go_wp2
                repeat (go_quiet (fail); try go_wp2)
                go_loopg [7] k2 (fun kq v7 w' => ∃ (x7_3 : Int), v7 = .int .i64 x7_3 ∧ Aside0 (eponymref03_Build.l2 kq l0 x6_2 x7_3 = some (r1, r2, r3)) ∧ Aside0 (kq ≤ k2) ∧ Aside0 (Below w.heap.size w w'))
                case atStart => exact ⟨(0), (by first | rfl | (simp; done) | (simp [*]; done)), H', ⟨Nat.le_refl _⟩, ⟨by repeat (first | (with_reducible first | exact HB.out | apply below_alloc | apply pw_below_drewN | apply below_drew1) | exact HB.out)⟩⟩
                case round =>
                  clear H'
                  try clear p1
                  try clear q1
                  try clear hx1
                  try clear c2
                  try clear c2b0
                  try clear c2b1
                  try clear p2
                  try clear c3
                  try clear c3b0
                  try clear c4
                  try clear c4b0
                  try clear c6
                  try clear p6
                  try clear c9
                  try clear c9b0
                  try clear hx163_0
                  try clear hx163_1
                  try clear hx163_2
                  try clear p1
                  try clear p163
                  try clear p2
                  try clear p6
                  try clear q1
                  try clear q163
                  obtain ⟨x7_3, rfl, HA, HK3, HB⟩ := hrel
                  cases gk with
                  | zero => exact absurd HA.out (by simp [eponymref03_Build.l2])
                  | succ k3 =>
                    have H := HA.out
                    clear HA
                    simp only [eponymref03_Build.l2] at H
                    by_cases c10 : x7_3 < x6_2
                    · rw [if_pos c10] at H
                      have c10b0 : decide (x7_3 < x6_2) = true := decide_eq_true c10
                      clear c10
                      by_cases c11 : 0 ≤ x7_3
                      · rw [if_pos c11] at H
                        have c11b0 : decide (0 ≤ x7_3) = true := decide_eq_true c11
                        clear c11
                        by_cases c12 : x7_3 < (l0.length : Int)
                        · rw [if_pos c12] at H
                          have c12b0 : decide (x7_3 < (l0.length : Int)) = true := decide_eq_true c12
                          clear c12
                          by_cases c13 : 0 ≤ x6_2
                          · rw [if_pos c13] at H
                            have c13b0 : decide (0 ≤ x6_2) = true := decide_eq_true c13
                            clear c13
                            by_cases c14 : x6_2 < (l0.length : Int)
                            · rw [if_pos c14] at H
                              have c14b0 : decide (x6_2 < (l0.length : Int)) = true := decide_eq_true c14
                              clear c14
                              by_cases c15 : ((rd_T28 l0 x7_3).f0) ≤ ((rd_T28 l0 x6_2).f1)
                              · rw [if_pos c15] at H
                                have c15b0 : decide (((rd_T28 l0 x7_3).f0) ≤ ((rd_T28 l0 x6_2).f1)) = true := decide_eq_true c15
                                clear c15
                                by_cases c16 : ((rd_T28 l0 x6_2).f0) ≤ ((rd_T28 l0 x7_3).f1)
                                · rw [if_pos c16] at H
                                  have c16b0 : decide (((rd_T28 l0 x6_2).f0) ≤ ((rd_T28 l0 x7_3).f1)) = true := decide_eq_true c16
                                  clear c16
                                  simp only [Option.some.injEq, Prod.mk.injEq] at H
                                  obtain ⟨rfl, rfl, rfl⟩ := H
                                  have p165 : 0 ≤ (x7_3 : Int) := of_decide_eq_true (by first | (with_reducible assumption) | assumption)
                                  have q165 : x7_3 < (l0.length : Int) := of_decide_eq_true (by first | (with_reducible assumption) | assumption)
                                  obtain ⟨ad165, e165, hx165_0, hx165_1, hx165_2⟩ := at_T28 HR0.out x7_3 p165 q165
                                  cases e165
                                  replace hx165_0 := (HB.out.cell (World.block_lt_of_cell? w _ hx165_0)).trans hx165_0
                                  replace hx165_1 := (HB.out.cell (World.block_lt_of_cell? w _ hx165_1)).trans hx165_1
                                  replace hx165_2 := (HB.out.cell (World.block_lt_of_cell? w _ hx165_2)).trans hx165_2
                                  replace p165 := eq_true p165
                                  replace q165 := eq_true q165
                                  have p166 : 0 ≤ (x6_2 : Int) := of_decide_eq_true (by first | (with_reducible assumption) | assumption)
                                  have q166 : x6_2 < (l0.length : Int) := of_decide_eq_true (by first | (with_reducible assumption) | assumption)
                                  obtain ⟨ad166, e166, hx166_0, hx166_1, hx166_2⟩ := at_T28 HR0.out x6_2 p166 q166
                                  obtain rfl : ad165 = ad166 := (by injection e166)
                                  replace hx166_0 := (HB.out.cell (World.block_lt_of_cell? w _ hx166_0)).trans hx166_0
                                  replace hx166_1 := (HB.out.cell (World.block_lt_of_cell? w _ hx166_1)).trans hx166_1
                                  replace hx166_2 := (HB.out.cell (World.block_lt_of_cell? w _ hx166_2)).trans hx166_2
                                  replace p166 := eq_true p166
                                  replace q166 := eq_true q166
                                  have p167 : 0 ≤ (x6_2 : Int) := of_decide_eq_true (by first | (with_reducible assumption) | assumption)
                                  have q167 : x6_2 < (l0.length : Int) := of_decide_eq_true (by first | (with_reducible assumption) | assumption)
                                  obtain ⟨ad167, e167, hx167_0, hx167_1, hx167_2⟩ := at_T28 HR0.out x6_2 p167 q167
                                  obtain rfl : ad165 = ad167 := (by injection e167)
                                  replace hx167_0 := (HB.out.cell (World.block_lt_of_cell? w _ hx167_0)).trans hx167_0
                                  replace hx167_1 := (HB.out.cell (World.block_lt_of_cell? w _ hx167_1)).trans hx167_1
                                  replace hx167_2 := (HB.out.cell (World.block_lt_of_cell? w _ hx167_2)).trans hx167_2
                                  replace p167 := eq_true p167
                                  replace q167 := eq_true q167
                                  have p168 : 0 ≤ (x7_3 : Int) := of_decide_eq_true (by first | (with_reducible assumption) | assumption)
                                  have q168 : x7_3 < (l0.length : Int) := of_decide_eq_true (by first | (with_reducible assumption) | assumption)
                                  obtain ⟨ad168, e168, hx168_0, hx168_1, hx168_2⟩ := at_T28 HR0.out x7_3 p168 q168
                                  obtain rfl : ad165 = ad168 := (by injection e168)
                                  replace hx168_0 := (HB.out.cell (World.block_lt_of_cell? w _ hx168_0)).trans hx168_0
                                  replace hx168_1 := (HB.out.cell (World.block_lt_of_cell? w _ hx168_1)).trans hx168_1
                                  replace hx168_2 := (HB.out.cell (World.block_lt_of_cell? w _ hx168_2)).trans hx168_2
                                  replace p168 := eq_true p168
                                  replace q168 := eq_true q168
                                  go_wp2
                                  repeat (go_quiet (fail); try go_wp2)
                                  go_ret3
                                  exact ⟨_, by first | rfl | (simp [errW_none, errW_some] <;> rfl) | (simp [*, errW_none, errW_some] <;> rfl), by first | exact Kd.R_nil _ _ _ _ _ | exact Kd.N_nil _ _ _ _ _ | exact Kd.V_nil _ _ _ _ _ | exact Kd.Q_nil _ _ _ _ _ | exact Kd.S_nil _ _ _ _ _, by repeat (first | (with_reducible first | exact HB.out | apply below_alloc | apply pw_below_drewN | apply below_drew1) | exact HB.out)⟩
                                · rw [if_neg c16] at H
                                  have c16b0 : decide (((rd_T28 l0 x6_2).f0) ≤ ((rd_T28 l0 x7_3).f1)) = false := decide_eq_false c16
                                  clear c16
                                  have H' := Aside0.mk H
                                  clear H
                                  have p165 : 0 ≤ (x7_3 : Int) := of_decide_eq_true (by first | (with_reducible assumption) | assumption)
                                  have q165 : x7_3 < (l0.length : Int) := of_decide_eq_true (by first | (with_reducible assumption) | assumption)
                                  obtain ⟨ad165, e165, hx165_0, hx165_1, hx165_2⟩ := at_T28 HR0.out x7_3 p165 q165
                                  cases e165
                                  replace hx165_0 := (HB.out.cell (World.block_lt_of_cell? w _ hx165_0)).trans hx165_0
                                  replace hx165_1 := (HB.out.cell (World.block_lt_of_cell? w _ hx165_1)).trans hx165_1
                                  replace hx165_2 := (HB.out.cell (World.block_lt_of_cell? w _ hx165_2)).trans hx165_2
                                  replace p165 := eq_true p165
                                  replace q165 := eq_true q165
                                  have p166 : 0 ≤ (x6_2 : Int) := of_decide_eq_true (by first | (with_reducible assumption) | assumption)
                                  have q166 : x6_2 < (l0.length : Int) := of_decide_eq_true (by first | (with_reducible assumption) | assumption)
                                  obtain ⟨ad166, e166, hx166_0, hx166_1, hx166_2⟩ := at_T28 HR0.out x6_2 p166 q166
                                  obtain rfl : ad165 = ad166 := (by injection e166)
                                  replace hx166_0 := (HB.out.cell (World.block_lt_of_cell? w _ hx166_0)).trans hx166_0
                                  replace hx166_1 := (HB.out.cell (World.block_lt_of_cell? w _ hx166_1)).trans hx166_1
                                  replace hx166_2 := (HB.out.cell (World.block_lt_of_cell? w _ hx166_2)).trans hx166_2
                                  replace p166 := eq_true p166
                                  replace q166 := eq_true q166
                                  have p167 : 0 ≤ (x6_2 : Int) := of_decide_eq_true (by first | (with_reducible assumption) | assumption)
                                  have q167 : x6_2 < (l0.length : Int) := of_decide_eq_true (by first | (with_reducible assumption) | assumption)
                                  obtain ⟨ad167, e167, hx167_0, hx167_1, hx167_2⟩ := at_T28 HR0.out x6_2 p167 q167
                                  obtain rfl : ad165 = ad167 := (by injection e167)
                                  replace hx167_0 := (HB.out.cell (World.block_lt_of_cell? w _ hx167_0)).trans hx167_0
                                  replace hx167_1 := (HB.out.cell (World.block_lt_of_cell? w _ hx167_1)).trans hx167_1
                                  replace hx167_2 := (HB.out.cell (World.block_lt_of_cell? w _ hx167_2)).trans hx167_2
                                  replace p167 := eq_true p167
                                  replace q167 := eq_true q167
                                  have p168 : 0 ≤ (x7_3 : Int) := of_decide_eq_true (by first | (with_reducible assumption) | assumption)
                                  have q168 : x7_3 < (l0.length : Int) := of_decide_eq_true (by first | (with_reducible assumption) | assumption)
                                  obtain ⟨ad168, e168, hx168_0, hx168_1, hx168_2⟩ := at_T28 HR0.out x7_3 p168 q168
                                  obtain rfl : ad165 = ad168 := (by injection e168)
                                  replace hx168_0 := (HB.out.cell (World.block_lt_of_cell? w _ hx168_0)).trans hx168_0
                                  replace hx168_1 := (HB.out.cell (World.block_lt_of_cell? w _ hx168_1)).trans hx168_1
                                  replace hx168_2 := (HB.out.cell (World.block_lt_of_cell? w _ hx168_2)).trans hx168_2
                                  replace p168 := eq_true p168
                                  replace q168 := eq_true q168
                                  go_wp2
                                  repeat (go_quiet (fail); try go_wp2)
                                  go_roundg k3
                                  case measure => have := HK1.out; have := HK2.out; have := HK3.out; omega
                                  case rel => exact ⟨(wrap64 (x7_3 + 1)), (by first | rfl | (simp; done) | (simp [*]; done)), H', ⟨by have := HK1.out; have := HK2.out; have := HK3.out; omega⟩, ⟨by repeat (first | (with_reducible first | exact HB.out | apply below_alloc | apply pw_below_drewN | apply below_drew1) | exact HB.out)⟩⟩
                              · rw [if_neg c15] at H
                                have c15b0 : decide (((rd_T28 l0 x7_3).f0) ≤ ((rd_T28 l0 x6_2).f1)) = false := decide_eq_false c15
                                clear c15
                                have H' := Aside0.mk H
                                clear H
                                have p165 : 0 ≤ (x7_3 : Int) := of_decide_eq_true (by first | (with_reducible assumption) | assumption)
                                have q165 : x7_3 < (l0.length : Int) := of_decide_eq_true (by first | (with_reducible assumption) | assumption)
                                obtain ⟨ad165, e165, hx165_0, hx165_1, hx165_2⟩ := at_T28 HR0.out x7_3 p165 q165
                                cases e165
                                replace hx165_0 := (HB.out.cell (World.block_lt_of_cell? w _ hx165_0)).trans hx165_0
                                replace hx165_1 := (HB.out.cell (World.block_lt_of_cell? w _ hx165_1)).trans hx165_1
                                replace hx165_2 := (HB.out.cell (World.block_lt_of_cell? w _ hx165_2)).trans hx165_2
                                replace p165 := eq_true p165
                                replace q165 := eq_true q165
                                have p166 : 0 ≤ (x6_2 : Int) := of_decide_eq_true (by first | (with_reducible assumption) | assumption)
                                have q166 : x6_2 < (l0.length : Int) := of_decide_eq_true (by first | (with_reducible assumption) | assumption)
                                obtain ⟨ad166, e166, hx166_0, hx166_1, hx166_2⟩ := at_T28 HR0.out x6_2 p166 q166
                                obtain rfl : ad165 = ad166 := (by injection e166)
                                replace hx166_0 := (HB.out.cell (World.block_lt_of_cell? w _ hx166_0)).trans hx166_0
                                replace hx166_1 := (HB.out.cell (World.block_lt_of_cell? w _ hx166_1)).trans hx166_1
                                replace hx166_2 := (HB.out.cell (World.block_lt_of_cell? w _ hx166_2)).trans hx166_2
                                replace p166 := eq_true p166
                                replace q166 := eq_true q166
                                go_wp2
                                repeat (go_quiet (fail); try go_wp2)
                                go_roundg k3
                                case measure => have := HK1.out; have := HK2.out; have := HK3.out; omega
                                case rel => exact ⟨(wrap64 (x7_3 + 1)), (by first | rfl | (simp; done) | (simp [*]; done)), H', ⟨by have := HK1.out; have := HK2.out; have := HK3.out; omega⟩, ⟨by repeat (first | (with_reducible first | exact HB.out | apply below_alloc | apply pw_below_drewN | apply below_drew1) | exact HB.out)⟩⟩
                            · rw [if_neg c14] at H
                              exact absurd H (by simp)
                          · rw [if_neg c13] at H
                            exact absurd H (by simp)
                        · rw [if_neg c12] at H
                          exact absurd H (by simp)
                      · rw [if_neg c11] at H
                        exact absurd H (by simp)
                    · rw [if_neg c10] at H
                      have c10b0 : decide (x7_3 < x6_2) = false := decide_eq_false c10
                      clear c10
                      have H' := Aside0.mk H
                      clear H
                      go_wp2
                      repeat (go_quiet (fail); try go_wp2)
                      go_roundg k3
                      case measure => have := HK1.out; have := HK2.out; have := HK3.out; omega
                      case rel => exact ⟨(wrap64 (x6_2 + 1)), (by first | rfl | (simp; done) | (simp [*]; done)), H', ⟨by have := HK1.out; have := HK2.out; have := HK3.out; omega⟩, ⟨by repeat (first | (with_reducible first | exact HB.out | apply below_alloc | apply pw_below_drewN | apply below_drew1) | exact HB.out)⟩⟩
              · rw [if_neg c9] at H
                have c9b0 : decide (x6_2 < (l0.length : Int)) = false := decide_eq_false c9
                clear c9
                have H' := Aside0.mk H
                clear H
                go_wp2
                repeat (go_quiet (fail); try go_wp2)
                go_loopg [8, 9] k2 (fun kq v8 v9 w' => ∃ (x8_3 : List (S28)) (x9_3 : Int), v9 = .int .i64 x9_3 ∧ Aside0 (eponymref03_Build.l3 kq l0 x8_3 x9_3 = some (r1, r2, r3)) ∧ Aside0 (kq ≤ k2) ∧ Aside0 (Kd.R k28 28 w' w.heap.size (fun _ => True) v8 x8_3) ∧ Aside0 (Below w.heap.size w w'))
                case atStart => exact ⟨(([] : List (S28))), (0), (by first | rfl | (simp; done) | (simp [*]; done)), H', ⟨Nat.le_refl _⟩, ⟨by first | exact Kd.R_nil _ _ _ _ _ | exact Kd.N_nil _ _ _ _ _ | exact Kd.V_nil _ _ _ _ _ | exact Kd.Q_nil _ _ _ _ _ | exact Kd.S_nil _ _ _ _ _⟩, ⟨by repeat (first | (with_reducible first | exact HB.out | apply below_alloc | apply pw_below_drewN | apply below_drew1) | exact HB.out)⟩⟩
                case round =>
                  clear H'
                  try clear c1
                  try clear p1
                  try clear q1
                  try clear hx1
                  try clear c2
                  try clear c2b0
                  try clear c2b1
                  try clear p2
                  try clear c3
                  try clear c3b0
                  try clear c4
                  try clear c4b0
                  try clear c6
                  try clear p6
                  try clear c9
                  try clear c9b0
                  try clear c10
                  try clear c10b0
                  try clear c11
                  try clear c11b0
                  try clear c12
                  try clear c12b0
                  try clear c13
                  try clear c13b0
                  try clear c14
                  try clear c14b0
                  try clear c15
                  try clear c15b0
                  try clear c16
                  try clear c16b0
                  try clear p16
                  try clear q16
                  try clear hx16
                  try clear hx163_0
                  try clear hx163_1
                  try clear hx163_2
                  try clear hx165_0
                  try clear hx165_1
                  try clear hx165_2
                  try clear hx166_0
                  try clear hx166_1
                  try clear hx166_2
                  try clear hx167_0
                  try clear hx167_1
                  try clear hx167_2
                  try clear hx168_0
                  try clear hx168_1
                  try clear hx168_2
                  try clear p1
                  try clear p163
                  try clear p165
                  try clear p166
                  try clear p167
                  try clear p168
                  try clear p2
                  try clear p6
                  try clear q1
                  try clear q163
                  try clear q165
                  try clear q166
                  try clear q167
                  try clear q168
                  obtain ⟨x8_3, x9_3, rfl, HA, HK3, HO_8, HB⟩ := hrel
                  cases gk with
                  | zero => exact absurd HA.out (by simp [eponymref03_Build.l3])
                  | succ k3 =>
                    have H := HA.out
                    clear HA
                    simp only [eponymref03_Build.l3] at H
                    by_cases c17 : x9_3 < (l0.length : Int)
                    · rw [if_pos c17] at H
                      have c17b0 : decide (x9_3 < (l0.length : Int)) = true := decide_eq_true c17
                      clear c17
                      have H' := Aside0.mk H
                      clear H
                      go_wp2
                      repeat (go_quiet (fail); try go_wp2)
                      go_loopg [10, 11, 12] k3 (fun kq v10 v11 v12 w' => ∃ (x10_4 : List (S28)) (x11_4 : Bool) (x12_4 : Int), v11 = .bool x11_4 ∧ v12 = .int .i64 x12_4 ∧ Aside0 (eponymref03_Build.l4 kq l0 x8_3 x9_3 x10_4 x11_4 x12_4 = some (r1, r2, r3)) ∧ Aside0 (kq ≤ k3) ∧ Aside0 (Kd.R k28 28 w' w.heap.size (fun k_ => some k_ ≠ (v10 : Value).ownBlock) u8 x8_3) ∧ Aside0 (Kd.R k28 28 w' w.heap.size (fun k_ => some k_ ≠ (u8 : Value).ownBlock) v10 x10_4) ∧ Aside0 (Below w.heap.size w w'))
                      case atStart => exact ⟨(([] : List (S28))), (false), (0), (by first | rfl | (simp; done) | (simp [*]; done)), (by first | rfl | (simp; done) | (simp [*]; done)), H', ⟨Nat.le_refl _⟩, ⟨by (with_reducible repeat (first | apply Kd.R_alloc | apply Kd.R_drewN | apply Kd.R_drew)); exact Kd.R_mono HO_8.out (fun _ hk => (by simp [Value.ownBlock]))⟩, ⟨by first | exact Kd.R_nil _ _ _ _ _ | exact Kd.N_nil _ _ _ _ _ | exact Kd.V_nil _ _ _ _ _ | exact Kd.Q_nil _ _ _ _ _ | exact Kd.S_nil _ _ _ _ _⟩, ⟨by repeat (first | (with_reducible first | exact HB.out | apply below_alloc | apply pw_below_drewN | apply below_drew1) | exact HB.out)⟩⟩
                      case round =>
                        clear H'
                        try clear c1
                        try clear p1
                        try clear q1
                        try clear hx1
                        try clear c2
                        try clear c2b0
                        try clear c2b1
                        try clear p2
                        try clear c3
                        try clear c3b0
                        try clear c4
                        try clear c4b0
                        try clear c6
                        try clear p6
                        try clear c9
                        try clear c9b0
                        try clear c10
                        try clear c10b0
                        try clear c11
                        try clear c11b0
                        try clear c12
                        try clear c12b0
                        try clear c13
                        try clear c13b0
                        try clear c14
                        try clear c14b0
                        try clear c15
                        try clear c15b0
                        try clear c16
                        try clear c16b0
                        try clear p16
                        try clear q16
                        try clear hx16
                        try clear c17
                        try clear c17b0
                        try clear hx163_0
                        try clear hx163_1
                        try clear hx163_2
                        try clear hx165_0
                        try clear hx165_1
                        try clear hx165_2
                        try clear hx166_0
                        try clear hx166_1
                        try clear hx166_2
                        try clear hx167_0
                        try clear hx167_1
                        try clear hx167_2
                        try clear hx168_0
                        try clear hx168_1
                        try clear hx168_2
                        try clear p1
                        try clear p16
                        try clear p163
                        try clear p165
                        try clear p166
                        try clear p167
                        try clear p168
                        try clear p2
                        try clear p6
                        try clear q1
                        try clear q16
                        try clear q163
                        try clear q165
                        try clear q166
                        try clear q167
                        try clear q168
                        obtain ⟨x10_4, x11_4, x12_4, rfl, rfl, HA, HK4, HO_8, HO_10, HB⟩ := hrel
                        cases gk with
                        | zero => exact absurd HA.out (by simp [eponymref03_Build.l4])
                        | succ k4 =>
                          have H := HA.out
                          clear HA
                          simp only [eponymref03_Build.l4] at H
                          by_cases c18 : x12_4 < (x8_3.length : Int)
                          · rw [if_pos c18] at H
                            have c18b0 : decide (x12_4 < (x8_3.length : Int)) = true := decide_eq_true c18
                            clear c18
                            by_cases c19 : x11_4 = true
                            · subst c19
                              have H1 : (if 0 ≤ x12_4 then (if x10_4.length < 8796093022208 then (eponymref03_Build.l4 k4 l0 x8_3 x9_3 (x10_4 ++ [(⟨(rd_T28 x8_3 x12_4).f0, (rd_T28 x8_3 x12_4).f1, (rd_T28 x8_3 x12_4).f2⟩ : S28)]) true (wrap64 (x12_4 + 1))) else (none)) else (none)) = some (r1, r2, r3) := by rw [if_pos rfl] at H; exact H
                              clear H
                              have H := H1
                              clear H1
                              by_cases c20 : 0 ≤ x12_4
                              · rw [if_pos c20] at H
                                have c20b0 : decide (0 ≤ x12_4) = true := decide_eq_true c20
                                clear c20
                                by_cases c21 : x10_4.length < 8796093022208
                                · rw [if_pos c21] at H
                                  have LMc21 := Aside0.mk c21
                                  clear c21
                                  obtain ⟨y170, hy170⟩ : ∃ y_ : List (S28), y_ = (x10_4 ++ [(⟨(rd_T28 x8_3 x12_4).f0, (rd_T28 x8_3 x12_4).f1, (rd_T28 x8_3 x12_4).f2⟩ : S28)]) := ⟨_, rfl⟩
                                  replace H : (eponymref03_Build.l4 k4 l0 x8_3 x9_3 y170 true (wrap64 (x12_4 + 1))) = some (r1, r2, r3) := by first | (rw [hy170]; with_reducible exact H) | (have H2_ := (Option.bind_some _ _).symm.trans H; rw [hy170]; with_reducible exact H2_) | (have H2_ := (Option.bind_some _ _).symm.trans H; with_reducible exact H2_) | with_reducible exact H | (rw [hy170]; exact H) | exact H
                                  have Ny170 := Aside0.mk hy170
                                  clear hy170
                                  have H' := Aside0.mk H
                                  clear H
                                  obtain ⟨Ao22, co22, eo22⟩ := Kd.R_slice HO_8.out
                                  subst eo22
                                  have p169 : 0 ≤ (x12_4 : Int) := of_decide_eq_true (by first | (with_reducible assumption) | assumption)
                                  have q169 : x12_4 < (x8_3.length : Int) := of_decide_eq_true (by first | (with_reducible assumption) | assumption)
                                  obtain ⟨ad169, e169, hx169_0, hx169_1, hx169_2⟩ := at_T28 (Kd.R_reads' HO_8.out).2.2 x12_4 p169 q169
                                  cases e169
                                  replace p169 := eq_true p169
                                  replace q169 := eq_true q169
                                  go_wp2_with (first | ((with_reducible refine gate_builtin (b := .append) (xs := #[.tmp 99, .tmp 104]) rfl ?_); at_builtin; refine Kd.R_append k28 (w0 := w) w.heap.size rfl (.tmp 99) (.tmp 104) 22 28 (.agg #[(.int .i32 0), (.int .i32 0), (.int .i64 0)]) 16 rfl Tryz.underlying22 info28 rfl (by decide) (by omega) u10 x10_4 (⟨(rd_T28 x8_3 x12_4).f0, (rd_T28 x8_3 x12_4).f1, (rd_T28 x8_3 x12_4).f2⟩ : S28) [.int .i32 ((rd_T28 x8_3 x12_4).f0), .int .i32 ((rd_T28 x8_3 x12_4).f1), .int .i64 ((rd_T28 x8_3 x12_4).f2)] (fun k_ => some k_ ≠ (.slice (some ad169) x8_3.length co22 : Value).ownBlock) (fun _ => False) rfl rfl ?aP (fun _ hk => hk.elim) ?aF ?aO ?aB ?aS ?aL ?_; (case aP => exact k28_mkM _ _ _ (⟨(rd_T28 x8_3 x12_4).f0, (rd_T28 x8_3 x12_4).f1, (rd_T28 x8_3 x12_4).f2⟩ : S28)); (case aB => exact (by repeat (first | (with_reducible first | exact HB.out | apply below_alloc | apply pw_below_drewN | apply below_drew1) | exact HB.out))); (case aF => exact (fun k_ hk => Kd.fresh' (Kd.R_lt (by (with_reducible repeat (first | apply Kd.R_alloc | apply Kd.R_drewN | apply Kd.R_drew)); exact HO_8.out)) k_ hk)); (case aO => exact (by (with_reducible repeat (first | apply Kd.R_alloc | apply Kd.R_drewN | apply Kd.R_drew)); exact HO_10.out)); (case aS => exact (below_size (by repeat (first | (with_reducible first | exact HB.out | apply below_alloc | apply pw_below_drewN | apply below_drew1) | exact HB.out)))); (case aL => have := LMc21.out; omega); intro v171 w23 ho hb hg hat; rw [← Ny170.out] at ho; have n0_ := Aside0.mk (Kd.R_after (ok := (fun _ => True)) (by (with_reducible repeat (first | apply Kd.R_alloc | apply Kd.R_drewN | apply Kd.R_drew)); exact Kd.R_mono HO_8.out (fun _ hk => ⟨trivial, hk⟩)) hg hat); have n1_ := Aside0.mk (hb); have n2_ := Aside0.mk (ho); clear HO_8; clear HB; clear HO_10; have HO_8 := n0_; have HB := n1_; have HO172 := n2_; clear n0_ n1_ n2_; clear ho hb hg hat))
                                  repeat (go_quiet (first | ((with_reducible refine gate_builtin (b := .append) (xs := #[.tmp 99, .tmp 104]) rfl ?_); at_builtin; refine Kd.R_append k28 (w0 := w) w.heap.size rfl (.tmp 99) (.tmp 104) 22 28 (.agg #[(.int .i32 0), (.int .i32 0), (.int .i64 0)]) 16 rfl Tryz.underlying22 info28 rfl (by decide) (by omega) u10 x10_4 (⟨(rd_T28 x8_3 x12_4).f0, (rd_T28 x8_3 x12_4).f1, (rd_T28 x8_3 x12_4).f2⟩ : S28) [.int .i32 ((rd_T28 x8_3 x12_4).f0), .int .i32 ((rd_T28 x8_3 x12_4).f1), .int .i64 ((rd_T28 x8_3 x12_4).f2)] (fun k_ => some k_ ≠ (.slice (some ad169) x8_3.length co22 : Value).ownBlock) (fun _ => False) rfl rfl ?aP (fun _ hk => hk.elim) ?aF ?aO ?aB ?aS ?aL ?_; (case aP => exact k28_mkM _ _ _ (⟨(rd_T28 x8_3 x12_4).f0, (rd_T28 x8_3 x12_4).f1, (rd_T28 x8_3 x12_4).f2⟩ : S28)); (case aB => exact (by repeat (first | (with_reducible first | exact HB.out | apply below_alloc | apply pw_below_drewN | apply below_drew1) | exact HB.out))); (case aF => exact (fun k_ hk => Kd.fresh' (Kd.R_lt (by (with_reducible repeat (first | apply Kd.R_alloc | apply Kd.R_drewN | apply Kd.R_drew)); exact HO_8.out)) k_ hk)); (case aO => exact (by (with_reducible repeat (first | apply Kd.R_alloc | apply Kd.R_drewN | apply Kd.R_drew)); exact HO_10.out)); (case aS => exact (below_size (by repeat (first | (with_reducible first | exact HB.out | apply below_alloc | apply pw_below_drewN | apply below_drew1) | exact HB.out)))); (case aL => have := LMc21.out; omega); intro v171 w23 ho hb hg hat; rw [← Ny170.out] at ho; have n0_ := Aside0.mk (Kd.R_after (ok := (fun _ => True)) (by (with_reducible repeat (first | apply Kd.R_alloc | apply Kd.R_drewN | apply Kd.R_drew)); exact Kd.R_mono HO_8.out (fun _ hk => ⟨trivial, hk⟩)) hg hat); have n1_ := Aside0.mk (hb); have n2_ := Aside0.mk (ho); clear HO_8; clear HB; clear HO_10; have HO_8 := n0_; have HB := n1_; have HO172 := n2_; clear n0_ n1_ n2_; clear ho hb hg hat)); try go_wp2_with (first | ((with_reducible refine gate_builtin (b := .append) (xs := #[.tmp 99, .tmp 104]) rfl ?_); at_builtin; refine Kd.R_append k28 (w0 := w) w.heap.size rfl (.tmp 99) (.tmp 104) 22 28 (.agg #[(.int .i32 0), (.int .i32 0), (.int .i64 0)]) 16 rfl Tryz.underlying22 info28 rfl (by decide) (by omega) u10 x10_4 (⟨(rd_T28 x8_3 x12_4).f0, (rd_T28 x8_3 x12_4).f1, (rd_T28 x8_3 x12_4).f2⟩ : S28) [.int .i32 ((rd_T28 x8_3 x12_4).f0), .int .i32 ((rd_T28 x8_3 x12_4).f1), .int .i64 ((rd_T28 x8_3 x12_4).f2)] (fun k_ => some k_ ≠ (.slice (some ad169) x8_3.length co22 : Value).ownBlock) (fun _ => False) rfl rfl ?aP (fun _ hk => hk.elim) ?aF ?aO ?aB ?aS ?aL ?_; (case aP => exact k28_mkM _ _ _ (⟨(rd_T28 x8_3 x12_4).f0, (rd_T28 x8_3 x12_4).f1, (rd_T28 x8_3 x12_4).f2⟩ : S28)); (case aB => exact (by repeat (first | (with_reducible first | exact HB.out | apply below_alloc | apply pw_below_drewN | apply below_drew1) | exact HB.out))); (case aF => exact (fun k_ hk => Kd.fresh' (Kd.R_lt (by (with_reducible repeat (first | apply Kd.R_alloc | apply Kd.R_drewN | apply Kd.R_drew)); exact HO_8.out)) k_ hk)); (case aO => exact (by (with_reducible repeat (first | apply Kd.R_alloc | apply Kd.R_drewN | apply Kd.R_drew)); exact HO_10.out)); (case aS => exact (below_size (by repeat (first | (with_reducible first | exact HB.out | apply below_alloc | apply pw_below_drewN | apply below_drew1) | exact HB.out)))); (case aL => have := LMc21.out; omega); intro v171 w23 ho hb hg hat; rw [← Ny170.out] at ho; have n0_ := Aside0.mk (Kd.R_after (ok := (fun _ => True)) (by (with_reducible repeat (first | apply Kd.R_alloc | apply Kd.R_drewN | apply Kd.R_drew)); exact Kd.R_mono HO_8.out (fun _ hk => ⟨trivial, hk⟩)) hg hat); have n1_ := Aside0.mk (hb); have n2_ := Aside0.mk (ho); clear HO_8; clear HB; clear HO_10; have HO_8 := n0_; have HB := n1_; have HO172 := n2_; clear n0_ n1_ n2_; clear ho hb hg hat)))
                                  go_roundg k4
                                  case measure => have := HK1.out; have := HK2.out; have := HK3.out; have := HK4.out; omega
                                  case rel => exact ⟨(y170), (true), (wrap64 (x12_4 + 1)), (by first | rfl | (simp; done) | (simp [*]; done)), (by first | rfl | (simp; done) | (simp [*]; done)), H', ⟨by have := HK1.out; have := HK2.out; have := HK3.out; have := HK4.out; omega⟩, ⟨by (with_reducible repeat (first | apply Kd.R_alloc | apply Kd.R_drewN | apply Kd.R_drew)); exact Kd.R_mono HO_8.out (fun _ hk => hk.2)⟩, ⟨by (with_reducible repeat (first | apply Kd.R_alloc | apply Kd.R_drewN | apply Kd.R_drew)); exact HO172.out⟩, ⟨by repeat (first | (with_reducible first | exact HB.out | apply below_alloc | apply pw_below_drewN | apply below_drew1) | exact HB.out)⟩⟩
                                · rw [if_neg c21] at H
                                  exact absurd H (by simp)
                              · rw [if_neg c20] at H
                                exact absurd H (by simp)
                            · replace c19 := Bool.eq_false_iff.mpr c19
                              subst c19
                              have H1 : (if 0 ≤ x9_3 then (if x9_3 < (l0.length : Int) then (if 0 ≤ x12_4 then (if ((rd_T28 l0 x9_3).f0) < ((rd_T28 x8_3 x12_4).f0) then (if x10_4.length < 8796093022208 then ((some (x10_4 ++ [(⟨(rd_T28 l0 x9_3).f0, (rd_T28 l0 x9_3).f1, (rd_T28 l0 x9_3).f2⟩ : S28)] : List (S28))).bind fun y176 => (if y176.length < 8796093022208 then (eponymref03_Build.l4 k4 l0 x8_3 x9_3 (y176 ++ [(⟨(rd_T28 x8_3 x12_4).f0, (rd_T28 x8_3 x12_4).f1, (rd_T28 x8_3 x12_4).f2⟩ : S28)]) true (wrap64 (x12_4 + 1))) else (none))) else (none)) else (if x10_4.length < 8796093022208 then (eponymref03_Build.l4 k4 l0 x8_3 x9_3 (x10_4 ++ [(⟨(rd_T28 x8_3 x12_4).f0, (rd_T28 x8_3 x12_4).f1, (rd_T28 x8_3 x12_4).f2⟩ : S28)]) false (wrap64 (x12_4 + 1))) else (none))) else (none)) else (none)) else (none)) = some (r1, r2, r3) := by rw [if_neg (show ¬ (false = true) by decide)] at H; exact H
                              clear H
                              have H := H1
                              clear H1
                              by_cases c24 : 0 ≤ x9_3
                              · rw [if_pos c24] at H
                                have c24b0 : decide (0 ≤ x9_3) = true := decide_eq_true c24
                                clear c24
                                by_cases c25 : x9_3 < (l0.length : Int)
                                · rw [if_pos c25] at H
                                  have c25b0 : decide (x9_3 < (l0.length : Int)) = true := decide_eq_true c25
                                  clear c25
                                  by_cases c26 : 0 ≤ x12_4
                                  · rw [if_pos c26] at H
                                    have c26b0 : decide (0 ≤ x12_4) = true := decide_eq_true c26
                                    clear c26
                                    by_cases c27 : ((rd_T28 l0 x9_3).f0) < ((rd_T28 x8_3 x12_4).f0)
                                    · rw [if_pos c27] at H
                                      have c27b0 : decide (((rd_T28 l0 x9_3).f0) < ((rd_T28 x8_3 x12_4).f0)) = true := decide_eq_true c27
                                      clear c27
                                      by_cases c28 : x10_4.length < 8796093022208
                                      · rw [if_pos c28] at H
                                        have LMc28 := Aside0.mk c28
                                        clear c28
                                        obtain ⟨y176, hy176⟩ : ∃ y_ : List (S28), y_ = (x10_4 ++ [(⟨(rd_T28 l0 x9_3).f0, (rd_T28 l0 x9_3).f1, (rd_T28 l0 x9_3).f2⟩ : S28)]) := ⟨_, rfl⟩
                                        replace H : (if y176.length < 8796093022208 then (eponymref03_Build.l4 k4 l0 x8_3 x9_3 (y176 ++ [(⟨(rd_T28 x8_3 x12_4).f0, (rd_T28 x8_3 x12_4).f1, (rd_T28 x8_3 x12_4).f2⟩ : S28)]) true (wrap64 (x12_4 + 1))) else (none)) = some (r1, r2, r3) := by first | (rw [hy176]; with_reducible exact H) | (have H2_ := (Option.bind_some _ _).symm.trans H; rw [hy176]; with_reducible exact H2_) | (have H2_ := (Option.bind_some _ _).symm.trans H; with_reducible exact H2_) | with_reducible exact H | (rw [hy176]; exact H) | exact H
                                        have Ny176 := Aside0.mk hy176
                                        clear hy176
                                        by_cases c29 : y176.length < 8796093022208
                                        · rw [if_pos c29] at H
                                          have LMc29 := Aside0.mk c29
                                          clear c29
                                          obtain ⟨y180, hy180⟩ : ∃ y_ : List (S28), y_ = (y176 ++ [(⟨(rd_T28 x8_3 x12_4).f0, (rd_T28 x8_3 x12_4).f1, (rd_T28 x8_3 x12_4).f2⟩ : S28)]) := ⟨_, rfl⟩
                                          replace H : (eponymref03_Build.l4 k4 l0 x8_3 x9_3 y180 true (wrap64 (x12_4 + 1))) = some (r1, r2, r3) := by first | (rw [hy180]; with_reducible exact H) | (have H2_ := (Option.bind_some _ _).symm.trans H; rw [hy180]; with_reducible exact H2_) | (have H2_ := (Option.bind_some _ _).symm.trans H; with_reducible exact H2_) | with_reducible exact H | (rw [hy180]; exact H) | exact H
                                          have Ny180 := Aside0.mk hy180
                                          clear hy180
                                          have H' := Aside0.mk H
                                          clear H
                                          obtain ⟨Ao30, co30, eo30⟩ := Kd.R_slice HO_8.out
                                          subst eo30
                                          have p173 : 0 ≤ (x9_3 : Int) := of_decide_eq_true (by first | (with_reducible assumption) | assumption)
                                          have q173 : x9_3 < (l0.length : Int) := of_decide_eq_true (by first | (with_reducible assumption) | assumption)
                                          obtain ⟨ad173, e173, hx173_0, hx173_1, hx173_2⟩ := at_T28 HR0.out x9_3 p173 q173
                                          cases e173
                                          replace hx173_0 := (HB.out.cell (World.block_lt_of_cell? w _ hx173_0)).trans hx173_0
                                          replace hx173_1 := (HB.out.cell (World.block_lt_of_cell? w _ hx173_1)).trans hx173_1
                                          replace hx173_2 := (HB.out.cell (World.block_lt_of_cell? w _ hx173_2)).trans hx173_2
                                          replace p173 := eq_true p173
                                          replace q173 := eq_true q173
                                          have p174 : 0 ≤ (x12_4 : Int) := of_decide_eq_true (by first | (with_reducible assumption) | assumption)
                                          have q174 : x12_4 < (x8_3.length : Int) := of_decide_eq_true (by first | (with_reducible assumption) | assumption)
                                          obtain ⟨ad174, e174, hx174_0, hx174_1, hx174_2⟩ := at_T28 (Kd.R_reads' HO_8.out).2.2 x12_4 p174 q174
                                          cases e174
                                          replace p174 := eq_true p174
                                          replace q174 := eq_true q174
                                          have p175 : 0 ≤ (x9_3 : Int) := of_decide_eq_true (by first | (with_reducible assumption) | assumption)
                                          have q175 : x9_3 < (l0.length : Int) := of_decide_eq_true (by first | (with_reducible assumption) | assumption)
                                          obtain ⟨ad175, e175, hx175_0, hx175_1, hx175_2⟩ := at_T28 HR0.out x9_3 p175 q175
                                          obtain rfl : ad173 = ad175 := (by injection e175)
                                          replace hx175_0 := (HB.out.cell (World.block_lt_of_cell? w _ hx175_0)).trans hx175_0
                                          replace hx175_1 := (HB.out.cell (World.block_lt_of_cell? w _ hx175_1)).trans hx175_1
                                          replace hx175_2 := (HB.out.cell (World.block_lt_of_cell? w _ hx175_2)).trans hx175_2
                                          replace p175 := eq_true p175
                                          replace q175 := eq_true q175
                                          go_wp2_with (first | ((with_reducible refine gate_builtin (b := .append) (xs := #[.tmp 92, .tmp 97]) rfl ?_); at_builtin; refine Kd.R_append k28 (w0 := w) w.heap.size rfl (.tmp 92) (.tmp 97) 22 28 (.agg #[(.int .i32 0), (.int .i32 0), (.int .i64 0)]) 16 rfl Tryz.underlying22 info28 rfl (by decide) (by omega) u10 x10_4 (⟨(rd_T28 l0 x9_3).f0, (rd_T28 l0 x9_3).f1, (rd_T28 l0 x9_3).f2⟩ : S28) [.int .i32 ((rd_T28 l0 x9_3).f0), .int .i32 ((rd_T28 l0 x9_3).f1), .int .i64 ((rd_T28 l0 x9_3).f2)] (fun k_ => some k_ ≠ (.slice (some ad174) x8_3.length co30 : Value).ownBlock) (fun _ => False) rfl rfl ?aP (fun _ hk => hk.elim) ?aF ?aO ?aB ?aS ?aL ?_; (case aP => exact k28_mkM _ _ _ (⟨(rd_T28 l0 x9_3).f0, (rd_T28 l0 x9_3).f1, (rd_T28 l0 x9_3).f2⟩ : S28)); (case aB => exact (by repeat (first | (with_reducible first | exact HB.out | apply below_alloc | apply pw_below_drewN | apply below_drew1) | exact HB.out))); (case aF => exact (fun k_ hk => Kd.fresh' (Kd.R_lt (by (with_reducible repeat (first | apply Kd.R_alloc | apply Kd.R_drewN | apply Kd.R_drew)); exact HO_8.out)) k_ hk)); (case aO => exact (by (with_reducible repeat (first | apply Kd.R_alloc | apply Kd.R_drewN | apply Kd.R_drew)); exact HO_10.out)); (case aS => exact (below_size (by repeat (first | (with_reducible first | exact HB.out | apply below_alloc | apply pw_below_drewN | apply below_drew1) | exact HB.out)))); (case aL => have := LMc28.out; omega); intro v177 w31 ho hb hg hat; rw [← Ny176.out] at ho; have n0_ := Aside0.mk (Kd.R_after (ok := (fun _ => True)) (by (with_reducible repeat (first | apply Kd.R_alloc | apply Kd.R_drewN | apply Kd.R_drew)); exact Kd.R_mono HO_8.out (fun _ hk => ⟨trivial, hk⟩)) hg hat); have n1_ := Aside0.mk (hb); have n2_ := Aside0.mk (ho); clear HO_8; clear HB; clear HO_10; have HO_8 := n0_; have HB := n1_; have HO178 := n2_; clear n0_ n1_ n2_; clear ho hb hg hat; have p179 : 0 ≤ (x12_4 : Int) := of_decide_eq_true (by first | (with_reducible assumption) | assumption); have q179 : x12_4 < (x8_3.length : Int) := of_decide_eq_true (by first | (with_reducible assumption) | assumption); obtain ⟨ad179, e179, hx179_0, hx179_1, hx179_2⟩ := at_T28 (Kd.R_reads' HO_8.out).2.2 x12_4 p179 q179; obtain rfl : ad174 = ad179 := (by injection e179); replace p179 := eq_true p179; replace q179 := eq_true q179) | ((with_reducible refine gate_builtin (b := .append) (xs := #[.tmp 99, .tmp 104]) rfl ?_); at_builtin; refine Kd.R_append k28 (w0 := w) w.heap.size rfl (.tmp 99) (.tmp 104) 22 28 (.agg #[(.int .i32 0), (.int .i32 0), (.int .i64 0)]) 16 rfl Tryz.underlying22 info28 rfl (by decide) (by omega) v177 y176 (⟨(rd_T28 x8_3 x12_4).f0, (rd_T28 x8_3 x12_4).f1, (rd_T28 x8_3 x12_4).f2⟩ : S28) [.int .i32 ((rd_T28 x8_3 x12_4).f0), .int .i32 ((rd_T28 x8_3 x12_4).f1), .int .i64 ((rd_T28 x8_3 x12_4).f2)] (fun k_ => some k_ ≠ (.slice (some ad174) x8_3.length co30 : Value).ownBlock) (fun _ => False) rfl rfl ?aP (fun _ hk => hk.elim) ?aF ?aO ?aB ?aS ?aL ?_; (case aP => exact k28_mkM _ _ _ (⟨(rd_T28 x8_3 x12_4).f0, (rd_T28 x8_3 x12_4).f1, (rd_T28 x8_3 x12_4).f2⟩ : S28)); (case aB => exact (by repeat (first | (with_reducible first | exact HB.out | apply below_alloc | apply pw_below_drewN | apply below_drew1) | exact HB.out))); (case aF => exact (fun k_ hk => Kd.fresh' (Kd.R_lt (by (with_reducible repeat (first | apply Kd.R_alloc | apply Kd.R_drewN | apply Kd.R_drew)); exact HO_8.out)) k_ hk)); (case aO => exact (by (with_reducible repeat (first | apply Kd.R_alloc | apply Kd.R_drewN | apply Kd.R_drew)); exact HO178.out)); (case aS => exact (below_size (by repeat (first | (with_reducible first | exact HB.out | apply below_alloc | apply pw_below_drewN | apply below_drew1) | exact HB.out)))); (case aL => have := LMc29.out; omega); intro v181 w32 ho hb hg hat; rw [← Ny180.out] at ho; have n0_ := Aside0.mk (Kd.R_after (ok := (fun _ => True)) (by (with_reducible repeat (first | apply Kd.R_alloc | apply Kd.R_drewN | apply Kd.R_drew)); exact HO_8.out) hg hat); have n1_ := Aside0.mk (hb); have n2_ := Aside0.mk (ho); clear HO_8; clear HB; clear HO178; have HO_8 := n0_; have HB := n1_; have HO182 := n2_; clear n0_ n1_ n2_; clear ho hb hg hat))
                                          repeat (go_quiet (first | ((with_reducible refine gate_builtin (b := .append) (xs := #[.tmp 92, .tmp 97]) rfl ?_); at_builtin; refine Kd.R_append k28 (w0 := w) w.heap.size rfl (.tmp 92) (.tmp 97) 22 28 (.agg #[(.int .i32 0), (.int .i32 0), (.int .i64 0)]) 16 rfl Tryz.underlying22 info28 rfl (by decide) (by omega) u10 x10_4 (⟨(rd_T28 l0 x9_3).f0, (rd_T28 l0 x9_3).f1, (rd_T28 l0 x9_3).f2⟩ : S28) [.int .i32 ((rd_T28 l0 x9_3).f0), .int .i32 ((rd_T28 l0 x9_3).f1), .int .i64 ((rd_T28 l0 x9_3).f2)] (fun k_ => some k_ ≠ (.slice (some ad174) x8_3.length co30 : Value).ownBlock) (fun _ => False) rfl rfl ?aP (fun _ hk => hk.elim) ?aF ?aO ?aB ?aS ?aL ?_; (case aP => exact k28_mkM _ _ _ (⟨(rd_T28 l0 x9_3).f0, (rd_T28 l0 x9_3).f1, (rd_T28 l0 x9_3).f2⟩ : S28)); (case aB => exact (by repeat (first | (with_reducible first | exact HB.out | apply below_alloc | apply pw_below_drewN | apply below_drew1) | exact HB.out))); (case aF => exact (fun k_ hk => Kd.fresh' (Kd.R_lt (by (with_reducible repeat (first | apply Kd.R_alloc | apply Kd.R_drewN | apply Kd.R_drew)); exact HO_8.out)) k_ hk)); (case aO => exact (by (with_reducible repeat (first | apply Kd.R_alloc | apply Kd.R_drewN | apply Kd.R_drew)); exact HO_10.out)); (case aS => exact (below_size (by repeat (first | (with_reducible first | exact HB.out | apply below_alloc | apply pw_below_drewN | apply below_drew1) | exact HB.out)))); (case aL => have := LMc28.out; omega); intro v177 w31 ho hb hg hat; rw [← Ny176.out] at ho; have n0_ := Aside0.mk (Kd.R_after (ok := (fun _ => True)) (by (with_reducible repeat (first | apply Kd.R_alloc | apply Kd.R_drewN | apply Kd.R_drew)); exact Kd.R_mono HO_8.out (fun _ hk => ⟨trivial, hk⟩)) hg hat); have n1_ := Aside0.mk (hb); have n2_ := Aside0.mk (ho); clear HO_8; clear HB; clear HO_10; have HO_8 := n0_; have HB := n1_; have HO178 := n2_; clear n0_ n1_ n2_; clear ho hb hg hat; have p179 : 0 ≤ (x12_4 : Int) := of_decide_eq_true (by first | (with_reducible assumption) | assumption); have q179 : x12_4 < (x8_3.length : Int) := of_decide_eq_true (by first | (with_reducible assumption) | assumption); obtain ⟨ad179, e179, hx179_0, hx179_1, hx179_2⟩ := at_T28 (Kd.R_reads' HO_8.out).2.2 x12_4 p179 q179; obtain rfl : ad174 = ad179 := (by injection e179); replace p179 := eq_true p179; replace q179 := eq_true q179) | ((with_reducible refine gate_builtin (b := .append) (xs := #[.tmp 99, .tmp 104]) rfl ?_); at_builtin; refine Kd.R_append k28 (w0 := w) w.heap.size rfl (.tmp 99) (.tmp 104) 22 28 (.agg #[(.int .i32 0), (.int .i32 0), (.int .i64 0)]) 16 rfl Tryz.underlying22 info28 rfl (by decide) (by omega) v177 y176 (⟨(rd_T28 x8_3 x12_4).f0, (rd_T28 x8_3 x12_4).f1, (rd_T28 x8_3 x12_4).f2⟩ : S28) [.int .i32 ((rd_T28 x8_3 x12_4).f0), .int .i32 ((rd_T28 x8_3 x12_4).f1), .int .i64 ((rd_T28 x8_3 x12_4).f2)] (fun k_ => some k_ ≠ (.slice (some ad174) x8_3.length co30 : Value).ownBlock) (fun _ => False) rfl rfl ?aP (fun _ hk => hk.elim) ?aF ?aO ?aB ?aS ?aL ?_; (case aP => exact k28_mkM _ _ _ (⟨(rd_T28 x8_3 x12_4).f0, (rd_T28 x8_3 x12_4).f1, (rd_T28 x8_3 x12_4).f2⟩ : S28)); (case aB => exact (by repeat (first | (with_reducible first | exact HB.out | apply below_alloc | apply pw_below_drewN | apply below_drew1) | exact HB.out))); (case aF => exact (fun k_ hk => Kd.fresh' (Kd.R_lt (by (with_reducible repeat (first | apply Kd.R_alloc | apply Kd.R_drewN | apply Kd.R_drew)); exact HO_8.out)) k_ hk)); (case aO => exact (by (with_reducible repeat (first | apply Kd.R_alloc | apply Kd.R_drewN | apply Kd.R_drew)); exact HO178.out)); (case aS => exact (below_size (by repeat (first | (with_reducible first | exact HB.out | apply below_alloc | apply pw_below_drewN | apply below_drew1) | exact HB.out)))); (case aL => have := LMc29.out; omega); intro v181 w32 ho hb hg hat; rw [← Ny180.out] at ho; have n0_ := Aside0.mk (Kd.R_after (ok := (fun _ => True)) (by (with_reducible repeat (first | apply Kd.R_alloc | apply Kd.R_drewN | apply Kd.R_drew)); exact HO_8.out) hg hat); have n1_ := Aside0.mk (hb); have n2_ := Aside0.mk (ho); clear HO_8; clear HB; clear HO178; have HO_8 := n0_; have HB := n1_; have HO182 := n2_; clear n0_ n1_ n2_; clear ho hb hg hat)); try go_wp2_with (first | ((with_reducible refine gate_builtin (b := .append) (xs := #[.tmp 92, .tmp 97]) rfl ?_); at_builtin; refine Kd.R_append k28 (w0 := w) w.heap.size rfl (.tmp 92) (.tmp 97) 22 28 (.agg #[(.int .i32 0), (.int .i32 0), (.int .i64 0)]) 16 rfl Tryz.underlying22 info28 rfl (by decide) (by omega) u10 x10_4 (⟨(rd_T28 l0 x9_3).f0, (rd_T28 l0 x9_3).f1, (rd_T28 l0 x9_3).f2⟩ : S28) [.int .i32 ((rd_T28 l0 x9_3).f0), .int .i32 ((rd_T28 l0 x9_3).f1), .int .i64 ((rd_T28 l0 x9_3).f2)] (fun k_ => some k_ ≠ (.slice (some ad174) x8_3.length co30 : Value).ownBlock) (fun _ => False) rfl rfl ?aP (fun _ hk => hk.elim) ?aF ?aO ?aB ?aS ?aL ?_; (case aP => exact k28_mkM _ _ _ (⟨(rd_T28 l0 x9_3).f0, (rd_T28 l0 x9_3).f1, (rd_T28 l0 x9_3).f2⟩ : S28)); (case aB => exact (by repeat (first | (with_reducible first | exact HB.out | apply below_alloc | apply pw_below_drewN | apply below_drew1) | exact HB.out))); (case aF => exact (fun k_ hk => Kd.fresh' (Kd.R_lt (by (with_reducible repeat (first | apply Kd.R_alloc | apply Kd.R_drewN | apply Kd.R_drew)); exact HO_8.out)) k_ hk)); (case aO => exact (by (with_reducible repeat (first | apply Kd.R_alloc | apply Kd.R_drewN | apply Kd.R_drew)); exact HO_10.out)); (case aS => exact (below_size (by repeat (first | (with_reducible first | exact HB.out | apply below_alloc | apply pw_below_drewN | apply below_drew1) | exact HB.out)))); (case aL => have := LMc28.out; omega); intro v177 w31 ho hb hg hat; rw [← Ny176.out] at ho; have n0_ := Aside0.mk (Kd.R_after (ok := (fun _ => True)) (by (with_reducible repeat (first | apply Kd.R_alloc | apply Kd.R_drewN | apply Kd.R_drew)); exact Kd.R_mono HO_8.out (fun _ hk => ⟨trivial, hk⟩)) hg hat); have n1_ := Aside0.mk (hb); have n2_ := Aside0.mk (ho); clear HO_8; clear HB; clear HO_10; have HO_8 := n0_; have HB := n1_; have HO178 := n2_; clear n0_ n1_ n2_; clear ho hb hg hat; have p179 : 0 ≤ (x12_4 : Int) := of_decide_eq_true (by first | (with_reducible assumption) | assumption); have q179 : x12_4 < (x8_3.length : Int) := of_decide_eq_true (by first | (with_reducible assumption) | assumption); obtain ⟨ad179, e179, hx179_0, hx179_1, hx179_2⟩ := at_T28 (Kd.R_reads' HO_8.out).2.2 x12_4 p179 q179; obtain rfl : ad174 = ad179 := (by injection e179); replace p179 := eq_true p179; replace q179 := eq_true q179) | ((with_reducible refine gate_builtin (b := .append) (xs := #[.tmp 99, .tmp 104]) rfl ?_); at_builtin; refine Kd.R_append k28 (w0 := w) w.heap.size rfl (.tmp 99) (.tmp 104) 22 28 (.agg #[(.int .i32 0), (.int .i32 0), (.int .i64 0)]) 16 rfl Tryz.underlying22 info28 rfl (by decide) (by omega) v177 y176 (⟨(rd_T28 x8_3 x12_4).f0, (rd_T28 x8_3 x12_4).f1, (rd_T28 x8_3 x12_4).f2⟩ : S28) [.int .i32 ((rd_T28 x8_3 x12_4).f0), .int .i32 ((rd_T28 x8_3 x12_4).f1), .int .i64 ((rd_T28 x8_3 x12_4).f2)] (fun k_ => some k_ ≠ (.slice (some ad174) x8_3.length co30 : Value).ownBlock) (fun _ => False) rfl rfl ?aP (fun _ hk => hk.elim) ?aF ?aO ?aB ?aS ?aL ?_; (case aP => exact k28_mkM _ _ _ (⟨(rd_T28 x8_3 x12_4).f0, (rd_T28 x8_3 x12_4).f1, (rd_T28 x8_3 x12_4).f2⟩ : S28)); (case aB => exact (by repeat (first | (with_reducible first | exact HB.out | apply below_alloc | apply pw_below_drewN | apply below_drew1) | exact HB.out))); (case aF => exact (fun k_ hk => Kd.fresh' (Kd.R_lt (by (with_reducible repeat (first | apply Kd.R_alloc | apply Kd.R_drewN | apply Kd.R_drew)); exact HO_8.out)) k_ hk)); (case aO => exact (by (with_reducible repeat (first | apply Kd.R_alloc | apply Kd.R_drewN | apply Kd.R_drew)); exact HO178.out)); (case aS => exact (below_size (by repeat (first | (with_reducible first | exact HB.out | apply below_alloc | apply pw_below_drewN | apply below_drew1) | exact HB.out)))); (case aL => have := LMc29.out; omega); intro v181 w32 ho hb hg hat; rw [← Ny180.out] at ho; have n0_ := Aside0.mk (Kd.R_after (ok := (fun _ => True)) (by (with_reducible repeat (first | apply Kd.R_alloc | apply Kd.R_drewN | apply Kd.R_drew)); exact HO_8.out) hg hat); have n1_ := Aside0.mk (hb); have n2_ := Aside0.mk (ho); clear HO_8; clear HB; clear HO178; have HO_8 := n0_; have HB := n1_; have HO182 := n2_; clear n0_ n1_ n2_; clear ho hb hg hat)))
                                          go_roundg k4
                                          case measure => have := HK1.out; have := HK2.out; have := HK3.out; have := HK4.out; omega
                                          case rel => exact ⟨(y180), (true), (wrap64 (x12_4 + 1)), (by first | rfl | (simp; done) | (simp [*]; done)), (by first | rfl | (simp; done) | (simp [*]; done)), H', ⟨by have := HK1.out; have := HK2.out; have := HK3.out; have := HK4.out; omega⟩, ⟨by (with_reducible repeat (first | apply Kd.R_alloc | apply Kd.R_drewN | apply Kd.R_drew)); exact Kd.R_mono HO_8.out (fun _ hk => hk.2)⟩, ⟨by (with_reducible repeat (first | apply Kd.R_alloc | apply Kd.R_drewN | apply Kd.R_drew)); exact HO182.out⟩, ⟨by repeat (first | (with_reducible first | exact HB.out | apply below_alloc | apply pw_below_drewN | apply below_drew1) | exact HB.out)⟩⟩
                                        · rw [if_neg c29] at H
                                          exact absurd H (by simp)
                                      · rw [if_neg c28] at H
                                        exact absurd H (by simp)
                                    · rw [if_neg c27] at H
                                      have c27b0 : decide (((rd_T28 l0 x9_3).f0) < ((rd_T28 x8_3 x12_4).f0)) = false := decide_eq_false c27
                                      clear c27
                                      by_cases c33 : x10_4.length < 8796093022208
                                      · rw [if_pos c33] at H
                                        have LMc33 := Aside0.mk c33
                                        clear c33
                                        obtain ⟨y184, hy184⟩ : ∃ y_ : List (S28), y_ = (x10_4 ++ [(⟨(rd_T28 x8_3 x12_4).f0, (rd_T28 x8_3 x12_4).f1, (rd_T28 x8_3 x12_4).f2⟩ : S28)]) := ⟨_, rfl⟩
                                        replace H : (eponymref03_Build.l4 k4 l0 x8_3 x9_3 y184 false (wrap64 (x12_4 + 1))) = some (r1, r2, r3) := by first | (rw [hy184]; with_reducible exact H) | (have H2_ := (Option.bind_some _ _).symm.trans H; rw [hy184]; with_reducible exact H2_) | (have H2_ := (Option.bind_some _ _).symm.trans H; with_reducible exact H2_) | with_reducible exact H | (rw [hy184]; exact H) | exact H
                                        have Ny184 := Aside0.mk hy184
                                        clear hy184
                                        have H' := Aside0.mk H
                                        clear H
                                        obtain ⟨Ao34, co34, eo34⟩ := Kd.R_slice HO_8.out
                                        subst eo34
                                        have p173 : 0 ≤ (x9_3 : Int) := of_decide_eq_true (by first | (with_reducible assumption) | assumption)
                                        have q173 : x9_3 < (l0.length : Int) := of_decide_eq_true (by first | (with_reducible assumption) | assumption)
                                        obtain ⟨ad173, e173, hx173_0, hx173_1, hx173_2⟩ := at_T28 HR0.out x9_3 p173 q173
                                        cases e173
                                        replace hx173_0 := (HB.out.cell (World.block_lt_of_cell? w _ hx173_0)).trans hx173_0
                                        replace hx173_1 := (HB.out.cell (World.block_lt_of_cell? w _ hx173_1)).trans hx173_1
                                        replace hx173_2 := (HB.out.cell (World.block_lt_of_cell? w _ hx173_2)).trans hx173_2
                                        replace p173 := eq_true p173
                                        replace q173 := eq_true q173
                                        have p174 : 0 ≤ (x12_4 : Int) := of_decide_eq_true (by first | (with_reducible assumption) | assumption)
                                        have q174 : x12_4 < (x8_3.length : Int) := of_decide_eq_true (by first | (with_reducible assumption) | assumption)
                                        obtain ⟨ad174, e174, hx174_0, hx174_1, hx174_2⟩ := at_T28 (Kd.R_reads' HO_8.out).2.2 x12_4 p174 q174
                                        cases e174
                                        replace p174 := eq_true p174
                                        replace q174 := eq_true q174
                                        have p183 : 0 ≤ (x12_4 : Int) := of_decide_eq_true (by first | (with_reducible assumption) | assumption)
                                        have q183 : x12_4 < (x8_3.length : Int) := of_decide_eq_true (by first | (with_reducible assumption) | assumption)
                                        obtain ⟨ad183, e183, hx183_0, hx183_1, hx183_2⟩ := at_T28 (Kd.R_reads' HO_8.out).2.2 x12_4 p183 q183
                                        obtain rfl : ad174 = ad183 := (by injection e183)
                                        replace p183 := eq_true p183
                                        replace q183 := eq_true q183
                                        go_wp2_with (first | ((with_reducible refine gate_builtin (b := .append) (xs := #[.tmp 99, .tmp 104]) rfl ?_); at_builtin; refine Kd.R_append k28 (w0 := w) w.heap.size rfl (.tmp 99) (.tmp 104) 22 28 (.agg #[(.int .i32 0), (.int .i32 0), (.int .i64 0)]) 16 rfl Tryz.underlying22 info28 rfl (by decide) (by omega) u10 x10_4 (⟨(rd_T28 x8_3 x12_4).f0, (rd_T28 x8_3 x12_4).f1, (rd_T28 x8_3 x12_4).f2⟩ : S28) [.int .i32 ((rd_T28 x8_3 x12_4).f0), .int .i32 ((rd_T28 x8_3 x12_4).f1), .int .i64 ((rd_T28 x8_3 x12_4).f2)] (fun k_ => some k_ ≠ (.slice (some ad174) x8_3.length co34 : Value).ownBlock) (fun _ => False) rfl rfl ?aP (fun _ hk => hk.elim) ?aF ?aO ?aB ?aS ?aL ?_; (case aP => exact k28_mkM _ _ _ (⟨(rd_T28 x8_3 x12_4).f0, (rd_T28 x8_3 x12_4).f1, (rd_T28 x8_3 x12_4).f2⟩ : S28)); (case aB => exact (by repeat (first | (with_reducible first | exact HB.out | apply below_alloc | apply pw_below_drewN | apply below_drew1) | exact HB.out))); (case aF => exact (fun k_ hk => Kd.fresh' (Kd.R_lt (by (with_reducible repeat (first | apply Kd.R_alloc | apply Kd.R_drewN | apply Kd.R_drew)); exact HO_8.out)) k_ hk)); (case aO => exact (by (with_reducible repeat (first | apply Kd.R_alloc | apply Kd.R_drewN | apply Kd.R_drew)); exact HO_10.out)); (case aS => exact (below_size (by repeat (first | (with_reducible first | exact HB.out | apply below_alloc | apply pw_below_drewN | apply below_drew1) | exact HB.out)))); (case aL => have := LMc33.out; omega); intro v185 w35 ho hb hg hat; rw [← Ny184.out] at ho; have n0_ := Aside0.mk (Kd.R_after (ok := (fun _ => True)) (by (with_reducible repeat (first | apply Kd.R_alloc | apply Kd.R_drewN | apply Kd.R_drew)); exact Kd.R_mono HO_8.out (fun _ hk => ⟨trivial, hk⟩)) hg hat); have n1_ := Aside0.mk (hb); have n2_ := Aside0.mk (ho); clear HO_8; clear HB; clear HO_10; have HO_8 := n0_; have HB := n1_; have HO186 := n2_; clear n0_ n1_ n2_; clear ho hb hg hat))
                                        repeat (go_quiet (first | ((with_reducible refine gate_builtin (b := .append) (xs := #[.tmp 99, .tmp 104]) rfl ?_); at_builtin; refine Kd.R_append k28 (w0 := w) w.heap.size rfl (.tmp 99) (.tmp 104) 22 28 (.agg #[(.int .i32 0), (.int .i32 0), (.int .i64 0)]) 16 rfl Tryz.underlying22 info28 rfl (by decide) (by omega) u10 x10_4 (⟨(rd_T28 x8_3 x12_4).f0, (rd_T28 x8_3 x12_4).f1, (rd_T28 x8_3 x12_4).f2⟩ : S28) [.int .i32 ((rd_T28 x8_3 x12_4).f0), .int .i32 ((rd_T28 x8_3 x12_4).f1), .int .i64 ((rd_T28 x8_3 x12_4).f2)] (fun k_ => some k_ ≠ (.slice (some ad174) x8_3.length co34 : Value).ownBlock) (fun _ => False) rfl rfl ?aP (fun _ hk => hk.elim) ?aF ?aO ?aB ?aS ?aL ?_; (case aP => exact k28_mkM _ _ _ (⟨(rd_T28 x8_3 x12_4).f0, (rd_T28 x8_3 x12_4).f1, (rd_T28 x8_3 x12_4).f2⟩ : S28)); (case aB => exact (by repeat (first | (with_reducible first | exact HB.out | apply below_alloc | apply pw_below_drewN | apply below_drew1) | exact HB.out))); (case aF => exact (fun k_ hk => Kd.fresh' (Kd.R_lt (by (with_reducible repeat (first | apply Kd.R_alloc | apply Kd.R_drewN | apply Kd.R_drew)); exact HO_8.out)) k_ hk)); (case aO => exact (by (with_reducible repeat (first | apply Kd.R_alloc | apply Kd.R_drewN | apply Kd.R_drew)); exact HO_10.out)); (case aS => exact (below_size (by repeat (first | (with_reducible first | exact HB.out | apply below_alloc | apply pw_below_drewN | apply below_drew1) | exact HB.out)))); (case aL => have := LMc33.out; omega); intro v185 w35 ho hb hg hat; rw [← Ny184.out] at ho; have n0_ := Aside0.mk (Kd.R_after (ok := (fun _ => True)) (by (with_reducible repeat (first | apply Kd.R_alloc | apply Kd.R_drewN | apply Kd.R_drew)); exact Kd.R_mono HO_8.out (fun _ hk => ⟨trivial, hk⟩)) hg hat); have n1_ := Aside0.mk (hb); have n2_ := Aside0.mk (ho); clear HO_8; clear HB; clear HO_10; have HO_8 := n0_; have HB := n1_; have HO186 := n2_; clear n0_ n1_ n2_; clear ho hb hg hat)); try go_wp2_with (first | ((with_reducible refine gate_builtin (b := .append) (xs := #[.tmp 99, .tmp 104]) rfl ?_); at_builtin; refine Kd.R_append k28 (w0 := w) w.heap.size rfl (.tmp 99) (.tmp 104) 22 28 (.agg #[(.int .i32 0), (.int .i32 0), (.int .i64 0)]) 16 rfl Tryz.underlying22 info28 rfl (by decide) (by omega) u10 x10_4 (⟨(rd_T28 x8_3 x12_4).f0, (rd_T28 x8_3 x12_4).f1, (rd_T28 x8_3 x12_4).f2⟩ : S28) [.int .i32 ((rd_T28 x8_3 x12_4).f0), .int .i32 ((rd_T28 x8_3 x12_4).f1), .int .i64 ((rd_T28 x8_3 x12_4).f2)] (fun k_ => some k_ ≠ (.slice (some ad174) x8_3.length co34 : Value).ownBlock) (fun _ => False) rfl rfl ?aP (fun _ hk => hk.elim) ?aF ?aO ?aB ?aS ?aL ?_; (case aP => exact k28_mkM _ _ _ (⟨(rd_T28 x8_3 x12_4).f0, (rd_T28 x8_3 x12_4).f1, (rd_T28 x8_3 x12_4).f2⟩ : S28)); (case aB => exact (by repeat (first | (with_reducible first | exact HB.out | apply below_alloc | apply pw_below_drewN | apply below_drew1) | exact HB.out))); (case aF => exact (fun k_ hk => Kd.fresh' (Kd.R_lt (by (with_reducible repeat (first | apply Kd.R_alloc | apply Kd.R_drewN | apply Kd.R_drew)); exact HO_8.out)) k_ hk)); (case aO => exact (by (with_reducible repeat (first | apply Kd.R_alloc | apply Kd.R_drewN | apply Kd.R_drew)); exact HO_10.out)); (case aS => exact (below_size (by repeat (first | (with_reducible first | exact HB.out | apply below_alloc | apply pw_below_drewN | apply below_drew1) | exact HB.out)))); (case aL => have := LMc33.out; omega); intro v185 w35 ho hb hg hat; rw [← Ny184.out] at ho; have n0_ := Aside0.mk (Kd.R_after (ok := (fun _ => True)) (by (with_reducible repeat (first | apply Kd.R_alloc | apply Kd.R_drewN | apply Kd.R_drew)); exact Kd.R_mono HO_8.out (fun _ hk => ⟨trivial, hk⟩)) hg hat); have n1_ := Aside0.mk (hb); have n2_ := Aside0.mk (ho); clear HO_8; clear HB; clear HO_10; have HO_8 := n0_; have HB := n1_; have HO186 := n2_; clear n0_ n1_ n2_; clear ho hb hg hat)))
                                        go_roundg k4
                                        case measure => have := HK1.out; have := HK2.out; have := HK3.out; have := HK4.out; omega
                                        case rel => exact ⟨(y184), (false), (wrap64 (x12_4 + 1)), (by first | rfl | (simp; done) | (simp [*]; done)), (by first | rfl | (simp; done) | (simp [*]; done)), H', ⟨by have := HK1.out; have := HK2.out; have := HK3.out; have := HK4.out; omega⟩, ⟨by (with_reducible repeat (first | apply Kd.R_alloc | apply Kd.R_drewN | apply Kd.R_drew)); exact Kd.R_mono HO_8.out (fun _ hk => hk.2)⟩, ⟨by (with_reducible repeat (first | apply Kd.R_alloc | apply Kd.R_drewN | apply Kd.R_drew)); exact HO186.out⟩, ⟨by repeat (first | (with_reducible first | exact HB.out | apply below_alloc | apply pw_below_drewN | apply below_drew1) | exact HB.out)⟩⟩
                                      · rw [if_neg c33] at H
                                        exact absurd H (by simp)
                                  · rw [if_neg c26] at H
                                    exact absurd H (by simp)
                                · rw [if_neg c25] at H
                                  exact absurd H (by simp)
                              · rw [if_neg c24] at H
                                exact absurd H (by simp)
                          · rw [if_neg c18] at H
                            have c18b0 : decide (x12_4 < (x8_3.length : Int)) = false := decide_eq_false c18
                            clear c18
                            by_cases c36 : x11_4 = true
                            · subst c36
                              have H1 : (eponymref03_Build.l3 k4 l0 x10_4 (wrap64 (x9_3 + 1))) = some (r1, r2, r3) := by rw [if_pos rfl] at H; exact H
                              clear H
                              have H := H1
                              clear H1
                              have H' := Aside0.mk H
                              clear H
                              obtain ⟨Ao37, co37, eo37⟩ := Kd.R_slice HO_8.out
                              subst eo37
                              go_wp2
                              repeat (go_quiet (fail); try go_wp2)
                              go_roundg k4
                              case measure => have := HK1.out; have := HK2.out; have := HK3.out; have := HK4.out; omega
                              case rel => exact ⟨(x10_4), (wrap64 (x9_3 + 1)), (by first | rfl | (simp; done) | (simp [*]; done)), H', ⟨by have := HK1.out; have := HK2.out; have := HK3.out; have := HK4.out; omega⟩, ⟨by (with_reducible repeat (first | apply Kd.R_alloc | apply Kd.R_drewN | apply Kd.R_drew)); exact Kd.R_mono HO_10.out (fun _ hk => trivial)⟩, ⟨by repeat (first | (with_reducible first | exact HB.out | apply below_alloc | apply pw_below_drewN | apply below_drew1) | exact HB.out)⟩⟩
                            · replace c36 := Bool.eq_false_iff.mpr c36
                              subst c36
                              have H1 : (if 0 ≤ x9_3 then (if x9_3 < (l0.length : Int) then (if x10_4.length < 8796093022208 then (eponymref03_Build.l3 k4 l0 (x10_4 ++ [(⟨(rd_T28 l0 x9_3).f0, (rd_T28 l0 x9_3).f1, (rd_T28 l0 x9_3).f2⟩ : S28)]) (wrap64 (x9_3 + 1))) else (none)) else (none)) else (none)) = some (r1, r2, r3) := by rw [if_neg (show ¬ (false = true) by decide)] at H; exact H
                              clear H
                              have H := H1
                              clear H1
                              by_cases c38 : 0 ≤ x9_3
                              · rw [if_pos c38] at H
                                have c38b0 : decide (0 ≤ x9_3) = true := decide_eq_true c38
                                clear c38
                                by_cases c39 : x9_3 < (l0.length : Int)
                                · rw [if_pos c39] at H
                                  have c39b0 : decide (x9_3 < (l0.length : Int)) = true := decide_eq_true c39
                                  clear c39
                                  by_cases c40 : x10_4.length < 8796093022208
                                  · rw [if_pos c40] at H
                                    have LMc40 := Aside0.mk c40
                                    clear c40
                                    obtain ⟨y188, hy188⟩ : ∃ y_ : List (S28), y_ = (x10_4 ++ [(⟨(rd_T28 l0 x9_3).f0, (rd_T28 l0 x9_3).f1, (rd_T28 l0 x9_3).f2⟩ : S28)]) := ⟨_, rfl⟩
                                    replace H : (eponymref03_Build.l3 k4 l0 y188 (wrap64 (x9_3 + 1))) = some (r1, r2, r3) := by first | (rw [hy188]; with_reducible exact H) | (have H2_ := (Option.bind_some _ _).symm.trans H; rw [hy188]; with_reducible exact H2_) | (have H2_ := (Option.bind_some _ _).symm.trans H; with_reducible exact H2_) | with_reducible exact H | (rw [hy188]; exact H) | exact H
                                    have Ny188 := Aside0.mk hy188
                                    clear hy188
                                    have H' := Aside0.mk H
                                    clear H
                                    obtain ⟨Ao41, co41, eo41⟩ := Kd.R_slice HO_8.out
                                    subst eo41
                                    have p187 : 0 ≤ (x9_3 : Int) := of_decide_eq_true (by first | (with_reducible assumption) | assumption)
                                    have q187 : x9_3 < (l0.length : Int) := of_decide_eq_true (by first | (with_reducible assumption) | assumption)
                                    obtain ⟨ad187, e187, hx187_0, hx187_1, hx187_2⟩ := at_T28 HR0.out x9_3 p187 q187
                                    cases e187
                                    replace hx187_0 := (HB.out.cell (World.block_lt_of_cell? w _ hx187_0)).trans hx187_0
                                    replace hx187_1 := (HB.out.cell (World.block_lt_of_cell? w _ hx187_1)).trans hx187_1
                                    replace hx187_2 := (HB.out.cell (World.block_lt_of_cell? w _ hx187_2)).trans hx187_2
                                    replace p187 := eq_true p187
                                    replace q187 := eq_true q187
                                    go_wp2_with (first | ((with_reducible refine gate_builtin (b := .append) (xs := #[.tmp 108, .tmp 113]) rfl ?_); at_builtin; refine Kd.R_append k28 (w0 := w) w.heap.size rfl (.tmp 108) (.tmp 113) 22 28 (.agg #[(.int .i32 0), (.int .i32 0), (.int .i64 0)]) 16 rfl Tryz.underlying22 info28 rfl (by decide) (by omega) u10 x10_4 (⟨(rd_T28 l0 x9_3).f0, (rd_T28 l0 x9_3).f1, (rd_T28 l0 x9_3).f2⟩ : S28) [.int .i32 ((rd_T28 l0 x9_3).f0), .int .i32 ((rd_T28 l0 x9_3).f1), .int .i64 ((rd_T28 l0 x9_3).f2)] (fun k_ => some k_ ≠ (.slice Ao41 x8_3.length co41 : Value).ownBlock) (fun _ => False) rfl rfl ?aP (fun _ hk => hk.elim) ?aF ?aO ?aB ?aS ?aL ?_; (case aP => exact k28_mkM _ _ _ (⟨(rd_T28 l0 x9_3).f0, (rd_T28 l0 x9_3).f1, (rd_T28 l0 x9_3).f2⟩ : S28)); (case aB => exact (by repeat (first | (with_reducible first | exact HB.out | apply below_alloc | apply pw_below_drewN | apply below_drew1) | exact HB.out))); (case aF => exact (fun k_ hk => Kd.fresh' (Kd.R_lt (by (with_reducible repeat (first | apply Kd.R_alloc | apply Kd.R_drewN | apply Kd.R_drew)); exact HO_8.out)) k_ hk)); (case aO => exact (by (with_reducible repeat (first | apply Kd.R_alloc | apply Kd.R_drewN | apply Kd.R_drew)); exact HO_10.out)); (case aS => exact (below_size (by repeat (first | (with_reducible first | exact HB.out | apply below_alloc | apply pw_below_drewN | apply below_drew1) | exact HB.out)))); (case aL => have := LMc40.out; omega); intro v189 w42 ho hb hg hat; rw [← Ny188.out] at ho; have n0_ := Aside0.mk (Kd.R_after (ok := (fun _ => True)) (by (with_reducible repeat (first | apply Kd.R_alloc | apply Kd.R_drewN | apply Kd.R_drew)); exact Kd.R_mono HO_8.out (fun _ hk => ⟨trivial, hk⟩)) hg hat); have n1_ := Aside0.mk (hb); have n2_ := Aside0.mk (ho); clear HO_8; clear HB; clear HO_10; have HO_8 := n0_; have HB := n1_; have HO190 := n2_; clear n0_ n1_ n2_; clear ho hb hg hat))
                                    repeat (go_quiet (first | ((with_reducible refine gate_builtin (b := .append) (xs := #[.tmp 108, .tmp 113]) rfl ?_); at_builtin; refine Kd.R_append k28 (w0 := w) w.heap.size rfl (.tmp 108) (.tmp 113) 22 28 (.agg #[(.int .i32 0), (.int .i32 0), (.int .i64 0)]) 16 rfl Tryz.underlying22 info28 rfl (by decide) (by omega) u10 x10_4 (⟨(rd_T28 l0 x9_3).f0, (rd_T28 l0 x9_3).f1, (rd_T28 l0 x9_3).f2⟩ : S28) [.int .i32 ((rd_T28 l0 x9_3).f0), .int .i32 ((rd_T28 l0 x9_3).f1), .int .i64 ((rd_T28 l0 x9_3).f2)] (fun k_ => some k_ ≠ (.slice Ao41 x8_3.length co41 : Value).ownBlock) (fun _ => False) rfl rfl ?aP (fun _ hk => hk.elim) ?aF ?aO ?aB ?aS ?aL ?_; (case aP => exact k28_mkM _ _ _ (⟨(rd_T28 l0 x9_3).f0, (rd_T28 l0 x9_3).f1, (rd_T28 l0 x9_3).f2⟩ : S28)); (case aB => exact (by repeat (first | (with_reducible first | exact HB.out | apply below_alloc | apply pw_below_drewN | apply below_drew1) | exact HB.out))); (case aF => exact (fun k_ hk => Kd.fresh' (Kd.R_lt (by (with_reducible repeat (first | apply Kd.R_alloc | apply Kd.R_drewN | apply Kd.R_drew)); exact HO_8.out)) k_ hk)); (case aO => exact (by (with_reducible repeat (first | apply Kd.R_alloc | apply Kd.R_drewN | apply Kd.R_drew)); exact HO_10.out)); (case aS => exact (below_size (by repeat (first | (with_reducible first | exact HB.out | apply below_alloc | apply pw_below_drewN | apply below_drew1) | exact HB.out)))); (case aL => have := LMc40.out; omega); intro v189 w42 ho hb hg hat; rw [← Ny188.out] at ho; have n0_ := Aside0.mk (Kd.R_after (ok := (fun _ => True)) (by (with_reducible repeat (first | apply Kd.R_alloc | apply Kd.R_drewN | apply Kd.R_drew)); exact Kd.R_mono HO_8.out (fun _ hk => ⟨trivial, hk⟩)) hg hat); have n1_ := Aside0.mk (hb); have n2_ := Aside0.mk (ho); clear HO_8; clear HB; clear HO_10; have HO_8 := n0_; have HB := n1_; have HO190 := n2_; clear n0_ n1_ n2_; clear ho hb hg hat)); try go_wp2_with (first | ((with_reducible refine gate_builtin (b := .append) (xs := #[.tmp 108, .tmp 113]) rfl ?_); at_builtin; refine Kd.R_append k28 (w0 := w) w.heap.size rfl (.tmp 108) (.tmp 113) 22 28 (.agg #[(.int .i32 0), (.int .i32 0), (.int .i64 0)]) 16 rfl Tryz.underlying22 info28 rfl (by decide) (by omega) u10 x10_4 (⟨(rd_T28 l0 x9_3).f0, (rd_T28 l0 x9_3).f1, (rd_T28 l0 x9_3).f2⟩ : S28) [.int .i32 ((rd_T28 l0 x9_3).f0), .int .i32 ((rd_T28 l0 x9_3).f1), .int .i64 ((rd_T28 l0 x9_3).f2)] (fun k_ => some k_ ≠ (.slice Ao41 x8_3.length co41 : Value).ownBlock) (fun _ => False) rfl rfl ?aP (fun _ hk => hk.elim) ?aF ?aO ?aB ?aS ?aL ?_; (case aP => exact k28_mkM _ _ _ (⟨(rd_T28 l0 x9_3).f0, (rd_T28 l0 x9_3).f1, (rd_T28 l0 x9_3).f2⟩ : S28)); (case aB => exact (by repeat (first | (with_reducible first | exact HB.out | apply below_alloc | apply pw_below_drewN | apply below_drew1) | exact HB.out))); (case aF => exact (fun k_ hk => Kd.fresh' (Kd.R_lt (by (with_reducible repeat (first | apply Kd.R_alloc | apply Kd.R_drewN | apply Kd.R_drew)); exact HO_8.out)) k_ hk)); (case aO => exact (by (with_reducible repeat (first | apply Kd.R_alloc | apply Kd.R_drewN | apply Kd.R_drew)); exact HO_10.out)); (case aS => exact (below_size (by repeat (first | (with_reducible first | exact HB.out | apply below_alloc | apply pw_below_drewN | apply below_drew1) | exact HB.out)))); (case aL => have := LMc40.out; omega); intro v189 w42 ho hb hg hat; rw [← Ny188.out] at ho; have n0_ := Aside0.mk (Kd.R_after (ok := (fun _ => True)) (by (with_reducible repeat (first | apply Kd.R_alloc | apply Kd.R_drewN | apply Kd.R_drew)); exact Kd.R_mono HO_8.out (fun _ hk => ⟨trivial, hk⟩)) hg hat); have n1_ := Aside0.mk (hb); have n2_ := Aside0.mk (ho); clear HO_8; clear HB; clear HO_10; have HO_8 := n0_; have HB := n1_; have HO190 := n2_; clear n0_ n1_ n2_; clear ho hb hg hat)))
                                    go_roundg k4
                                    case measure => have := HK1.out; have := HK2.out; have := HK3.out; have := HK4.out; omega
                                    case rel => exact ⟨(y188), (wrap64 (x9_3 + 1)), (by first | rfl | (simp; done) | (simp [*]; done)), H', ⟨by have := HK1.out; have := HK2.out; have := HK3.out; have := HK4.out; omega⟩, ⟨by (with_reducible repeat (first | apply Kd.R_alloc | apply Kd.R_drewN | apply Kd.R_drew)); exact Kd.R_mono HO190.out (fun _ hk => trivial)⟩, ⟨by repeat (first | (with_reducible first | exact HB.out | apply below_alloc | apply pw_below_drewN | apply below_drew1) | exact HB.out)⟩⟩
                                  · rw [if_neg c40] at H
                                    exact absurd H (by simp)
                                · rw [if_neg c39] at H
                                  exact absurd H (by simp)
                              · rw [if_neg c38] at H
                                exact absurd H (by simp)
                    · rw [if_neg c17] at H
                      have c17b0 : decide (x9_3 < (l0.length : Int)) = false := decide_eq_false c17
                      clear c17
                      simp only [Option.some.injEq, Prod.mk.injEq] at H
                      obtain ⟨rfl, rfl, rfl⟩ := H
                      go_wp2
                      repeat (go_quiet (fail); try go_wp2)
                      go_ret3
                      exact ⟨_, by first | rfl | (simp [errW_none, errW_some] <;> rfl) | (simp [*, errW_none, errW_some] <;> rfl), by (with_reducible repeat (first | apply Kd.R_alloc | apply Kd.R_drewN | apply Kd.R_drew)); exact HO_8.out, by repeat (first | (with_reducible first | exact HB.out | apply below_alloc | apply pw_below_drewN | apply below_drew1) | exact HB.out)⟩

end Go.Proofs.YthggpjiabklekaaGreatDoor.PRg
