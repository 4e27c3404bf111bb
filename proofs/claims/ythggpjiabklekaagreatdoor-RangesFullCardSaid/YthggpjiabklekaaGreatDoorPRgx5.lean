-- Printed by a program of this claim's author (wip/tools), out of the translation. Not trusted: Lean checks it.
import Derived.Test.YthggpjiabklekaaGreatDoorPRgx0
import Derived.Test.YthggpjiabklekaaGreatDoorPRgx1
import Derived.Test.YthggpjiabklekaaGreatDoorExt
namespace Go.Proofs.YthggpjiabklekaaGreatDoor.PRg
open Go.RowKit Go.Proofs.YthggpjiabklekaaGreatDoorW.PrintWords Go.Proofs.YthggpjiabklekaaGreatDoorW.PrintLast Go.Proofs.YthggpjiabklekaaGreatDoorW.PrintMore
attribute [local go_sem] max2_int min2_int max_two min_two max_three min_three max_four min_four   -- for this text's walks alone
set_option linter.unusedVariables false
set_option linter.unusedSimpArgs false

attribute [local go_sem high] eqA28
/-! ### eponymref03_Same: function 18 -/
def eponymref03_Same.l0 : Nat → List (S28) → List (S28) → Int → Option (Bool)
  | 0, _, _, _ => none
  | k + 1, x0, x1, x5 => if x5 < (x0.length : Int) then (if 0 ≤ x5 then (if x5 < (x1.length : Int) then (if (!(((rd_T28 x0 x5).f0) == ((rd_T28 x1 x5).f0)) || (!(((rd_T28 x0 x5).f1) == ((rd_T28 x1 x5).f1)) || (!(((rd_T28 x0 x5).f2) == ((rd_T28 x1 x5).f2))))) = true then (some false) else (eponymref03_Same.l0 k x0 x1 (wrap64 (x5 + 1)))) else (none)) else (none)) else (some true)
def eponymref03_Same.f (k : Nat) (l0 : List (S28)) (l1 : List (S28)) : Option (Bool) := if (l0.length : Int) = (l1.length : Int) then (eponymref03_Same.l0 k l0 l1 0) else (some false)
theorem eponymref03_Same.mono_l : ∀ k, (∀ y0 y1 y2, LeO (eponymref03_Same.l0 k y0 y1 y2) (eponymref03_Same.l0 (k + 1) y0 y1 y2))
  | 0 => fun _ _ _ r h => by simp [eponymref03_Same.l0] at h
  | k + 1 => by
    have ih0 := eponymref03_Same.mono_l k
    · intro y0 y1 y2
      unfold eponymref03_Same.l0
      repeat' first
      | (with_reducible exact ih0 _ _ _)
      | (with_reducible exact LeO.refl _)
      | (with_reducible exact LeO.none _)
      | (with_reducible refine LeO.ite ?_ ?_)
      | (with_reducible refine LeO.bind ?_ (fun _ => ?_))
      | exact ih0 _ _ _
      | exact LeO.none _
      | refine LeO.ite ?_ ?_
      | refine LeO.bind ?_ (fun _ => ?_)
theorem eponymref03_Same.mono : ∀ a0 a1 k, LeO (eponymref03_Same.f k a0 a1) (eponymref03_Same.f (k + 1) a0 a1) := by
  intro a0 a1 k
  have ih0 := eponymref03_Same.mono_l k
  unfold eponymref03_Same.f
  repeat' first
      | (with_reducible exact ih0 _ _ _)
      | (with_reducible exact LeO.refl _)
      | (with_reducible exact LeO.none _)
      | (with_reducible refine LeO.ite ?_ ?_)
      | (with_reducible refine LeO.bind ?_ (fun _ => ?_))
      | exact ih0 _ _ _
      | exact LeO.none _
      | refine LeO.ite ?_ ?_
      | refine LeO.bind ?_ (fun _ => ?_)
set_option maxHeartbeats 8000000 in
set_option maxRecDepth 100000 in
theorem eponymref03_Same.calls (k : Nat) (A0 : Option Addr) (c0 : Nat) (l0 : List (S28)) (A1 : Option Addr) (c1 : Nat) (l1 : List (S28)) (r : Bool) (w : World) (hr0 : Kd.C k28 w A0 l0.length l0) (hc0 : l0.length ≤ c0) (hr1 : Kd.C k28 w A1 l1.length l1) (hc1 : l1.length ≤ c1) (h : eponymref03_Same.f k l0 l1 = some r) :
    Calls Tryz.prog 18 #[.slice A0 l0.length c0, .slice A1 l1.length c1] w fun e w' => e = .returned (.bool r) ∧ Drawn0 w w' := by
  have hu28 := Tryz.underlying28
  have HR0 := Aside0.mk hr0
  have HC0 := Aside0.mk hc0
  clear hr0 hc0
  have HR1 := Aside0.mk hr1
  have HC1 := Aside0.mk hc1
  clear hr1 hc1
  have H : (if (l0.length : Int) = (l1.length : Int) then (eponymref03_Same.l0 k l0 l1 0) else (some false)) = some r := h
  clear h
  by_cases c3 : (l0.length : Int) = (l1.length : Int)
  · rw [if_pos c3] at H
    have c3b0 : ((l0.length : Int) == (l1.length : Int)) = true := beq_iff_eq.mpr c3
    have c3b1 : ((l0.length : Int) != (l1.length : Int)) = false := bne_eq_false_iff_eq.mpr c3
    have c3b2 : (l0.length == l1.length) = true := by first | simpa using c3 | (simp at c3 ⊢; omega)
    clear c3
    have H' := Aside0.mk H
    clear H
    go_enter Tryz.func18, Tryz.ntmps18
    go_wp2
    repeat (go_quiet (fail); try go_wp2)
    go_loopg [5] k (fun kq v5 w' => ∃ (x5_1 : Int), v5 = .int .i64 x5_1 ∧ Aside0 (eponymref03_Same.l0 kq l0 l1 x5_1 = some r) ∧ Aside0 (kq ≤ k) ∧ Drawn0 w w')
    case atStart => exact ⟨(0), (by first | rfl | (simp; done) | (simp [*]; done)), H', ⟨Nat.le_refl _⟩, by repeat (first | exact Drawn0.refl _ | apply Drawn0.step)⟩
    case round =>
      clear H'
      try clear c1
      try clear p2
      try clear c3
      try clear c3b0
      try clear c3b1
      try clear c3b2
      obtain ⟨x5_1, rfl, HA, HK1, ⟨m1, rfl⟩⟩ := hrel
      cases gk with
      | zero => exact absurd HA.out (by simp [eponymref03_Same.l0])
      | succ k1 =>
        have H := HA.out
        clear HA
        simp only [eponymref03_Same.l0] at H
        by_cases c4 : x5_1 < (l0.length : Int)
        · rw [if_pos c4] at H
          have c4b0 : decide (x5_1 < (l0.length : Int)) = true := decide_eq_true c4
          clear c4
          by_cases c5 : 0 ≤ x5_1
          · rw [if_pos c5] at H
            have c5b0 : decide (0 ≤ x5_1) = true := decide_eq_true c5
            clear c5
            by_cases c6 : x5_1 < (l1.length : Int)
            · rw [if_pos c6] at H
              have c6b0 : decide (x5_1 < (l1.length : Int)) = true := decide_eq_true c6
              clear c6
              by_cases c7 : (!(((rd_T28 l0 x5_1).f0) == ((rd_T28 l1 x5_1).f0)) || (!(((rd_T28 l0 x5_1).f1) == ((rd_T28 l1 x5_1).f1)) || (!(((rd_T28 l0 x5_1).f2) == ((rd_T28 l1 x5_1).f2))))) = true
              · rw [if_pos c7] at H
                have c7b0 : (!(((rd_T28 l0 x5_1).f0) == ((rd_T28 l1 x5_1).f0)) || (!(((rd_T28 l0 x5_1).f1) == ((rd_T28 l1 x5_1).f1)) || (!(((rd_T28 l0 x5_1).f2) == ((rd_T28 l1 x5_1).f2))))) = true := c7
                clear c7
                obtain rfl := Option.some.inj H
                have p191 : 0 ≤ (x5_1 : Int) := of_decide_eq_true (by first | (with_reducible assumption) | assumption)
                have q191 : x5_1 < (l0.length : Int) := of_decide_eq_true (by first | (with_reducible assumption) | assumption)
                obtain ⟨ad191, e191, hx191_0, hx191_1, hx191_2⟩ := at_T28 HR0.out x5_1 p191 q191
                cases e191
                replace p191 := eq_true p191
                replace q191 := eq_true q191
                have p192 : 0 ≤ (x5_1 : Int) := of_decide_eq_true (by first | (with_reducible assumption) | assumption)
                have q192 : x5_1 < (l1.length : Int) := of_decide_eq_true (by first | (with_reducible assumption) | assumption)
                obtain ⟨ad192, e192, hx192_0, hx192_1, hx192_2⟩ := at_T28 HR1.out x5_1 p192 q192
                cases e192
                replace p192 := eq_true p192
                replace q192 := eq_true q192
                go_wp2
                repeat (go_quiet (fail); try go_wp2)
                go_ret
                exact ⟨by first | rfl | (simp; done) | (simp [*]; done), by repeat (first | exact Drawn0.refl _ | apply Drawn0.step)⟩
              · rw [if_neg c7] at H
                have c7b0 : (!(((rd_T28 l0 x5_1).f0) == ((rd_T28 l1 x5_1).f0)) || (!(((rd_T28 l0 x5_1).f1) == ((rd_T28 l1 x5_1).f1)) || (!(((rd_T28 l0 x5_1).f2) == ((rd_T28 l1 x5_1).f2))))) = false := by simpa using c7
                clear c7
                have H' := Aside0.mk H
                clear H
                have p191 : 0 ≤ (x5_1 : Int) := of_decide_eq_true (by first | (with_reducible assumption) | assumption)
                have q191 : x5_1 < (l0.length : Int) := of_decide_eq_true (by first | (with_reducible assumption) | assumption)
                obtain ⟨ad191, e191, hx191_0, hx191_1, hx191_2⟩ := at_T28 HR0.out x5_1 p191 q191
                cases e191
                replace p191 := eq_true p191
                replace q191 := eq_true q191
                have p192 : 0 ≤ (x5_1 : Int) := of_decide_eq_true (by first | (with_reducible assumption) | assumption)
                have q192 : x5_1 < (l1.length : Int) := of_decide_eq_true (by first | (with_reducible assumption) | assumption)
                obtain ⟨ad192, e192, hx192_0, hx192_1, hx192_2⟩ := at_T28 HR1.out x5_1 p192 q192
                cases e192
                replace p192 := eq_true p192
                replace q192 := eq_true q192
                go_wp2
                repeat (go_quiet (fail); try go_wp2)
                go_roundg k1
                case measure => have := HK1.out; omega
                case rel => exact ⟨(wrap64 (x5_1 + 1)), (by first | rfl | (simp; done) | (simp [*]; done)), H', ⟨by have := HK1.out; omega⟩, by repeat (first | exact Drawn0.refl _ | apply Drawn0.step)⟩
            · rw [if_neg c6] at H
              exact absurd H (by simp)
          · rw [if_neg c5] at H
            exact absurd H (by simp)
        · rw [if_neg c4] at H
          have c4b0 : decide (x5_1 < (l0.length : Int)) = false := decide_eq_false c4
          clear c4
          obtain rfl := Option.some.inj H
          go_wp2
          repeat (go_quiet (fail); try go_wp2)
          go_ret
          exact ⟨by first | rfl | (simp; done) | (simp [*]; done), by repeat (first | exact Drawn0.refl _ | apply Drawn0.step)⟩
  · rw [if_neg c3] at H
    have c3b0 : ((l0.length : Int) == (l1.length : Int)) = false := beq_eq_false_iff_ne.mpr c3
    have c3b1 : ((l0.length : Int) != (l1.length : Int)) = true := bne_iff_ne.mpr c3
    have c3b2 : (l0.length == l1.length) = false := by first | simpa using c3 | (simp at c3 ⊢; omega)
    obtain rfl := Option.some.inj H
    go_enter Tryz.func18, Tryz.ntmps18
    go_wp2
    repeat (go_quiet (fail); try go_wp2)
    go_ret
    exact ⟨by first | rfl | (simp; done) | (simp [*]; done), by repeat (first | exact Drawn0.refl _ | apply Drawn0.step)⟩

/-! ### eponymref03_Digits: function 33 -/
mutual
def eponymref03_Digits.l0 : Nat → Int → Int → ByteArray → Option (ByteArray)
  | 0, _, _, _ => none
  | k + 1, x0, x1, x5 => if x0 > 0 then (eponymref03_Digits.j1 k x0 x1 x5 true) else (eponymref03_Digits.j1 k x0 x1 x5 (x5.toList == ([] : List UInt8)))
def eponymref03_Digits.j1 : Nat → Int → Int → ByteArray → Bool → Option (ByteArray)
  | 0, _, _, _, _ => none
  | k + 1, x0, x1, x5, x12 => if x12 = true then (if x1 = 0 then (none) else (if ((Int.tmod x0 x1) % 256) < 10 then ((some (([(((Int.tmod x0 x1) % 256) + 48) % 256] : List Int) : List Int)).bind fun y193 => (if (strOfNums y193).size + x5.size ≤ 9223372036854775807 then (eponymref03_Digits.l0 k (wrap64 (Int.tdiv x0 x1)) x1 ((strOfNums y193) ++ x5)) else (none))) else ((some (([(((Int.tmod x0 x1) % 256) + 55) % 256] : List Int) : List Int)).bind fun y196 => (if (strOfNums y196).size + x5.size ≤ 9223372036854775807 then (eponymref03_Digits.l0 k (wrap64 (Int.tdiv x0 x1)) x1 ((strOfNums y196) ++ x5)) else (none))))) else (some x5)
end
def eponymref03_Digits.f (k : Nat) (a0 : Int) (a1 : Int) : Option (ByteArray) := eponymref03_Digits.l0 k a0 a1 (⟨#[]⟩ : ByteArray)
theorem eponymref03_Digits.mono_l : ∀ k, (∀ y0 y1 y2, LeO (eponymref03_Digits.l0 k y0 y1 y2) (eponymref03_Digits.l0 (k + 1) y0 y1 y2)) ∧ (∀ y0 y1 y2 y3, LeO (eponymref03_Digits.j1 k y0 y1 y2 y3) (eponymref03_Digits.j1 (k + 1) y0 y1 y2 y3))
  | 0 => ⟨fun _ _ _ r h => by simp [eponymref03_Digits.l0] at h, fun _ _ _ _ r h => by simp [eponymref03_Digits.j1] at h⟩
  | k + 1 => by
    obtain ⟨ih0, ih1⟩ := eponymref03_Digits.mono_l k
    refine ⟨?_, ?_⟩
    · intro y0 y1 y2
      unfold eponymref03_Digits.l0
      repeat' first
      | (with_reducible exact ih0 _ _ _)
      | (with_reducible exact ih1 _ _ _ _)
      | (with_reducible exact LeO.refl _)
      | (with_reducible exact LeO.none _)
      | (with_reducible refine LeO.ite ?_ ?_)
      | (with_reducible refine LeO.bind ?_ (fun _ => ?_))
      | exact ih0 _ _ _
      | exact ih1 _ _ _ _
      | exact LeO.none _
      | refine LeO.ite ?_ ?_
      | refine LeO.bind ?_ (fun _ => ?_)
    · intro y0 y1 y2 y3
      unfold eponymref03_Digits.j1
      repeat' first
      | (with_reducible exact ih0 _ _ _)
      | (with_reducible exact ih1 _ _ _ _)
      | (with_reducible exact LeO.refl _)
      | (with_reducible exact LeO.none _)
      | (with_reducible refine LeO.ite ?_ ?_)
      | (with_reducible refine LeO.bind ?_ (fun _ => ?_))
      | exact ih0 _ _ _
      | exact ih1 _ _ _ _
      | exact LeO.none _
      | refine LeO.ite ?_ ?_
      | refine LeO.bind ?_ (fun _ => ?_)
theorem eponymref03_Digits.mono : ∀ a0 a1 k, LeO (eponymref03_Digits.f k a0 a1) (eponymref03_Digits.f (k + 1) a0 a1) := by
  intro a0 a1 k
  obtain ⟨ih0, ih1⟩ := eponymref03_Digits.mono_l k
  unfold eponymref03_Digits.f
  repeat' first
      | (with_reducible exact ih0 _ _ _)
      | (with_reducible exact ih1 _ _ _ _)
      | (with_reducible exact LeO.refl _)
      | (with_reducible exact LeO.none _)
      | (with_reducible refine LeO.ite ?_ ?_)
      | (with_reducible refine LeO.bind ?_ (fun _ => ?_))
      | exact ih0 _ _ _
      | exact ih1 _ _ _ _
      | exact LeO.none _
      | refine LeO.ite ?_ ?_
      | refine LeO.bind ?_ (fun _ => ?_)
set_option maxHeartbeats 8000000 in
set_option maxRecDepth 100000 in
theorem eponymref03_Digits.calls (k : Nat) (a0 : Int) (a1 : Int) (r : ByteArray) (w : World) (h : eponymref03_Digits.f k a0 a1 = some r) :
    Calls Tryz.prog 33 #[.int .i64 a0, .int .i64 a1] w fun e w' => e = .returned (.string r) ∧ Below w.heap.size w w' := by
  have HB := Aside0.mk (Below.refl w.heap.size w)
  have H : (eponymref03_Digits.l0 k a0 a1 (⟨#[]⟩ : ByteArray)) = some r := h
  clear h
  have H' := Aside0.mk H
  clear H
  go_enter Tryz.func33, Tryz.ntmps33
  go_wp2
  go_loopg [0, 5] k (fun kq v0 v5 w' => ∃ (x0_1 : Int) (x5_1 : ByteArray), v0 = .int .i64 x0_1 ∧ v5 = .string x5_1 ∧ Aside0 (eponymref03_Digits.l0 kq x0_1 a1 x5_1 = some r) ∧ Aside0 (kq ≤ k) ∧ Aside0 (Below w.heap.size w w'))
  case atStart => exact ⟨(a0), ((⟨#[]⟩ : ByteArray)), (by first | rfl | (simp; done) | (simp [*]; done)), (by first | rfl | (simp; done) | (simp [*]; done)), H', ⟨Nat.le_refl _⟩, ⟨by repeat (first | (with_reducible first | exact HB.out | apply below_alloc | apply pw_below_drewN | apply below_drew1) | exact HB.out)⟩⟩
  case round =>
    clear H'
    try clear p2
    obtain ⟨x0_1, x5_1, rfl, rfl, HA, HK1, HB⟩ := hrel
    cases gk with
    | zero => exact absurd HA.out (by simp [eponymref03_Digits.l0])
    | succ k1 =>
      have H := HA.out
      clear HA
      simp only [eponymref03_Digits.l0] at H
      have HC3 := Aside0.mk H
      clear H
      go_upto_region 2 with (fail)
      go_cut [12] (fun v12 wc => ∃ (kq : Nat) (x12_2 : Bool), v12 = .bool x12_2 ∧ Aside0 (eponymref03_Digits.j1 kq x0_1 a1 x5_1 x12_2 = some r) ∧ Aside0 (kq ≤ k1) ∧ Aside0 (Below w.heap.size w wc))
      case first =>
        have H := HC3.out
        clear HC3
        by_cases c4 : x0_1 > 0
        · rw [if_pos c4] at H
          have c4b0 : decide (0 < x0_1) = true := decide_eq_true c4
          clear c4
          (first | rw [c4b0] | (simp only [i64_w, i32_w]; rw [c4b0]) | skip)
          have H' := Aside0.mk H
          clear H
          go_wp2
          go_meet
          case rel => exact ⟨_, (true), (by first | rfl | (simp; done) | (simp [*]; done)), H', ⟨by have := HK1.out; first | omega | exact Nat.le_refl _⟩, ⟨by repeat (first | (with_reducible first | exact HB.out | apply below_alloc | apply pw_below_drewN | apply below_drew1) | exact HB.out)⟩⟩
        · rw [if_neg c4] at H
          have c4b0 : decide (0 < x0_1) = false := decide_eq_false c4
          clear c4
          (first | rw [c4b0] | (simp only [i64_w, i32_w]; rw [c4b0]) | skip)
          have H' := Aside0.mk H
          clear H
          go_wp2
          go_meet
          case rel => exact ⟨_, ((x5_1.toList == ([] : List UInt8))), (by first | rfl | (simp; done) | (simp [*]; done)), H', ⟨by have := HK1.out; first | omega | exact Nat.le_refl _⟩, ⟨by repeat (first | (with_reducible first | exact HB.out | apply below_alloc | apply pw_below_drewN | apply below_drew1) | exact HB.out)⟩⟩
      case rest =>
        clear HC3
        try clear p2
        try clear c3
        try clear c4
        try clear c4b0
        try clear p2
        obtain ⟨kq, x12_2, rfl, HA, HJ2, HB⟩ := hcut
        cases kq with
        | zero => exact absurd HA.out (by simp [eponymref03_Digits.j1])
        | succ kj2 =>
          have H := HA.out
          clear HA
          simp only [eponymref03_Digits.j1] at H
          by_cases c5 : x12_2 = true
          · subst c5
            have H1 : (if a1 = 0 then (none) else (if ((Int.tmod x0_1 a1) % 256) < 10 then ((some (([(((Int.tmod x0_1 a1) % 256) + 48) % 256] : List Int) : List Int)).bind fun y193 => (if (strOfNums y193).size + x5_1.size ≤ 9223372036854775807 then (eponymref03_Digits.l0 kj2 (wrap64 (Int.tdiv x0_1 a1)) a1 ((strOfNums y193) ++ x5_1)) else (none))) else ((some (([(((Int.tmod x0_1 a1) % 256) + 55) % 256] : List Int) : List Int)).bind fun y196 => (if (strOfNums y196).size + x5_1.size ≤ 9223372036854775807 then (eponymref03_Digits.l0 kj2 (wrap64 (Int.tdiv x0_1 a1)) a1 ((strOfNums y196) ++ x5_1)) else (none))))) = some r := by rw [if_pos rfl] at H; exact H
            clear H
            have H := H1
            clear H1
            by_cases c6 : a1 = 0
            · rw [if_pos c6] at H
              exact absurd H (by simp)
            · rw [if_neg c6] at H
              have c6b0 : (a1 == 0) = false := beq_eq_false_iff_ne.mpr c6
              have c6b1 : (a1 != 0) = true := bne_iff_ne.mpr c6
              by_cases c7 : ((Int.tmod x0_1 a1) % 256) < 10
              · rw [if_pos c7] at H
                have c7b0 : decide (((Int.tmod x0_1 a1) % 256) < 10) = true := decide_eq_true c7
                clear c7
                obtain ⟨y193, hy193⟩ : ∃ y_ : List Int, y_ = (([(((Int.tmod x0_1 a1) % 256) + 48) % 256] : List Int)) := ⟨_, rfl⟩
                replace H : (if (strOfNums y193).size + x5_1.size ≤ 9223372036854775807 then (eponymref03_Digits.l0 kj2 (wrap64 (Int.tdiv x0_1 a1)) a1 ((strOfNums y193) ++ x5_1)) else (none)) = some r := by first | (rw [hy193]; with_reducible exact H) | (have H2_ := (Option.bind_some _ _).symm.trans H; rw [hy193]; with_reducible exact H2_) | (have H2_ := (Option.bind_some _ _).symm.trans H; with_reducible exact H2_) | with_reducible exact H | (rw [hy193]; exact H) | exact H
                have Ny193 := Aside0.mk hy193
                clear hy193
                by_cases c8 : (strOfNums y193).size + x5_1.size ≤ 9223372036854775807
                · rw [if_pos c8] at H
                  have c8b0 := eq_true c8
                  have c8b1 : decide ((strOfNums y193).size + x5_1.size ≤ 9223372036854775807) = true := decide_eq_true c8
                  try have c8b2 : (9223372036854775807 < (strOfNums y193).size + x5_1.size) = False := eq_false (Nat.not_lt.2 c8)
                  have H' := Aside0.mk H
                  clear H
                  go_wp2_with (first | ((with_reducible refine gate_dst (N := 24) rfl ?_); refine Kd.R_lit (Kd.int .u8) _ 5 ?hg (N := 24) ?hd (xs := ([(((Int.tmod x0_1 a1) % 256) + 48) % 256] : List Int)) (inner := [.int .u8 ((((Int.tmod x0_1 a1) % 256) + 48) % 256)]) (ok := fun _ => True) (okp := fun _ => True) ?hr ?hp (fun _ hk => hk) trivial (Below.refl _ _) (Nat.le_refl _) (by simp) ?_; (case hd => rfl); (case hg => rfl); (case hr => first | (go_simp; done) | (go_simp; rfl)); (case hp => exact (Reps.one (show Kd.M (Kd.int .u8) _ _ _ ((((Int.tmod x0_1 a1) % 256) + 48) % 256) [.int .u8 ((((Int.tmod x0_1 a1) % 256) + 48) % 256)] from rfl) (Reps.none _ _))); intro v194 w9 ho10 hb hg_ hnew_; clear hg_ hnew_; (first | rw [← Ny193.out] at ho10 | (simp only [Int.reduceToNat] at ho10; rw [← Ny193.out] at ho10)); have n0_ := Aside0.mk (Kd.R_lower ho10 (below_size (by repeat (first | (with_reducible first | exact HB.out | apply below_alloc | apply pw_below_drewN | apply below_drew1) | exact HB.out)))); have n1_ := Aside0.mk (below_step (by repeat (first | (with_reducible first | exact HB.out | apply below_alloc | apply pw_below_drewN | apply below_drew1) | exact HB.out)) hb); clear HB; have HO195 := n0_; have HB := n1_; clear n0_ n1_; clear hb ho10; have hcv11 := own_string (P := Tryz.prog) Tryz.underlying57 Tryz.underlying5 Tryz.underlying9 (Kd.own_of_R HO195.out)))
                  go_roundg kj2
                  case measure => have := HK1.out; have := HJ2.out; omega
                  case rel => exact ⟨(wrap64 (Int.tdiv x0_1 a1)), ((strOfNums y193) ++ x5_1), (by first | rfl | (simp; done) | (simp [*]; done)), (by first | rfl | (simp; done) | (simp [*]; done)), H', ⟨by have := HK1.out; have := HJ2.out; omega⟩, ⟨by repeat (first | (with_reducible first | exact HB.out | apply below_alloc | apply pw_below_drewN | apply below_drew1) | exact HB.out)⟩⟩
                · rw [if_neg c8] at H
                  exact absurd H (by simp)
              · rw [if_neg c7] at H
                have c7b0 : decide (((Int.tmod x0_1 a1) % 256) < 10) = false := decide_eq_false c7
                clear c7
                obtain ⟨y196, hy196⟩ : ∃ y_ : List Int, y_ = (([(((Int.tmod x0_1 a1) % 256) + 55) % 256] : List Int)) := ⟨_, rfl⟩
                replace H : (if (strOfNums y196).size + x5_1.size ≤ 9223372036854775807 then (eponymref03_Digits.l0 kj2 (wrap64 (Int.tdiv x0_1 a1)) a1 ((strOfNums y196) ++ x5_1)) else (none)) = some r := by first | (rw [hy196]; with_reducible exact H) | (have H2_ := (Option.bind_some _ _).symm.trans H; rw [hy196]; with_reducible exact H2_) | (have H2_ := (Option.bind_some _ _).symm.trans H; with_reducible exact H2_) | with_reducible exact H | (rw [hy196]; exact H) | exact H
                have Ny196 := Aside0.mk hy196
                clear hy196
                by_cases c12 : (strOfNums y196).size + x5_1.size ≤ 9223372036854775807
                · rw [if_pos c12] at H
                  have c12b0 := eq_true c12
                  have c12b1 : decide ((strOfNums y196).size + x5_1.size ≤ 9223372036854775807) = true := decide_eq_true c12
                  try have c12b2 : (9223372036854775807 < (strOfNums y196).size + x5_1.size) = False := eq_false (Nat.not_lt.2 c12)
                  have H' := Aside0.mk H
                  clear H
                  go_wp2_with (first | ((with_reducible refine gate_dst (N := 24) rfl ?_); refine Kd.R_lit (Kd.int .u8) _ 5 ?hg (N := 24) ?hd (xs := ([(((Int.tmod x0_1 a1) % 256) + 55) % 256] : List Int)) (inner := [.int .u8 ((((Int.tmod x0_1 a1) % 256) + 55) % 256)]) (ok := fun _ => True) (okp := fun _ => True) ?hr ?hp (fun _ hk => hk) trivial (Below.refl _ _) (Nat.le_refl _) (by simp) ?_; (case hd => rfl); (case hg => rfl); (case hr => first | (go_simp; done) | (go_simp; rfl)); (case hp => exact (Reps.one (show Kd.M (Kd.int .u8) _ _ _ ((((Int.tmod x0_1 a1) % 256) + 55) % 256) [.int .u8 ((((Int.tmod x0_1 a1) % 256) + 55) % 256)] from rfl) (Reps.none _ _))); intro v197 w13 ho14 hb hg_ hnew_; clear hg_ hnew_; (first | rw [← Ny196.out] at ho14 | (simp only [Int.reduceToNat] at ho14; rw [← Ny196.out] at ho14)); have n0_ := Aside0.mk (Kd.R_lower ho14 (below_size (by repeat (first | (with_reducible first | exact HB.out | apply below_alloc | apply pw_below_drewN | apply below_drew1) | exact HB.out)))); have n1_ := Aside0.mk (below_step (by repeat (first | (with_reducible first | exact HB.out | apply below_alloc | apply pw_below_drewN | apply below_drew1) | exact HB.out)) hb); clear HB; have HO198 := n0_; have HB := n1_; clear n0_ n1_; clear hb ho14; have hcv15 := own_string (P := Tryz.prog) Tryz.underlying57 Tryz.underlying5 Tryz.underlying9 (Kd.own_of_R HO198.out)))
                  go_roundg kj2
                  case measure => have := HK1.out; have := HJ2.out; omega
                  case rel => exact ⟨(wrap64 (Int.tdiv x0_1 a1)), ((strOfNums y196) ++ x5_1), (by first | rfl | (simp; done) | (simp [*]; done)), (by first | rfl | (simp; done) | (simp [*]; done)), H', ⟨by have := HK1.out; have := HJ2.out; omega⟩, ⟨by repeat (first | (with_reducible first | exact HB.out | apply below_alloc | apply pw_below_drewN | apply below_drew1) | exact HB.out)⟩⟩
                · rw [if_neg c12] at H
                  exact absurd H (by simp)
          · replace c5 := Bool.eq_false_iff.mpr c5
            subst c5
            have H1 : (some x5_1) = some r := by rw [if_neg (show ¬ (false = true) by decide)] at H; exact H
            clear H
            have H := H1
            clear H1
            obtain rfl := Option.some.inj H
            go_wp2
            go_ret
            exact ⟨by first | rfl | (simp [errW_none, errW_some] <;> rfl) | (simp [*, errW_none, errW_some] <;> rfl), by repeat (first | (with_reducible first | exact HB.out | apply below_alloc | apply pw_below_drewN | apply below_drew1) | exact HB.out)⟩

/-! ### eponymref03_hex: function 32 -/
def eponymref03_hex.l0 : Nat → ByteArray → Option (ByteArray)
  | 0, _ => none
  | k + 1, x3 => if (x3.size : Int) < 4 then (if 1 + x3.size ≤ 9223372036854775807 then (eponymref03_hex.l0 k ((⟨#[48]⟩ : ByteArray) ++ x3)) else (none)) else (some x3)
def eponymref03_hex.f (k : Nat) (a0 : Int) : Option (ByteArray) := (eponymref03_Digits.f k (wrap64 (a0)) 16).bind fun t199 => (eponymref03_hex.l0 k t199)
theorem eponymref03_hex.mono_l : ∀ k, (∀ y0, LeO (eponymref03_hex.l0 k y0) (eponymref03_hex.l0 (k + 1) y0))
  | 0 => fun _ r h => by simp [eponymref03_hex.l0] at h
  | k + 1 => by
    have ih0 := eponymref03_hex.mono_l k
    · intro y0
      unfold eponymref03_hex.l0
      repeat' first
      | (with_reducible exact ih0 _)
      | (with_reducible exact eponymref03_Digits.mono _ _ _)
      | (with_reducible exact LeO.refl _)
      | (with_reducible exact LeO.none _)
      | (with_reducible refine LeO.ite ?_ ?_)
      | (with_reducible refine LeO.bind ?_ (fun _ => ?_))
      | exact ih0 _
      | exact eponymref03_Digits.mono _ _ _
      | exact LeO.none _
      | refine LeO.ite ?_ ?_
      | refine LeO.bind ?_ (fun _ => ?_)
theorem eponymref03_hex.mono : ∀ a0 k, LeO (eponymref03_hex.f k a0) (eponymref03_hex.f (k + 1) a0) := by
  intro a0 k
  have ih0 := eponymref03_hex.mono_l k
  unfold eponymref03_hex.f
  repeat' first
      | (with_reducible exact ih0 _)
      | (with_reducible exact eponymref03_Digits.mono _ _ _)
      | (with_reducible exact LeO.refl _)
      | (with_reducible exact LeO.none _)
      | (with_reducible refine LeO.ite ?_ ?_)
      | (with_reducible refine LeO.bind ?_ (fun _ => ?_))
      | exact ih0 _
      | exact eponymref03_Digits.mono _ _ _
      | exact LeO.none _
      | refine LeO.ite ?_ ?_
      | refine LeO.bind ?_ (fun _ => ?_)
set_option maxHeartbeats 8000000 in
set_option maxRecDepth 100000 in
theorem eponymref03_hex.calls (k : Nat) (a0 : Int) (r : ByteArray) (w : World) (h : eponymref03_hex.f k a0 = some r) :
    Calls Tryz.prog 32 #[.int .i32 a0] w fun e w' => e = .returned (.string r) ∧ Below w.heap.size w w' := by
  have HB := Aside0.mk (Below.refl w.heap.size w)
  have H : ((eponymref03_Digits.f k (wrap64 (a0)) 16).bind fun t199 => (eponymref03_hex.l0 k t199)) = some r := h
  clear h
  replace H := Option.bind_eq_some_iff.mp H
  obtain ⟨t199, A20, H⟩ := H
  replace H : (eponymref03_hex.l0 k t199) = some r := H
  have A2 := Aside0.mk A20
  clear A20
  have H' := Aside0.mk H
  clear H
  go_enter Tryz.func32, Tryz.ntmps32
  go_wp2_with (first | ((with_reducible refine gate_callee (f := 33) rfl ?_); refine goesL_ (some 6) rfl rfl Tryz.func33 (by kernel_rfl) rfl #[.int .i64 (wrap64 (a0)), .int .i64 16] rfl (by (try simp only [List.map_toArray, List.map_cons, List.map_nil]); first | done | rfl | (simp only [List.length_drop, List.length_take]; rfl)) ?_; (with_reducible refine (eponymref03_Digits.calls k (wrap64 (a0)) 16 t199 _ A2.out).mono ?_); rintro e w3 ⟨rfl, hb⟩; refine ⟨_, rfl, ?_⟩; have n0_ := Aside0.mk (below_step (by repeat (first | (with_reducible first | exact HB.out | apply below_alloc | apply pw_below_drewN | apply below_drew1) | exact HB.out)) hb); clear HB; have HB := n0_; clear n0_; (try clear hb); (try clear hb2); (try clear hk); (try clear hi)))
  go_loopg [3] k (fun kq v3 w' => ∃ (x3_1 : ByteArray), v3 = .string x3_1 ∧ Aside0 (eponymref03_hex.l0 kq x3_1 = some r) ∧ Aside0 (kq ≤ k) ∧ Aside0 (Below w.heap.size w w'))
  case atStart => exact ⟨(t199), (by first | rfl | (simp; done) | (simp [*]; done)), H', ⟨Nat.le_refl _⟩, ⟨by repeat (first | (with_reducible first | exact HB.out | apply below_alloc | apply pw_below_drewN | apply below_drew1) | exact HB.out)⟩⟩
  case round =>
    clear H'
    try clear p2
    try clear c3
    obtain ⟨x3_1, rfl, HA, HK1, HB⟩ := hrel
    cases gk with
    | zero => exact absurd HA.out (by simp [eponymref03_hex.l0])
    | succ k1 =>
      have H := HA.out
      clear HA
      simp only [eponymref03_hex.l0] at H
      by_cases c4 : (x3_1.size : Int) < 4
      · rw [if_pos c4] at H
        have c4b0 : decide ((x3_1.size : Int) < 4) = true := decide_eq_true c4
        have c4b1 : decide (x3_1.size < 4) = true := decide_eq_true (by omega)
        clear c4
        by_cases c5 : 1 + x3_1.size ≤ 9223372036854775807
        · rw [if_pos c5] at H
          have c5b0 := eq_true c5
          have c5b1 : decide (1 + x3_1.size ≤ 9223372036854775807) = true := decide_eq_true c5
          try have c5b2 : (9223372036854775807 < 1 + x3_1.size) = False := eq_false (Nat.not_lt.2 c5)
          have H' := Aside0.mk H
          clear H
          go_wp2
          go_roundg k1
          case measure => have := HK1.out; omega
          case rel => exact ⟨((⟨#[48]⟩ : ByteArray) ++ x3_1), (by first | rfl | (simp; done) | (simp [*]; done)), H', ⟨by have := HK1.out; omega⟩, ⟨by repeat (first | (with_reducible first | exact HB.out | apply below_alloc | apply pw_below_drewN | apply below_drew1) | exact HB.out)⟩⟩
        · rw [if_neg c5] at H
          exact absurd H (by simp)
      · rw [if_neg c4] at H
        have c4b0 : decide ((x3_1.size : Int) < 4) = false := decide_eq_false c4
        have c4b1 : decide (x3_1.size < 4) = false := decide_eq_false (by omega)
        clear c4
        obtain rfl := Option.some.inj H
        go_wp2
        go_ret
        exact ⟨by first | rfl | (simp [errW_none, errW_some] <;> rfl) | (simp [*, errW_none, errW_some] <;> rfl), by repeat (first | (with_reducible first | exact HB.out | apply below_alloc | apply pw_below_drewN | apply below_drew1) | exact HB.out)⟩

/-! ### eponymref03_Line: function 16 -/
def eponymref03_Line.f (k : Nat) (a0_0 : Int) (a0_1 : Int) (a0_2 : Int) : Option (ByteArray) := (eponymref03_hex.f k a0_0).bind fun t201 => (if a0_1 = a0_0 then (if t201.size + 1 ≤ 9223372036854775807 then ((eponymref03_Digits.f k a0_2 10).bind fun t202 => (if (t201 ++ (⟨#[32]⟩ : ByteArray)).size + t202.size ≤ 9223372036854775807 then (some ((t201 ++ (⟨#[32]⟩ : ByteArray)) ++ t202)) else (none))) else (none)) else (if t201.size + 2 ≤ 9223372036854775807 then ((eponymref03_hex.f k a0_1).bind fun t203 => (if (t201 ++ (⟨#[46, 46]⟩ : ByteArray)).size + t203.size ≤ 9223372036854775807 then (if ((t201 ++ (⟨#[46, 46]⟩ : ByteArray)) ++ t203).size + 1 ≤ 9223372036854775807 then ((eponymref03_Digits.f k a0_2 10).bind fun t204 => (if (((t201 ++ (⟨#[46, 46]⟩ : ByteArray)) ++ t203) ++ (⟨#[32]⟩ : ByteArray)).size + t204.size ≤ 9223372036854775807 then (some ((((t201 ++ (⟨#[46, 46]⟩ : ByteArray)) ++ t203) ++ (⟨#[32]⟩ : ByteArray)) ++ t204)) else (none))) else (none)) else (none))) else (none)))
theorem eponymref03_Line.mono : ∀ a0 a1 a2 k, LeO (eponymref03_Line.f k a0 a1 a2) (eponymref03_Line.f (k + 1) a0 a1 a2) := by
  intro a0 a1 a2 k
  unfold eponymref03_Line.f
  repeat' first
      | (with_reducible exact eponymref03_Digits.mono _ _ _)
      | (with_reducible exact eponymref03_hex.mono _ _)
      | (with_reducible exact LeO.refl _)
      | (with_reducible exact LeO.none _)
      | (with_reducible refine LeO.ite ?_ ?_)
      | (with_reducible refine LeO.bind ?_ (fun _ => ?_))
      | exact eponymref03_Digits.mono _ _ _
      | exact eponymref03_hex.mono _ _
      | exact LeO.none _
      | refine LeO.ite ?_ ?_
      | refine LeO.bind ?_ (fun _ => ?_)
set_option maxHeartbeats 8000000 in
set_option maxRecDepth 100000 in
theorem eponymref03_Line.calls (k : Nat) (a0_0 : Int) (a0_1 : Int) (a0_2 : Int) (r : ByteArray) (w : World) (h : eponymref03_Line.f k a0_0 a0_1 a0_2 = some r) :
    Calls Tryz.prog 16 #[.agg #[.int .i32 a0_0, .int .i32 a0_1, .int .i64 a0_2]] w fun e w' => e = .returned (.string r) ∧ Below w.heap.size w w' := by
  have hu28 := Tryz.underlying28
  have HB := Aside0.mk (Below.refl w.heap.size w)
  have H : ((eponymref03_hex.f k a0_0).bind fun t201 => (if a0_1 = a0_0 then (if t201.size + 1 ≤ 9223372036854775807 then ((eponymref03_Digits.f k a0_2 10).bind fun t202 => (if (t201 ++ (⟨#[32]⟩ : ByteArray)).size + t202.size ≤ 9223372036854775807 then (some ((t201 ++ (⟨#[32]⟩ : ByteArray)) ++ t202)) else (none))) else (none)) else (if t201.size + 2 ≤ 9223372036854775807 then ((eponymref03_hex.f k a0_1).bind fun t203 => (if (t201 ++ (⟨#[46, 46]⟩ : ByteArray)).size + t203.size ≤ 9223372036854775807 then (if ((t201 ++ (⟨#[46, 46]⟩ : ByteArray)) ++ t203).size + 1 ≤ 9223372036854775807 then ((eponymref03_Digits.f k a0_2 10).bind fun t204 => (if (((t201 ++ (⟨#[46, 46]⟩ : ByteArray)) ++ t203) ++ (⟨#[32]⟩ : ByteArray)).size + t204.size ≤ 9223372036854775807 then (some ((((t201 ++ (⟨#[46, 46]⟩ : ByteArray)) ++ t203) ++ (⟨#[32]⟩ : ByteArray)) ++ t204)) else (none))) else (none)) else (none))) else (none)))) = some r := h
  clear h
  replace H := Option.bind_eq_some_iff.mp H
  obtain ⟨t201, A20, H⟩ := H
  replace H : (if a0_1 = a0_0 then (if t201.size + 1 ≤ 9223372036854775807 then ((eponymref03_Digits.f k a0_2 10).bind fun t202 => (if (t201 ++ (⟨#[32]⟩ : ByteArray)).size + t202.size ≤ 9223372036854775807 then (some ((t201 ++ (⟨#[32]⟩ : ByteArray)) ++ t202)) else (none))) else (none)) else (if t201.size + 2 ≤ 9223372036854775807 then ((eponymref03_hex.f k a0_1).bind fun t203 => (if (t201 ++ (⟨#[46, 46]⟩ : ByteArray)).size + t203.size ≤ 9223372036854775807 then (if ((t201 ++ (⟨#[46, 46]⟩ : ByteArray)) ++ t203).size + 1 ≤ 9223372036854775807 then ((eponymref03_Digits.f k a0_2 10).bind fun t204 => (if (((t201 ++ (⟨#[46, 46]⟩ : ByteArray)) ++ t203) ++ (⟨#[32]⟩ : ByteArray)).size + t204.size ≤ 9223372036854775807 then (some ((((t201 ++ (⟨#[46, 46]⟩ : ByteArray)) ++ t203) ++ (⟨#[32]⟩ : ByteArray)) ++ t204)) else (none))) else (none)) else (none))) else (none))) = some r := H
  have A2 := Aside0.mk A20
  clear A20
  by_cases c3 : a0_1 = a0_0
  · rw [if_pos c3] at H
    have c3b0 : (a0_1 == a0_0) = true := beq_iff_eq.mpr c3
    have c3b1 : (a0_1 != a0_0) = false := bne_eq_false_iff_eq.mpr c3
    clear c3
    by_cases c4 : t201.size + 1 ≤ 9223372036854775807
    · rw [if_pos c4] at H
      have c4b0 := eq_true c4
      have c4b1 : decide (t201.size + 1 ≤ 9223372036854775807) = true := decide_eq_true c4
      try have c4b2 : (9223372036854775807 < t201.size + 1) = False := eq_false (Nat.not_lt.2 c4)
      replace H := Option.bind_eq_some_iff.mp H
      obtain ⟨t202, A50, H⟩ := H
      replace H : (if (t201 ++ (⟨#[32]⟩ : ByteArray)).size + t202.size ≤ 9223372036854775807 then (some ((t201 ++ (⟨#[32]⟩ : ByteArray)) ++ t202)) else (none)) = some r := H
      have A5 := Aside0.mk A50
      clear A50
      by_cases c6 : (t201 ++ (⟨#[32]⟩ : ByteArray)).size + t202.size ≤ 9223372036854775807
      · rw [if_pos c6] at H
        have c6b0 := eq_true c6
        have c6b1 : decide ((t201 ++ (⟨#[32]⟩ : ByteArray)).size + t202.size ≤ 9223372036854775807) = true := decide_eq_true c6
        try have c6b2 : (9223372036854775807 < (t201 ++ (⟨#[32]⟩ : ByteArray)).size + t202.size) = False := eq_false (Nat.not_lt.2 c6)
        (try (have c6b3 := c6; simp only [ByteArray.size_append, show (⟨#[32]⟩ : ByteArray).size = 1 from rfl] at c6b3; have c6b4 := eq_false (Nat.not_lt.2 c6b3)))
        obtain rfl := Option.some.inj H
        go_enter Tryz.func16, Tryz.ntmps16
        go_wp2_with (first | ((with_reducible refine gate_dst (N := 1) rfl ?_); refine box_event ?hg (N := 1) ?hd (cs := #[.int .i32 a0_0, .int .i32 a0_1, .int .i64 a0_2]) (t := 28) ?hr ?_; (case hd => rfl); (case hg => rfl); (case hr => first | (go_simp; done) | (go_simp; rfl)); intro gb200 hg w7 hbox hb; have n0_ := Aside0.mk (below_step (by repeat (first | (with_reducible first | exact HB.out | apply below_alloc | apply pw_below_drewN | apply below_drew1) | exact HB.out)) hb); have n1_ := Aside0.mk (hbox); have n2_ := Aside0.mk ((by rw [hg]; exact (below_size (by repeat (first | (with_reducible first | exact HB.out | apply below_alloc | apply pw_below_drewN | apply below_drew1) | exact HB.out))) : w.heap.size ≤ gb200)); have n3_ := Aside0.mk ((by rw [hg]; exact (below_size (by repeat (first | (with_reducible first | exact HB.out | apply below_alloc | apply pw_below_drewN | apply below_drew1) | exact HB.out))) : w.heap.size ≤ gb200)); clear HB; have HB := n0_; have BK200 := n1_; have GW200 := n2_; have GE200 := n3_; clear n0_ n1_ n2_ n3_; clear hb hbox hg; have hcz8_0 : w7.cell? ⟨gb200, 0, none⟩ = some (.int .i32 a0_0) := (blk_cell BK200.out 0).trans rfl; have hcz8_1 : w7.cell? ⟨gb200, 1, none⟩ = some (.int .i32 a0_1) := (blk_cell BK200.out 1).trans rfl; have hcz8_2 : w7.cell? ⟨gb200, 2, none⟩ = some (.int .i64 a0_2) := (blk_cell BK200.out 2).trans rfl; have hfz8_0 := blk_frozen BK200.out 0; have hfz8_1 := blk_frozen BK200.out 1; have hfz8_2 := blk_frozen BK200.out 2) | ((with_reducible refine gate_callee (f := 32) rfl ?_); refine goesL_ (some 6) rfl rfl Tryz.func32 (by kernel_rfl) rfl #[.int .i32 a0_0] rfl (by (try simp only [List.map_toArray, List.map_cons, List.map_nil]); first | done | rfl | (simp only [List.length_drop, List.length_take]; rfl)) ?_; (with_reducible refine (eponymref03_hex.calls k a0_0 t201 _ A2.out).mono ?_); rintro e w9 ⟨rfl, hb⟩; refine ⟨_, rfl, ?_⟩; have n0_ := Aside0.mk (blk_below (g := gb200) (o := .cells #[.int .i32 a0_0, .int .i32 a0_1, .int .i64 a0_2] 28 (0, 0)) (by (with_reducible repeat (first | refine blk_drewN ?_ _ | refine blk_drew ?_ | refine blk_alloc ?_ _)); exact BK200.out) hb); have n1_ := Aside0.mk (below_step (by repeat (first | (with_reducible first | exact HB.out | apply below_alloc | apply pw_below_drewN | apply below_drew1 | refine below_set ?_ GE200.out) | exact HB.out)) hb); clear BK200; clear HB; have BK200 := n0_; have HB := n1_; clear n0_ n1_; (try clear hb); (try clear hb2); (try clear hk); (try clear hi); have hcz10_0 : w9.cell? ⟨gb200, 0, none⟩ = some (.int .i32 a0_0) := (blk_cell BK200.out 0).trans rfl; have hcz10_1 : w9.cell? ⟨gb200, 1, none⟩ = some (.int .i32 a0_1) := (blk_cell BK200.out 1).trans rfl; have hcz10_2 : w9.cell? ⟨gb200, 2, none⟩ = some (.int .i64 a0_2) := (blk_cell BK200.out 2).trans rfl; have hfz10_0 := blk_frozen BK200.out 0; have hfz10_1 := blk_frozen BK200.out 1; have hfz10_2 := blk_frozen BK200.out 2) | ((with_reducible refine gate_callee (f := 33) rfl ?_); refine goesL_ (some 22) rfl rfl Tryz.func33 (by kernel_rfl) rfl #[.int .i64 a0_2, .int .i64 10] rfl (by (try simp only [List.map_toArray, List.map_cons, List.map_nil]); first | done | rfl | (simp only [List.length_drop, List.length_take]; rfl)) ?_; (with_reducible refine (eponymref03_Digits.calls k a0_2 10 t202 _ A5.out).mono ?_); rintro e w11 ⟨rfl, hb⟩; refine ⟨_, rfl, ?_⟩; have n0_ := Aside0.mk (blk_below (g := gb200) (o := .cells #[.int .i32 a0_0, .int .i32 a0_1, .int .i64 a0_2] 28 (0, 0)) (by (with_reducible repeat (first | refine blk_drewN ?_ _ | refine blk_drew ?_ | refine blk_alloc ?_ _)); exact BK200.out) hb); have n1_ := Aside0.mk (below_step (by repeat (first | (with_reducible first | exact HB.out | apply below_alloc | apply pw_below_drewN | apply below_drew1 | refine below_set ?_ GE200.out) | exact HB.out)) hb); clear BK200; clear HB; have BK200 := n0_; have HB := n1_; clear n0_ n1_; (try clear hb); (try clear hb2); (try clear hk); (try clear hi)))
        go_ret
        exact ⟨by first | rfl | (simp [errW_none, errW_some] <;> rfl) | (simp [*, errW_none, errW_some] <;> rfl), by repeat (first | (with_reducible first | exact HB.out | apply below_alloc | apply pw_below_drewN | apply below_drew1 | refine below_set ?_ GE200.out) | exact HB.out)⟩
      · rw [if_neg c6] at H
        exact absurd H (by simp)
    · rw [if_neg c4] at H
      exact absurd H (by simp)
  · rw [if_neg c3] at H
    have c3b0 : (a0_1 == a0_0) = false := beq_eq_false_iff_ne.mpr c3
    have c3b1 : (a0_1 != a0_0) = true := bne_iff_ne.mpr c3
    by_cases c12 : t201.size + 2 ≤ 9223372036854775807
    · rw [if_pos c12] at H
      have c12b0 := eq_true c12
      have c12b1 : decide (t201.size + 2 ≤ 9223372036854775807) = true := decide_eq_true c12
      try have c12b2 : (9223372036854775807 < t201.size + 2) = False := eq_false (Nat.not_lt.2 c12)
      replace H := Option.bind_eq_some_iff.mp H
      obtain ⟨t203, A130, H⟩ := H
      replace H : (if (t201 ++ (⟨#[46, 46]⟩ : ByteArray)).size + t203.size ≤ 9223372036854775807 then (if ((t201 ++ (⟨#[46, 46]⟩ : ByteArray)) ++ t203).size + 1 ≤ 9223372036854775807 then ((eponymref03_Digits.f k a0_2 10).bind fun t204 => (if (((t201 ++ (⟨#[46, 46]⟩ : ByteArray)) ++ t203) ++ (⟨#[32]⟩ : ByteArray)).size + t204.size ≤ 9223372036854775807 then (some ((((t201 ++ (⟨#[46, 46]⟩ : ByteArray)) ++ t203) ++ (⟨#[32]⟩ : ByteArray)) ++ t204)) else (none))) else (none)) else (none)) = some r := H
      have A13 := Aside0.mk A130
      clear A130
      by_cases c14 : (t201 ++ (⟨#[46, 46]⟩ : ByteArray)).size + t203.size ≤ 9223372036854775807
      · rw [if_pos c14] at H
        have c14b0 := eq_true c14
        have c14b1 : decide ((t201 ++ (⟨#[46, 46]⟩ : ByteArray)).size + t203.size ≤ 9223372036854775807) = true := decide_eq_true c14
        try have c14b2 : (9223372036854775807 < (t201 ++ (⟨#[46, 46]⟩ : ByteArray)).size + t203.size) = False := eq_false (Nat.not_lt.2 c14)
        (try (have c14b3 := c14; simp only [ByteArray.size_append, show (⟨#[46, 46]⟩ : ByteArray).size = 2 from rfl] at c14b3; have c14b4 := eq_false (Nat.not_lt.2 c14b3)))
        by_cases c15 : ((t201 ++ (⟨#[46, 46]⟩ : ByteArray)) ++ t203).size + 1 ≤ 9223372036854775807
        · rw [if_pos c15] at H
          have c15b0 := eq_true c15
          have c15b1 : decide (((t201 ++ (⟨#[46, 46]⟩ : ByteArray)) ++ t203).size + 1 ≤ 9223372036854775807) = true := decide_eq_true c15
          try have c15b2 : (9223372036854775807 < ((t201 ++ (⟨#[46, 46]⟩ : ByteArray)) ++ t203).size + 1) = False := eq_false (Nat.not_lt.2 c15)
          (try (have c15b3 := c15; simp only [ByteArray.size_append, show (⟨#[46, 46]⟩ : ByteArray).size = 2 from rfl] at c15b3; have c15b4 := eq_false (Nat.not_lt.2 c15b3)))
          replace H := Option.bind_eq_some_iff.mp H
          obtain ⟨t204, A160, H⟩ := H
          replace H : (if (((t201 ++ (⟨#[46, 46]⟩ : ByteArray)) ++ t203) ++ (⟨#[32]⟩ : ByteArray)).size + t204.size ≤ 9223372036854775807 then (some ((((t201 ++ (⟨#[46, 46]⟩ : ByteArray)) ++ t203) ++ (⟨#[32]⟩ : ByteArray)) ++ t204)) else (none)) = some r := H
          have A16 := Aside0.mk A160
          clear A160
          by_cases c17 : (((t201 ++ (⟨#[46, 46]⟩ : ByteArray)) ++ t203) ++ (⟨#[32]⟩ : ByteArray)).size + t204.size ≤ 9223372036854775807
          · rw [if_pos c17] at H
            have c17b0 := eq_true c17
            have c17b1 : decide ((((t201 ++ (⟨#[46, 46]⟩ : ByteArray)) ++ t203) ++ (⟨#[32]⟩ : ByteArray)).size + t204.size ≤ 9223372036854775807) = true := decide_eq_true c17
            try have c17b2 : (9223372036854775807 < (((t201 ++ (⟨#[46, 46]⟩ : ByteArray)) ++ t203) ++ (⟨#[32]⟩ : ByteArray)).size + t204.size) = False := eq_false (Nat.not_lt.2 c17)
            (try (have c17b3 := c17; simp only [ByteArray.size_append, show (⟨#[32]⟩ : ByteArray).size = 1 from rfl, show (⟨#[46, 46]⟩ : ByteArray).size = 2 from rfl] at c17b3; have c17b4 := eq_false (Nat.not_lt.2 c17b3)))
            obtain rfl := Option.some.inj H
            go_enter Tryz.func16, Tryz.ntmps16
            go_wp2_with (first | ((with_reducible refine gate_dst (N := 1) rfl ?_); refine box_event ?hg (N := 1) ?hd (cs := #[.int .i32 a0_0, .int .i32 a0_1, .int .i64 a0_2]) (t := 28) ?hr ?_; (case hd => rfl); (case hg => rfl); (case hr => first | (go_simp; done) | (go_simp; rfl)); intro gb200 hg w18 hbox hb; have n0_ := Aside0.mk (below_step (by repeat (first | (with_reducible first | exact HB.out | apply below_alloc | apply pw_below_drewN | apply below_drew1) | exact HB.out)) hb); have n1_ := Aside0.mk (hbox); have n2_ := Aside0.mk ((by rw [hg]; exact (below_size (by repeat (first | (with_reducible first | exact HB.out | apply below_alloc | apply pw_below_drewN | apply below_drew1) | exact HB.out))) : w.heap.size ≤ gb200)); have n3_ := Aside0.mk ((by rw [hg]; exact (below_size (by repeat (first | (with_reducible first | exact HB.out | apply below_alloc | apply pw_below_drewN | apply below_drew1) | exact HB.out))) : w.heap.size ≤ gb200)); clear HB; have HB := n0_; have BK200 := n1_; have GW200 := n2_; have GE200 := n3_; clear n0_ n1_ n2_ n3_; clear hb hbox hg; have hcz19_0 : w18.cell? ⟨gb200, 0, none⟩ = some (.int .i32 a0_0) := (blk_cell BK200.out 0).trans rfl; have hcz19_1 : w18.cell? ⟨gb200, 1, none⟩ = some (.int .i32 a0_1) := (blk_cell BK200.out 1).trans rfl; have hcz19_2 : w18.cell? ⟨gb200, 2, none⟩ = some (.int .i64 a0_2) := (blk_cell BK200.out 2).trans rfl; have hfz19_0 := blk_frozen BK200.out 0; have hfz19_1 := blk_frozen BK200.out 1; have hfz19_2 := blk_frozen BK200.out 2) | ((with_reducible refine gate_callee (f := 32) rfl ?_); refine goesL_ (some 6) rfl rfl Tryz.func32 (by kernel_rfl) rfl #[.int .i32 a0_0] rfl (by (try simp only [List.map_toArray, List.map_cons, List.map_nil]); first | done | rfl | (simp only [List.length_drop, List.length_take]; rfl)) ?_; (with_reducible refine (eponymref03_hex.calls k a0_0 t201 _ A2.out).mono ?_); rintro e w20 ⟨rfl, hb⟩; refine ⟨_, rfl, ?_⟩; have n0_ := Aside0.mk (blk_below (g := gb200) (o := .cells #[.int .i32 a0_0, .int .i32 a0_1, .int .i64 a0_2] 28 (0, 0)) (by (with_reducible repeat (first | refine blk_drewN ?_ _ | refine blk_drew ?_ | refine blk_alloc ?_ _)); exact BK200.out) hb); have n1_ := Aside0.mk (below_step (by repeat (first | (with_reducible first | exact HB.out | apply below_alloc | apply pw_below_drewN | apply below_drew1 | refine below_set ?_ GE200.out) | exact HB.out)) hb); clear BK200; clear HB; have BK200 := n0_; have HB := n1_; clear n0_ n1_; (try clear hb); (try clear hb2); (try clear hk); (try clear hi); have hcz21_0 : w20.cell? ⟨gb200, 0, none⟩ = some (.int .i32 a0_0) := (blk_cell BK200.out 0).trans rfl; have hcz21_1 : w20.cell? ⟨gb200, 1, none⟩ = some (.int .i32 a0_1) := (blk_cell BK200.out 1).trans rfl; have hcz21_2 : w20.cell? ⟨gb200, 2, none⟩ = some (.int .i64 a0_2) := (blk_cell BK200.out 2).trans rfl; have hfz21_0 := blk_frozen BK200.out 0; have hfz21_1 := blk_frozen BK200.out 1; have hfz21_2 := blk_frozen BK200.out 2) | ((with_reducible refine gate_callee (f := 32) rfl ?_); refine goesL_ (some 16) rfl rfl Tryz.func32 (by kernel_rfl) rfl #[.int .i32 a0_1] rfl (by (try simp only [List.map_toArray, List.map_cons, List.map_nil]); first | done | rfl | (simp only [List.length_drop, List.length_take]; rfl)) ?_; (with_reducible refine (eponymref03_hex.calls k a0_1 t203 _ A13.out).mono ?_); rintro e w22 ⟨rfl, hb⟩; refine ⟨_, rfl, ?_⟩; have n0_ := Aside0.mk (blk_below (g := gb200) (o := .cells #[.int .i32 a0_0, .int .i32 a0_1, .int .i64 a0_2] 28 (0, 0)) (by (with_reducible repeat (first | refine blk_drewN ?_ _ | refine blk_drew ?_ | refine blk_alloc ?_ _)); exact BK200.out) hb); have n1_ := Aside0.mk (below_step (by repeat (first | (with_reducible first | exact HB.out | apply below_alloc | apply pw_below_drewN | apply below_drew1 | refine below_set ?_ GE200.out) | exact HB.out)) hb); clear BK200; clear HB; have BK200 := n0_; have HB := n1_; clear n0_ n1_; (try clear hb); (try clear hb2); (try clear hk); (try clear hi); have hcz23_0 : w22.cell? ⟨gb200, 0, none⟩ = some (.int .i32 a0_0) := (blk_cell BK200.out 0).trans rfl; have hcz23_1 : w22.cell? ⟨gb200, 1, none⟩ = some (.int .i32 a0_1) := (blk_cell BK200.out 1).trans rfl; have hcz23_2 : w22.cell? ⟨gb200, 2, none⟩ = some (.int .i64 a0_2) := (blk_cell BK200.out 2).trans rfl; have hfz23_0 := blk_frozen BK200.out 0; have hfz23_1 := blk_frozen BK200.out 1; have hfz23_2 := blk_frozen BK200.out 2) | ((with_reducible refine gate_callee (f := 33) rfl ?_); refine goesL_ (some 22) rfl rfl Tryz.func33 (by kernel_rfl) rfl #[.int .i64 a0_2, .int .i64 10] rfl (by (try simp only [List.map_toArray, List.map_cons, List.map_nil]); first | done | rfl | (simp only [List.length_drop, List.length_take]; rfl)) ?_; (with_reducible refine (eponymref03_Digits.calls k a0_2 10 t204 _ A16.out).mono ?_); rintro e w24 ⟨rfl, hb⟩; refine ⟨_, rfl, ?_⟩; have n0_ := Aside0.mk (blk_below (g := gb200) (o := .cells #[.int .i32 a0_0, .int .i32 a0_1, .int .i64 a0_2] 28 (0, 0)) (by (with_reducible repeat (first | refine blk_drewN ?_ _ | refine blk_drew ?_ | refine blk_alloc ?_ _)); exact BK200.out) hb); have n1_ := Aside0.mk (below_step (by repeat (first | (with_reducible first | exact HB.out | apply below_alloc | apply pw_below_drewN | apply below_drew1 | refine below_set ?_ GE200.out) | exact HB.out)) hb); clear BK200; clear HB; have BK200 := n0_; have HB := n1_; clear n0_ n1_; (try clear hb); (try clear hb2); (try clear hk); (try clear hi)))
            go_ret
            exact ⟨by first | rfl | (simp [errW_none, errW_some] <;> rfl) | (simp [*, errW_none, errW_some] <;> rfl), by repeat (first | (with_reducible first | exact HB.out | apply below_alloc | apply pw_below_drewN | apply below_drew1 | refine below_set ?_ GE200.out) | exact HB.out)⟩
          · rw [if_neg c17] at H
            exact absurd H (by simp)
        · rw [if_neg c15] at H
          exact absurd H (by simp)
      · rw [if_neg c14] at H
        exact absurd H (by simp)
    · rw [if_neg c12] at H
      exact absurd H (by simp)

end Go.Proofs.YthggpjiabklekaaGreatDoor.PRg
