-- Printed by a program of this claim's author (wip/tools), out of the translation. Not trusted: Lean checks it.
import Derived.Test.YtlgdenihddkjaaaDoorPStx0
import Derived.Test.YtlgdenihddkjaaaDoorPStx1
import Derived.Test.YtlgdenihddkjaaaDoorExt
namespace Go.Proofs.YtlgdenihddkjaaaDoor.PSt
open Go.RowKit Go.Proofs.YtlgdenihddkjaaaDoorW.PrintWords Go.Proofs.YtlgdenihddkjaaaDoorW.PrintLast Go.Proofs.YtlgdenihddkjaaaDoorW.PrintMore
attribute [local go_sem] max2_int min2_int max_two min_two max_three min_three max_four min_four   -- for this text's walks alone
set_option linter.unusedVariables false
set_option linter.unusedSimpArgs false

/-! ### eponymref16_Civil: function 20 -/
mutual
def eponymref16_Civil.j0 : Nat → Int → Option (Int × Int × Int)
  | 0, _ => none
  | k + 1, x0 => (eponymref16_year.f 10000).bind fun t148 => ((eponymref16_year.f 1970).bind fun t149 => (if x0 > (wrap64 ((wrap64 (t148 - t149)) - 1)) then ((eponymref16_year.f 10000).bind fun t150 => ((eponymref16_year.f 1970).bind fun t151 => (eponymref16_Civil.j1 k (wrap64 ((wrap64 (t150 - t151)) - 1))))) else (eponymref16_Civil.j1 k x0)))
def eponymref16_Civil.j1 : Nat → Int → Option (Int × Int × Int)
  | 0, _ => none
  | k + 1, x0 => (eponymref16_year.f 1970).bind fun t152 => (eponymref16_Civil.l0 k (wrap64 (x0 + t152)) 0 9999)
def eponymref16_Civil.l0 : Nat → Int → Int → Int → Option (Int × Int × Int)
  | 0, _, _, _ => none
  | k + 1, x0, x5, x6 => if x5 < x6 then ((eponymref16_year.f (wrap64 (Int.tdiv (wrap64 ((wrap64 (x5 + x6)) + 1)) 2))).bind fun t153 => (if t153 ≤ x0 then (eponymref16_Civil.l0 k x0 (wrap64 (Int.tdiv (wrap64 ((wrap64 (x5 + x6)) + 1)) 2)) x6) else (eponymref16_Civil.l0 k x0 x5 (wrap64 ((wrap64 (Int.tdiv (wrap64 ((wrap64 (x5 + x6)) + 1)) 2)) - 1))))) else ((eponymref16_year.f x5).bind fun t154 => (eponymref16_Civil.l1 k (wrap64 (x0 - t154)) x5 1))
def eponymref16_Civil.l1 : Nat → Int → Int → Int → Option (Int × Int × Int)
  | 0, _, _, _ => none
  | k + 1, x0, x5, x8 => (eponymref16_Length.f x5 x8).bind fun t155 => (if x0 ≥ t155 then ((eponymref16_Length.f x5 x8).bind fun t156 => (eponymref16_Civil.l1 k (wrap64 (x0 - t156)) x5 (wrap64 (x8 + 1)))) else (some (x5, x8, wrap64 (x0 + 1))))
end
def eponymref16_Civil.f (k : Nat) (a0 : Int) : Option (Int × Int × Int) := (eponymref16_year.f 1970).bind fun t146 => (if a0 < (wrap64 (-t146)) then ((eponymref16_year.f 1970).bind fun t147 => (eponymref16_Civil.j0 k (wrap64 (-t147)))) else (eponymref16_Civil.j0 k a0))
theorem eponymref16_Civil.mono_l : ∀ k, (∀ y0, LeO (eponymref16_Civil.j0 k y0) (eponymref16_Civil.j0 (k + 1) y0)) ∧ (∀ y0, LeO (eponymref16_Civil.j1 k y0) (eponymref16_Civil.j1 (k + 1) y0)) ∧ (∀ y0 y1 y2, LeO (eponymref16_Civil.l0 k y0 y1 y2) (eponymref16_Civil.l0 (k + 1) y0 y1 y2)) ∧ (∀ y0 y1 y2, LeO (eponymref16_Civil.l1 k y0 y1 y2) (eponymref16_Civil.l1 (k + 1) y0 y1 y2))
  | 0 => ⟨fun _ r h => by simp [eponymref16_Civil.j0] at h, fun _ r h => by simp [eponymref16_Civil.j1] at h, fun _ _ _ r h => by simp [eponymref16_Civil.l0] at h, fun _ _ _ r h => by simp [eponymref16_Civil.l1] at h⟩
  | k + 1 => by
    obtain ⟨ih0, ih1, ih2, ih3⟩ := eponymref16_Civil.mono_l k
    refine ⟨?_, ?_, ?_, ?_⟩
    · intro y0
      unfold eponymref16_Civil.j0
      repeat' first
      | (with_reducible exact ih0 _)
      | (with_reducible exact ih1 _)
      | (with_reducible exact ih2 _ _ _)
      | (with_reducible exact ih3 _ _ _)
      | (with_reducible exact LeO.refl _)
      | (with_reducible exact LeO.none _)
      | (with_reducible refine LeO.ite ?_ ?_)
      | (with_reducible refine LeO.bind ?_ (fun _ => ?_))
      | exact ih0 _
      | exact ih1 _
      | exact ih2 _ _ _
      | exact ih3 _ _ _
      | exact LeO.none _
      | refine LeO.ite ?_ ?_
      | refine LeO.bind ?_ (fun _ => ?_)
    · intro y0
      unfold eponymref16_Civil.j1
      repeat' first
      | (with_reducible exact ih0 _)
      | (with_reducible exact ih1 _)
      | (with_reducible exact ih2 _ _ _)
      | (with_reducible exact ih3 _ _ _)
      | (with_reducible exact LeO.refl _)
      | (with_reducible exact LeO.none _)
      | (with_reducible refine LeO.ite ?_ ?_)
      | (with_reducible refine LeO.bind ?_ (fun _ => ?_))
      | exact ih0 _
      | exact ih1 _
      | exact ih2 _ _ _
      | exact ih3 _ _ _
      | exact LeO.none _
      | refine LeO.ite ?_ ?_
      | refine LeO.bind ?_ (fun _ => ?_)
    · intro y0 y1 y2
      unfold eponymref16_Civil.l0
      repeat' first
      | (with_reducible exact ih0 _)
      | (with_reducible exact ih1 _)
      | (with_reducible exact ih2 _ _ _)
      | (with_reducible exact ih3 _ _ _)
      | (with_reducible exact LeO.refl _)
      | (with_reducible exact LeO.none _)
      | (with_reducible refine LeO.ite ?_ ?_)
      | (with_reducible refine LeO.bind ?_ (fun _ => ?_))
      | exact ih0 _
      | exact ih1 _
      | exact ih2 _ _ _
      | exact ih3 _ _ _
      | exact LeO.none _
      | refine LeO.ite ?_ ?_
      | refine LeO.bind ?_ (fun _ => ?_)
    · intro y0 y1 y2
      unfold eponymref16_Civil.l1
      repeat' first
      | (with_reducible exact ih0 _)
      | (with_reducible exact ih1 _)
      | (with_reducible exact ih2 _ _ _)
      | (with_reducible exact ih3 _ _ _)
      | (with_reducible exact LeO.refl _)
      | (with_reducible exact LeO.none _)
      | (with_reducible refine LeO.ite ?_ ?_)
      | (with_reducible refine LeO.bind ?_ (fun _ => ?_))
      | exact ih0 _
      | exact ih1 _
      | exact ih2 _ _ _
      | exact ih3 _ _ _
      | exact LeO.none _
      | refine LeO.ite ?_ ?_
      | refine LeO.bind ?_ (fun _ => ?_)
theorem eponymref16_Civil.mono : ∀ a0 k, LeO (eponymref16_Civil.f k a0) (eponymref16_Civil.f (k + 1) a0) := by
  intro a0 k
  obtain ⟨ih0, ih1, ih2, ih3⟩ := eponymref16_Civil.mono_l k
  unfold eponymref16_Civil.f
  repeat' first
      | (with_reducible exact ih0 _)
      | (with_reducible exact ih1 _)
      | (with_reducible exact ih2 _ _ _)
      | (with_reducible exact ih3 _ _ _)
      | (with_reducible exact LeO.refl _)
      | (with_reducible exact LeO.none _)
      | (with_reducible refine LeO.ite ?_ ?_)
      | (with_reducible refine LeO.bind ?_ (fun _ => ?_))
      | exact ih0 _
      | exact ih1 _
      | exact ih2 _ _ _
      | exact ih3 _ _ _
      | exact LeO.none _
      | refine LeO.ite ?_ ?_
      | refine LeO.bind ?_ (fun _ => ?_)
set_option maxHeartbeats 8000000 in
set_option maxRecDepth 100000 in
theorem eponymref16_Civil.calls (k : Nat) (a0 : Int) (r1 : Int) (r2 : Int) (r3 : Int) (w : World) (h : eponymref16_Civil.f k a0 = some (r1, r2, r3)) :
    Calls Tryd.prog 20 #[.int .i64 a0] w fun e w' => e = .returned (.tuple #[.int .i64 r1, .int .i64 r2, .int .i64 r3]) ∧ Drawn0 w w' := by
  have H : ((eponymref16_year.f 1970).bind fun t146 => (if a0 < (wrap64 (-t146)) then ((eponymref16_year.f 1970).bind fun t147 => (eponymref16_Civil.j0 k (wrap64 (-t147)))) else (eponymref16_Civil.j0 k a0))) = some (r1, r2, r3) := h
  clear h
  replace H := Option.bind_eq_some_iff.mp H
  obtain ⟨t146, A20, H⟩ := H
  replace H : (if a0 < (wrap64 (-t146)) then ((eponymref16_year.f 1970).bind fun t147 => (eponymref16_Civil.j0 k (wrap64 (-t147)))) else (eponymref16_Civil.j0 k a0)) = some (r1, r2, r3) := H
  have A2 := Aside0.mk A20
  clear A20
  have HC3 := Aside0.mk H
  clear H
  go_enter Tryd.func20, Tryd.ntmps20
  go_upto_if 12 with (first | ((with_reducible refine gate_callee (f := 45) rfl ?_); refine goesL_ (some 10) rfl rfl Tryd.func45 (by kernel_rfl) rfl #[.int .i64 1970] rfl (by (try simp only [List.map_toArray, List.map_cons, List.map_nil]); first | done | rfl | (simp only [List.length_drop, List.length_take]; rfl)) ?_; (with_reducible refine (eponymref16_year.calls 1970 t146 _ A2.out).mono ?_); rintro e w' ⟨rfl, ⟨nd, rfl⟩⟩; refine ⟨_, rfl, ?_⟩))
  (try simp only [Act.put, List.setIfInBounds_toArray, List.set_cons_zero, List.set_cons_succ])
  go_cut [0] (fun v0 wc => ∃ (kq : Nat) (x0_2 : Int), v0 = .int .i64 x0_2 ∧ Aside0 (eponymref16_Civil.j0 kq x0_2 = some (r1, r2, r3)) ∧ Aside0 (kq ≤ k) ∧ Drawn0 w wc)
  case first =>
    have H := HC3.out
    clear HC3
    by_cases c4 : a0 < (wrap64 (-t146))
    · rw [if_pos c4] at H
      have c4b0 : decide (a0 < (wrap64 (-t146))) = true := decide_eq_true c4
      clear c4
      (first | rw [c4b0] | (simp only [i64_w, i32_w]; rw [c4b0]) | skip)
      replace H := Option.bind_eq_some_iff.mp H
      obtain ⟨t147, A50, H⟩ := H
      replace H : (eponymref16_Civil.j0 k (wrap64 (-t147))) = some (r1, r2, r3) := H
      have A5 := Aside0.mk A50
      clear A50
      have H' := Aside0.mk H
      clear H
      go_wp2_with (first | ((with_reducible refine gate_callee (f := 45) rfl ?_); refine goesL_ (some 13) rfl rfl Tryd.func45 (by kernel_rfl) rfl #[.int .i64 1970] rfl (by (try simp only [List.map_toArray, List.map_cons, List.map_nil]); first | done | rfl | (simp only [List.length_drop, List.length_take]; rfl)) ?_; (with_reducible refine (eponymref16_year.calls 1970 t147 _ A5.out).mono ?_); rintro e w' ⟨rfl, ⟨nd, rfl⟩⟩; refine ⟨_, rfl, ?_⟩))
      go_meet
      case rel => exact ⟨_, (wrap64 (-t147)), (by first | rfl | (simp; done) | (simp [*]; done)), H', ⟨by first | omega | exact Nat.le_refl _⟩, by repeat (first | exact Drawn0.refl _ | apply Drawn0.step)⟩
    · rw [if_neg c4] at H
      have c4b0 : decide (a0 < (wrap64 (-t146))) = false := decide_eq_false c4
      clear c4
      (first | rw [c4b0] | (simp only [i64_w, i32_w]; rw [c4b0]) | skip)
      have H' := Aside0.mk H
      clear H
      go_wp2
      go_meet
      case rel => exact ⟨_, (a0), (by first | rfl | (simp; done) | (simp [*]; done)), H', ⟨by first | omega | exact Nat.le_refl _⟩, by repeat (first | exact Drawn0.refl _ | apply Drawn0.step)⟩
  case rest =>
    clear HC3
    try clear c2
    try clear p2
    try clear c4
    try clear c4b0
    obtain ⟨kq, x0_2, rfl, HA, HJ2, ⟨mc2, rfl⟩⟩ := hcut
    cases kq with
    | zero => exact absurd HA.out (by simp [eponymref16_Civil.j0])
    | succ kj2 =>
      have H := HA.out
      clear HA
      simp only [eponymref16_Civil.j0] at H
      replace H := Option.bind_eq_some_iff.mp H
      obtain ⟨t148, A60, H⟩ := H
      replace H : ((eponymref16_year.f 1970).bind fun t149 => (if x0_2 > (wrap64 ((wrap64 (t148 - t149)) - 1)) then ((eponymref16_year.f 10000).bind fun t150 => ((eponymref16_year.f 1970).bind fun t151 => (eponymref16_Civil.j1 kj2 (wrap64 ((wrap64 (t150 - t151)) - 1))))) else (eponymref16_Civil.j1 kj2 x0_2))) = some (r1, r2, r3) := H
      have A6 := Aside0.mk A60
      clear A60
      replace H := Option.bind_eq_some_iff.mp H
      obtain ⟨t149, A70, H⟩ := H
      replace H : (if x0_2 > (wrap64 ((wrap64 (t148 - t149)) - 1)) then ((eponymref16_year.f 10000).bind fun t150 => ((eponymref16_year.f 1970).bind fun t151 => (eponymref16_Civil.j1 kj2 (wrap64 ((wrap64 (t150 - t151)) - 1))))) else (eponymref16_Civil.j1 kj2 x0_2)) = some (r1, r2, r3) := H
      have A7 := Aside0.mk A70
      clear A70
      have HC8 := Aside0.mk H
      clear H
      go_upto_if 20 with (first | ((with_reducible refine gate_callee (f := 45) rfl ?_); refine goesL_ (some 16) rfl rfl Tryd.func45 (by kernel_rfl) rfl #[.int .i64 10000] rfl (by (try simp only [List.map_toArray, List.map_cons, List.map_nil]); first | done | rfl | (simp only [List.length_drop, List.length_take]; rfl)) ?_; (with_reducible refine (eponymref16_year.calls 10000 t148 _ A6.out).mono ?_); rintro e w' ⟨rfl, ⟨nd, rfl⟩⟩; refine ⟨_, rfl, ?_⟩) | ((with_reducible refine gate_callee (f := 45) rfl ?_); refine goesL_ (some 17) rfl rfl Tryd.func45 (by kernel_rfl) rfl #[.int .i64 1970] rfl (by (try simp only [List.map_toArray, List.map_cons, List.map_nil]); first | done | rfl | (simp only [List.length_drop, List.length_take]; rfl)) ?_; (with_reducible refine (eponymref16_year.calls 1970 t149 _ A7.out).mono ?_); rintro e w' ⟨rfl, ⟨nd, rfl⟩⟩; refine ⟨_, rfl, ?_⟩))
      (try simp only [Act.put, List.setIfInBounds_toArray, List.set_cons_zero, List.set_cons_succ])
      go_cut [0] (fun v0 wc => ∃ (kq : Nat) (x0_7 : Int), v0 = .int .i64 x0_7 ∧ Aside0 (eponymref16_Civil.j1 kq x0_7 = some (r1, r2, r3)) ∧ Aside0 (kq ≤ kj2) ∧ Drawn0 w wc)
      case first =>
        have H := HC8.out
        clear HC8
        by_cases c9 : x0_2 > (wrap64 ((wrap64 (t148 - t149)) - 1))
        · rw [if_pos c9] at H
          have c9b0 : decide ((wrap64 ((wrap64 (t148 - t149)) - 1)) < x0_2) = true := decide_eq_true c9
          clear c9
          (first | rw [c9b0] | (simp only [i64_w, i32_w]; rw [c9b0]) | skip)
          replace H := Option.bind_eq_some_iff.mp H
          obtain ⟨t150, A100, H⟩ := H
          replace H : ((eponymref16_year.f 1970).bind fun t151 => (eponymref16_Civil.j1 kj2 (wrap64 ((wrap64 (t150 - t151)) - 1)))) = some (r1, r2, r3) := H
          have A10 := Aside0.mk A100
          clear A100
          replace H := Option.bind_eq_some_iff.mp H
          obtain ⟨t151, A110, H⟩ := H
          replace H : (eponymref16_Civil.j1 kj2 (wrap64 ((wrap64 (t150 - t151)) - 1))) = some (r1, r2, r3) := H
          have A11 := Aside0.mk A110
          clear A110
          have H' := Aside0.mk H
          clear H
          go_wp2_with (first | ((with_reducible refine gate_callee (f := 45) rfl ?_); refine goesL_ (some 21) rfl rfl Tryd.func45 (by kernel_rfl) rfl #[.int .i64 10000] rfl (by (try simp only [List.map_toArray, List.map_cons, List.map_nil]); first | done | rfl | (simp only [List.length_drop, List.length_take]; rfl)) ?_; (with_reducible refine (eponymref16_year.calls 10000 t150 _ A10.out).mono ?_); rintro e w' ⟨rfl, ⟨nd, rfl⟩⟩; refine ⟨_, rfl, ?_⟩) | ((with_reducible refine gate_callee (f := 45) rfl ?_); refine goesL_ (some 22) rfl rfl Tryd.func45 (by kernel_rfl) rfl #[.int .i64 1970] rfl (by (try simp only [List.map_toArray, List.map_cons, List.map_nil]); first | done | rfl | (simp only [List.length_drop, List.length_take]; rfl)) ?_; (with_reducible refine (eponymref16_year.calls 1970 t151 _ A11.out).mono ?_); rintro e w' ⟨rfl, ⟨nd, rfl⟩⟩; refine ⟨_, rfl, ?_⟩))
          go_meet
          case rel => exact ⟨_, (wrap64 ((wrap64 (t150 - t151)) - 1)), (by first | rfl | (simp; done) | (simp [*]; done)), H', ⟨by have := HJ2.out; first | omega | exact Nat.le_refl _⟩, by repeat (first | exact Drawn0.refl _ | apply Drawn0.step)⟩
        · rw [if_neg c9] at H
          have c9b0 : decide ((wrap64 ((wrap64 (t148 - t149)) - 1)) < x0_2) = false := decide_eq_false c9
          clear c9
          (first | rw [c9b0] | (simp only [i64_w, i32_w]; rw [c9b0]) | skip)
          have H' := Aside0.mk H
          clear H
          go_wp2
          go_meet
          case rel => exact ⟨_, (x0_2), (by first | rfl | (simp; done) | (simp [*]; done)), H', ⟨by have := HJ2.out; first | omega | exact Nat.le_refl _⟩, by repeat (first | exact Drawn0.refl _ | apply Drawn0.step)⟩
      case rest =>
        clear HC8
        try clear c2
        try clear p2
        try clear c4
        try clear c4b0
        try clear p6
        try clear c9
        try clear c9b0
        try clear p2
        obtain ⟨kq, x0_7, rfl, HA, HJ7, ⟨mc7, rfl⟩⟩ := hcut
        cases kq with
        | zero => exact absurd HA.out (by simp [eponymref16_Civil.j1])
        | succ kj7 =>
          have H := HA.out
          clear HA
          simp only [eponymref16_Civil.j1] at H
          replace H := Option.bind_eq_some_iff.mp H
          obtain ⟨t152, A120, H⟩ := H
          replace H : (eponymref16_Civil.l0 kj7 (wrap64 (x0_7 + t152)) 0 9999) = some (r1, r2, r3) := H
          have A12 := Aside0.mk A120
          clear A120
          have H' := Aside0.mk H
          clear H
          go_wp2_with (first | ((with_reducible refine gate_callee (f := 45) rfl ?_); refine goesL_ (some 26) rfl rfl Tryd.func45 (by kernel_rfl) rfl #[.int .i64 1970] rfl (by (try simp only [List.map_toArray, List.map_cons, List.map_nil]); first | done | rfl | (simp only [List.length_drop, List.length_take]; rfl)) ?_; (with_reducible refine (eponymref16_year.calls 1970 t152 _ A12.out).mono ?_); rintro e w' ⟨rfl, ⟨nd, rfl⟩⟩; refine ⟨_, rfl, ?_⟩))
          go_loopg [5, 6] kj7 (fun kq v5 v6 w' => ∃ (x5_3 : Int) (x6_3 : Int), v5 = .int .i64 x5_3 ∧ v6 = .int .i64 x6_3 ∧ Aside0 (eponymref16_Civil.l0 kq (wrap64 (x0_7 + t152)) x5_3 x6_3 = some (r1, r2, r3)) ∧ Aside0 (kq ≤ kj7) ∧ Drawn0 w w')
          case atStart => exact ⟨(0), (9999), (by first | rfl | (simp; done) | (simp [*]; done)), (by first | rfl | (simp; done) | (simp [*]; done)), H', ⟨Nat.le_refl _⟩, by repeat (first | exact Drawn0.refl _ | apply Drawn0.step)⟩
          case round =>
            clear H'
            try clear c2
            try clear p2
            try clear c4
            try clear c4b0
            try clear p6
            try clear c7
            try clear c9
            try clear c9b0
            try clear p2
            try clear p6
            obtain ⟨x5_3, x6_3, rfl, rfl, HA, HK3, ⟨m3, rfl⟩⟩ := hrel
            cases gk with
            | zero => exact absurd HA.out (by simp [eponymref16_Civil.l0])
            | succ k3 =>
              have H := HA.out
              clear HA
              simp only [eponymref16_Civil.l0] at H
              by_cases c13 : x5_3 < x6_3
              · rw [if_pos c13] at H
                have c13b0 : decide (x5_3 < x6_3) = true := decide_eq_true c13
                clear c13
                replace H := Option.bind_eq_some_iff.mp H
                obtain ⟨t153, A140, H⟩ := H
                replace H : (if t153 ≤ (wrap64 (x0_7 + t152)) then (eponymref16_Civil.l0 k3 (wrap64 (x0_7 + t152)) (wrap64 (Int.tdiv (wrap64 ((wrap64 (x5_3 + x6_3)) + 1)) 2)) x6_3) else (eponymref16_Civil.l0 k3 (wrap64 (x0_7 + t152)) x5_3 (wrap64 ((wrap64 (Int.tdiv (wrap64 ((wrap64 (x5_3 + x6_3)) + 1)) 2)) - 1)))) = some (r1, r2, r3) := H
                have A14 := Aside0.mk A140
                clear A140
                by_cases c15 : t153 ≤ (wrap64 (x0_7 + t152))
                · rw [if_pos c15] at H
                  have c15b0 : decide (t153 ≤ (wrap64 (x0_7 + t152))) = true := decide_eq_true c15
                  clear c15
                  have H' := Aside0.mk H
                  clear H
                  go_wp2_with (first | ((with_reducible refine gate_callee (f := 45) rfl ?_); refine goesL_ (some 37) rfl rfl Tryd.func45 (by kernel_rfl) rfl #[.int .i64 (wrap64 (Int.tdiv (wrap64 ((wrap64 (x5_3 + x6_3)) + 1)) 2))] rfl (by (try simp only [List.map_toArray, List.map_cons, List.map_nil]); first | done | rfl | (simp only [List.length_drop, List.length_take]; rfl)) ?_; (with_reducible refine (eponymref16_year.calls (wrap64 (Int.tdiv (wrap64 ((wrap64 (x5_3 + x6_3)) + 1)) 2)) t153 _ A14.out).mono ?_); rintro e w' ⟨rfl, ⟨nd, rfl⟩⟩; refine ⟨_, rfl, ?_⟩))
                  go_roundg k3
                  case measure => have := HJ2.out; have := HJ7.out; have := HK3.out; omega
                  case rel => exact ⟨(wrap64 (Int.tdiv (wrap64 ((wrap64 (x5_3 + x6_3)) + 1)) 2)), (x6_3), (by first | rfl | (simp; done) | (simp [*]; done)), (by first | rfl | (simp; done) | (simp [*]; done)), H', ⟨by have := HJ2.out; have := HJ7.out; have := HK3.out; omega⟩, by repeat (first | exact Drawn0.refl _ | apply Drawn0.step)⟩
                · rw [if_neg c15] at H
                  have c15b0 : decide (t153 ≤ (wrap64 (x0_7 + t152))) = false := decide_eq_false c15
                  clear c15
                  have H' := Aside0.mk H
                  clear H
                  go_wp2_with (first | ((with_reducible refine gate_callee (f := 45) rfl ?_); refine goesL_ (some 37) rfl rfl Tryd.func45 (by kernel_rfl) rfl #[.int .i64 (wrap64 (Int.tdiv (wrap64 ((wrap64 (x5_3 + x6_3)) + 1)) 2))] rfl (by (try simp only [List.map_toArray, List.map_cons, List.map_nil]); first | done | rfl | (simp only [List.length_drop, List.length_take]; rfl)) ?_; (with_reducible refine (eponymref16_year.calls (wrap64 (Int.tdiv (wrap64 ((wrap64 (x5_3 + x6_3)) + 1)) 2)) t153 _ A14.out).mono ?_); rintro e w' ⟨rfl, ⟨nd, rfl⟩⟩; refine ⟨_, rfl, ?_⟩))
                  go_roundg k3
                  case measure => have := HJ2.out; have := HJ7.out; have := HK3.out; omega
                  case rel => exact ⟨(x5_3), (wrap64 ((wrap64 (Int.tdiv (wrap64 ((wrap64 (x5_3 + x6_3)) + 1)) 2)) - 1)), (by first | rfl | (simp; done) | (simp [*]; done)), (by first | rfl | (simp; done) | (simp [*]; done)), H', ⟨by have := HJ2.out; have := HJ7.out; have := HK3.out; omega⟩, by repeat (first | exact Drawn0.refl _ | apply Drawn0.step)⟩
              · rw [if_neg c13] at H
                have c13b0 : decide (x5_3 < x6_3) = false := decide_eq_false c13
                clear c13
                replace H := Option.bind_eq_some_iff.mp H
                obtain ⟨t154, A160, H⟩ := H
                replace H : (eponymref16_Civil.l1 k3 (wrap64 ((wrap64 (x0_7 + t152)) - t154)) x5_3 1) = some (r1, r2, r3) := H
                have A16 := Aside0.mk A160
                clear A160
                have H' := Aside0.mk H
                clear H
                go_wp2_with (first | ((with_reducible refine gate_callee (f := 45) rfl ?_); refine goesL_ (some 45) rfl rfl Tryd.func45 (by kernel_rfl) rfl #[.int .i64 x5_3] rfl (by (try simp only [List.map_toArray, List.map_cons, List.map_nil]); first | done | rfl | (simp only [List.length_drop, List.length_take]; rfl)) ?_; (with_reducible refine (eponymref16_year.calls x5_3 t154 _ A16.out).mono ?_); rintro e w' ⟨rfl, ⟨nd, rfl⟩⟩; refine ⟨_, rfl, ?_⟩))
                go_loopg [0, 8] k3 (fun kq v0 v8 w' => ∃ (x0_4 : Int) (x8_4 : Int), v0 = .int .i64 x0_4 ∧ v8 = .int .i64 x8_4 ∧ Aside0 (eponymref16_Civil.l1 kq x0_4 x5_3 x8_4 = some (r1, r2, r3)) ∧ Aside0 (kq ≤ k3) ∧ Drawn0 w w')
                case atStart => exact ⟨(wrap64 ((wrap64 (x0_7 + t152)) - t154)), (1), (by first | rfl | (simp; done) | (simp [*]; done)), (by first | rfl | (simp; done) | (simp [*]; done)), H', ⟨Nat.le_refl _⟩, by repeat (first | exact Drawn0.refl _ | apply Drawn0.step)⟩
                case round =>
                  clear H'
                  try clear c1
                  try clear c2
                  try clear p2
                  try clear c4
                  try clear c4b0
                  try clear p6
                  try clear c7
                  try clear c9
                  try clear c9b0
                  try clear c13
                  try clear c13b0
                  try clear c15
                  try clear c15b0
                  try clear p2
                  try clear p6
                  obtain ⟨x0_4, x8_4, rfl, rfl, HA, HK4, ⟨m4, rfl⟩⟩ := hrel
                  cases gk with
                  | zero => exact absurd HA.out (by simp [eponymref16_Civil.l1])
                  | succ k4 =>
                    have H := HA.out
                    clear HA
                    simp only [eponymref16_Civil.l1] at H
                    replace H := Option.bind_eq_some_iff.mp H
                    obtain ⟨t155, A170, H⟩ := H
                    replace H : (if x0_4 ≥ t155 then ((eponymref16_Length.f x5_3 x8_4).bind fun t156 => (eponymref16_Civil.l1 k4 (wrap64 (x0_4 - t156)) x5_3 (wrap64 (x8_4 + 1)))) else (some (x5_3, x8_4, wrap64 (x0_4 + 1)))) = some (r1, r2, r3) := H
                    have A17 := Aside0.mk A170
                    clear A170
                    by_cases c18 : x0_4 ≥ t155
                    · rw [if_pos c18] at H
                      have c18b0 : decide (t155 ≤ x0_4) = true := decide_eq_true c18
                      clear c18
                      replace H := Option.bind_eq_some_iff.mp H
                      obtain ⟨t156, A190, H⟩ := H
                      replace H : (eponymref16_Civil.l1 k4 (wrap64 (x0_4 - t156)) x5_3 (wrap64 (x8_4 + 1))) = some (r1, r2, r3) := H
                      have A19 := Aside0.mk A190
                      clear A190
                      have H' := Aside0.mk H
                      clear H
                      go_wp2_with (first | ((with_reducible refine gate_callee (f := 35) rfl ?_); refine goesL_ (some 50) rfl rfl Tryd.func35 (by kernel_rfl) rfl #[.int .i64 x5_3, .int .i64 x8_4] rfl (by (try simp only [List.map_toArray, List.map_cons, List.map_nil]); first | done | rfl | (simp only [List.length_drop, List.length_take]; rfl)) ?_; (with_reducible refine (eponymref16_Length.calls x5_3 x8_4 t155 _ A17.out).mono ?_); rintro e w' ⟨rfl, ⟨nd, rfl⟩⟩; refine ⟨_, rfl, ?_⟩) | ((with_reducible refine gate_callee (f := 35) rfl ?_); refine goesL_ (some 55) rfl rfl Tryd.func35 (by kernel_rfl) rfl #[.int .i64 x5_3, .int .i64 x8_4] rfl (by (try simp only [List.map_toArray, List.map_cons, List.map_nil]); first | done | rfl | (simp only [List.length_drop, List.length_take]; rfl)) ?_; (with_reducible refine (eponymref16_Length.calls x5_3 x8_4 t156 _ A19.out).mono ?_); rintro e w' ⟨rfl, ⟨nd, rfl⟩⟩; refine ⟨_, rfl, ?_⟩))
                      go_roundg k4
                      case measure => have := HJ2.out; have := HJ7.out; have := HK3.out; have := HK4.out; omega
                      case rel => exact ⟨(wrap64 (x0_4 - t156)), (wrap64 (x8_4 + 1)), (by first | rfl | (simp; done) | (simp [*]; done)), (by first | rfl | (simp; done) | (simp [*]; done)), H', ⟨by have := HJ2.out; have := HJ7.out; have := HK3.out; have := HK4.out; omega⟩, by repeat (first | exact Drawn0.refl _ | apply Drawn0.step)⟩
                    · rw [if_neg c18] at H
                      have c18b0 : decide (t155 ≤ x0_4) = false := decide_eq_false c18
                      clear c18
                      simp only [Option.some.injEq, Prod.mk.injEq] at H
                      obtain ⟨rfl, rfl, rfl⟩ := H
                      go_wp2_with (first | ((with_reducible refine gate_callee (f := 35) rfl ?_); refine goesL_ (some 50) rfl rfl Tryd.func35 (by kernel_rfl) rfl #[.int .i64 x5_3, .int .i64 x8_4] rfl (by (try simp only [List.map_toArray, List.map_cons, List.map_nil]); first | done | rfl | (simp only [List.length_drop, List.length_take]; rfl)) ?_; (with_reducible refine (eponymref16_Length.calls x5_3 x8_4 t155 _ A17.out).mono ?_); rintro e w' ⟨rfl, ⟨nd, rfl⟩⟩; refine ⟨_, rfl, ?_⟩))
                      go_ret3
                      exact ⟨by first | rfl | (simp; done) | (simp [*]; done), by repeat (first | exact Drawn0.refl _ | apply Drawn0.step)⟩

/-! ### eponymref16_cut: function 42 -/
def eponymref16_cut.f (a0_0 : Int) (a0_1 : Int) : Option (Int × Int) := some (wrap64 ((wrap64 (Int.tdiv (wrap64 (a0_0 + 62167219200)) 86400)) - 719528), Int.tmod (wrap64 (a0_0 + 62167219200)) 86400)
set_option maxHeartbeats 8000000 in
set_option maxRecDepth 100000 in
theorem eponymref16_cut.calls (a0_0 : Int) (a0_1 : Int) (r1 : Int) (r2 : Int) (w : World) (h : eponymref16_cut.f a0_0 a0_1 = some (r1, r2)) :
    Calls Tryd.prog 42 #[.agg #[.int .i64 a0_0, .int .i64 a0_1]] w fun e w' => e = .returned (.tuple #[.int .i64 r1, .int .i64 r2]) ∧ Below w.heap.size w w' := by
  have hu31 := Tryd.underlying31
  have HB := Aside0.mk (Below.refl w.heap.size w)
  have H : (some (wrap64 ((wrap64 (Int.tdiv (wrap64 (a0_0 + 62167219200)) 86400)) - 719528), Int.tmod (wrap64 (a0_0 + 62167219200)) 86400)) = some (r1, r2) := h
  clear h
  simp only [Option.some.injEq, Prod.mk.injEq] at H
  obtain ⟨rfl, rfl⟩ := H
  go_enter Tryd.func42, Tryd.ntmps42
  go_wp2_with (first | ((with_reducible refine gate_dst (N := 1) rfl ?_); refine box_event ?hg (N := 1) ?hd (cs := #[.int .i64 a0_0, .int .i64 a0_1]) (t := 31) ?hr ?_; (case hd => rfl); (case hg => rfl); (case hr => first | (go_simp; done) | (go_simp; rfl)); intro gb157 hg w2 hbox hb; have n0_ := Aside0.mk (below_step (by repeat (first | (with_reducible first | exact HB.out | apply below_alloc | apply pw_below_drewN | apply below_drew1) | exact HB.out)) hb); have n1_ := Aside0.mk (hbox); have n2_ := Aside0.mk ((by rw [hg]; exact (below_size (by repeat (first | (with_reducible first | exact HB.out | apply below_alloc | apply pw_below_drewN | apply below_drew1) | exact HB.out))) : w.heap.size ≤ gb157)); have n3_ := Aside0.mk ((by rw [hg]; exact (below_size (by repeat (first | (with_reducible first | exact HB.out | apply below_alloc | apply pw_below_drewN | apply below_drew1) | exact HB.out))) : w.heap.size ≤ gb157)); clear HB; have HB := n0_; have BK157 := n1_; have GW157 := n2_; have GE157 := n3_; clear n0_ n1_ n2_ n3_; clear hb hbox hg; have hcz3_0 : w2.cell? ⟨gb157, 0, none⟩ = some (.int .i64 a0_0) := (blk_cell BK157.out 0).trans rfl; have hcz3_1 : w2.cell? ⟨gb157, 1, none⟩ = some (.int .i64 a0_1) := (blk_cell BK157.out 1).trans rfl; have hfz3_0 := blk_frozen BK157.out 0; have hfz3_1 := blk_frozen BK157.out 1))
  go_ret2
  exact ⟨by first | rfl | (simp [errW_none, errW_some] <;> rfl) | (simp [*, errW_none, errW_some] <;> rfl), by repeat (first | (with_reducible first | exact HB.out | apply below_alloc | apply pw_below_drewN | apply below_drew1 | refine below_set ?_ GE157.out) | exact HB.out)⟩

/-! ### eponymref03_Digits: function 61 -/
mutual
def eponymref03_Digits.l0 : Nat → Int → Int → ByteArray → Option (ByteArray)
  | 0, _, _, _ => none
  | k + 1, x0, x1, x5 => if x0 > 0 then (eponymref03_Digits.j1 k x0 x1 x5 true) else (eponymref03_Digits.j1 k x0 x1 x5 (x5.toList == ([] : List UInt8)))
def eponymref03_Digits.j1 : Nat → Int → Int → ByteArray → Bool → Option (ByteArray)
  | 0, _, _, _, _ => none
  | k + 1, x0, x1, x5, x12 => if x12 = true then (if x1 = 0 then (none) else (if ((Int.tmod x0 x1) % 256) < 10 then ((some (([(((Int.tmod x0 x1) % 256) + 48) % 256] : List Int) : List Int)).bind fun y158 => (if (strOfNums y158).size + x5.size ≤ 9223372036854775807 then (eponymref03_Digits.l0 k (wrap64 (Int.tdiv x0 x1)) x1 ((strOfNums y158) ++ x5)) else (none))) else ((some (([(((Int.tmod x0 x1) % 256) + 55) % 256] : List Int) : List Int)).bind fun y161 => (if (strOfNums y161).size + x5.size ≤ 9223372036854775807 then (eponymref03_Digits.l0 k (wrap64 (Int.tdiv x0 x1)) x1 ((strOfNums y161) ++ x5)) else (none))))) else (some x5)
end
def eponymref03_Digits.f (k : Nat) (a0 : Int) (a1 : Int) : Option (ByteArray) := eponymref03_Digits.l0 k a0 a1 (⟨#[]⟩ : ByteArray)
theorem eponymref03_Digits.mono_l : ∀ k, (∀ y0 y1 y2, LeO (eponymref03_Digits.l0 k y0 y1 y2) (eponymref03_Digits.l0 (k + 1) y0 y1 y2)) ∧ (∀ y0 y1 y2 y3, LeO (eponymref03_Digits.j1 k y0 y1 y2 y3) (eponymref03_Digits.j1 (k + 1) y0 y1 y2 y3))
  | 0 => ⟨fun _ _ _ r h => by simp [eponymref03_Digits.l0] at h, fun _ _ _ _ r h => by simp [eponymref03_Digits.j1] at h⟩
  | k + 1 => by
    obtain ⟨ih0, ih1⟩ := eponymref03_Digits.mono_l k
    refine ⟨?_, ?_⟩
    · intro y0 y1 y2
      unfold eponymref03_Digits.l0
      repeat' first
      | (with_reducible exact ih0 _ _ _)
      | (with_reducible exact ih1 _ _ _ _)
      | (with_reducible exact LeO.refl _)
      | (with_reducible exact LeO.none _)
      | (with_reducible refine LeO.ite ?_ ?_)
      | (with_reducible refine LeO.bind ?_ (fun _ => ?_))
      | exact ih0 _ _ _
      | exact ih1 _ _ _ _
      | exact LeO.none _
      | refine LeO.ite ?_ ?_
      | refine LeO.bind ?_ (fun _ => ?_)
    · intro y0 y1 y2 y3
      unfold eponymref03_Digits.j1
      repeat' first
      | (with_reducible exact ih0 _ _ _)
      | (with_reducible exact ih1 _ _ _ _)
      | (with_reducible exact LeO.refl _)
      | (with_reducible exact LeO.none _)
      | (with_reducible refine LeO.ite ?_ ?_)
      | (with_reducible refine LeO.bind ?_ (fun _ => ?_))
      | exact ih0 _ _ _
      | exact ih1 _ _ _ _
      | exact LeO.none _
      | refine LeO.ite ?_ ?_
      | refine LeO.bind ?_ (fun _ => ?_)
theorem eponymref03_Digits.mono : ∀ a0 a1 k, LeO (eponymref03_Digits.f k a0 a1) (eponymref03_Digits.f (k + 1) a0 a1) := by
  intro a0 a1 k
  obtain ⟨ih0, ih1⟩ := eponymref03_Digits.mono_l k
  unfold eponymref03_Digits.f
  repeat' first
      | (with_reducible exact ih0 _ _ _)
      | (with_reducible exact ih1 _ _ _ _)
      | (with_reducible exact LeO.refl _)
      | (with_reducible exact LeO.none _)
      | (with_reducible refine LeO.ite ?_ ?_)
      | (with_reducible refine LeO.bind ?_ (fun _ => ?_))
      | exact ih0 _ _ _
      | exact ih1 _ _ _ _
      | exact LeO.none _
      | refine LeO.ite ?_ ?_
      | refine LeO.bind ?_ (fun _ => ?_)
set_option maxHeartbeats 8000000 in
set_option maxRecDepth 100000 in
theorem eponymref03_Digits.calls (k : Nat) (a0 : Int) (a1 : Int) (r : ByteArray) (w : World) (h : eponymref03_Digits.f k a0 a1 = some r) :
    Calls Tryd.prog 61 #[.int .i64 a0, .int .i64 a1] w fun e w' => e = .returned (.string r) ∧ Below w.heap.size w w' := by
  have HB := Aside0.mk (Below.refl w.heap.size w)
  have H : (eponymref03_Digits.l0 k a0 a1 (⟨#[]⟩ : ByteArray)) = some r := h
  clear h
  have H' := Aside0.mk H
  clear H
  go_enter Tryd.func61, Tryd.ntmps61
  go_wp2
  go_loopg [0, 5] k (fun kq v0 v5 w' => ∃ (x0_1 : Int) (x5_1 : ByteArray), v0 = .int .i64 x0_1 ∧ v5 = .string x5_1 ∧ Aside0 (eponymref03_Digits.l0 kq x0_1 a1 x5_1 = some r) ∧ Aside0 (kq ≤ k) ∧ Aside0 (Below w.heap.size w w'))
  case atStart => exact ⟨(a0), ((⟨#[]⟩ : ByteArray)), (by first | rfl | (simp; done) | (simp [*]; done)), (by first | rfl | (simp; done) | (simp [*]; done)), H', ⟨Nat.le_refl _⟩, ⟨by repeat (first | (with_reducible first | exact HB.out | apply below_alloc | apply pw_below_drewN | apply below_drew1) | exact HB.out)⟩⟩
  case round =>
    clear H'
    try clear p2
    obtain ⟨x0_1, x5_1, rfl, rfl, HA, HK1, HB⟩ := hrel
    cases gk with
    | zero => exact absurd HA.out (by simp [eponymref03_Digits.l0])
    | succ k1 =>
      have H := HA.out
      clear HA
      simp only [eponymref03_Digits.l0] at H
      have HC3 := Aside0.mk H
      clear H
      go_upto_region 2 with (fail)
      go_cut [12] (fun v12 wc => ∃ (kq : Nat) (x12_2 : Bool), v12 = .bool x12_2 ∧ Aside0 (eponymref03_Digits.j1 kq x0_1 a1 x5_1 x12_2 = some r) ∧ Aside0 (kq ≤ k1) ∧ Aside0 (Below w.heap.size w wc))
      case first =>
        have H := HC3.out
        clear HC3
        by_cases c4 : x0_1 > 0
        · rw [if_pos c4] at H
          have c4b0 : decide (0 < x0_1) = true := decide_eq_true c4
          clear c4
          (first | rw [c4b0] | (simp only [i64_w, i32_w]; rw [c4b0]) | skip)
          have H' := Aside0.mk H
          clear H
          go_wp2
          go_meet
          case rel => exact ⟨_, (true), (by first | rfl | (simp; done) | (simp [*]; done)), H', ⟨by have := HK1.out; first | omega | exact Nat.le_refl _⟩, ⟨by repeat (first | (with_reducible first | exact HB.out | apply below_alloc | apply pw_below_drewN | apply below_drew1) | exact HB.out)⟩⟩
        · rw [if_neg c4] at H
          have c4b0 : decide (0 < x0_1) = false := decide_eq_false c4
          clear c4
          (first | rw [c4b0] | (simp only [i64_w, i32_w]; rw [c4b0]) | skip)
          have H' := Aside0.mk H
          clear H
          go_wp2
          go_meet
          case rel => exact ⟨_, ((x5_1.toList == ([] : List UInt8))), (by first | rfl | (simp; done) | (simp [*]; done)), H', ⟨by have := HK1.out; first | omega | exact Nat.le_refl _⟩, ⟨by repeat (first | (with_reducible first | exact HB.out | apply below_alloc | apply pw_below_drewN | apply below_drew1) | exact HB.out)⟩⟩
      case rest =>
        clear HC3
        try clear p2
        try clear c4
        try clear c4b0
        try clear p2
        obtain ⟨kq, x12_2, rfl, HA, HJ2, HB⟩ := hcut
        cases kq with
        | zero => exact absurd HA.out (by simp [eponymref03_Digits.j1])
        | succ kj2 =>
          have H := HA.out
          clear HA
          simp only [eponymref03_Digits.j1] at H
          by_cases c5 : x12_2 = true
          · subst c5
            have H1 : (if a1 = 0 then (none) else (if ((Int.tmod x0_1 a1) % 256) < 10 then ((some (([(((Int.tmod x0_1 a1) % 256) + 48) % 256] : List Int) : List Int)).bind fun y158 => (if (strOfNums y158).size + x5_1.size ≤ 9223372036854775807 then (eponymref03_Digits.l0 kj2 (wrap64 (Int.tdiv x0_1 a1)) a1 ((strOfNums y158) ++ x5_1)) else (none))) else ((some (([(((Int.tmod x0_1 a1) % 256) + 55) % 256] : List Int) : List Int)).bind fun y161 => (if (strOfNums y161).size + x5_1.size ≤ 9223372036854775807 then (eponymref03_Digits.l0 kj2 (wrap64 (Int.tdiv x0_1 a1)) a1 ((strOfNums y161) ++ x5_1)) else (none))))) = some r := by rw [if_pos rfl] at H; exact H
            clear H
            have H := H1
            clear H1
            by_cases c6 : a1 = 0
            · rw [if_pos c6] at H
              exact absurd H (by simp)
            · rw [if_neg c6] at H
              have c6b0 : (a1 == 0) = false := beq_eq_false_iff_ne.mpr c6
              have c6b1 : (a1 != 0) = true := bne_iff_ne.mpr c6
              by_cases c7 : ((Int.tmod x0_1 a1) % 256) < 10
              · rw [if_pos c7] at H
                have c7b0 : decide (((Int.tmod x0_1 a1) % 256) < 10) = true := decide_eq_true c7
                clear c7
                obtain ⟨y158, hy158⟩ : ∃ y_ : List Int, y_ = (([(((Int.tmod x0_1 a1) % 256) + 48) % 256] : List Int)) := ⟨_, rfl⟩
                replace H : (if (strOfNums y158).size + x5_1.size ≤ 9223372036854775807 then (eponymref03_Digits.l0 kj2 (wrap64 (Int.tdiv x0_1 a1)) a1 ((strOfNums y158) ++ x5_1)) else (none)) = some r := by first | (rw [hy158]; with_reducible exact H) | (have H2_ := (Option.bind_some _ _).symm.trans H; rw [hy158]; with_reducible exact H2_) | (have H2_ := (Option.bind_some _ _).symm.trans H; with_reducible exact H2_) | with_reducible exact H | (rw [hy158]; exact H) | exact H
                have Ny158 := Aside0.mk hy158
                clear hy158
                by_cases c8 : (strOfNums y158).size + x5_1.size ≤ 9223372036854775807
                · rw [if_pos c8] at H
                  have c8b0 := eq_true c8
                  have c8b1 : decide ((strOfNums y158).size + x5_1.size ≤ 9223372036854775807) = true := decide_eq_true c8
                  try have c8b2 : (9223372036854775807 < (strOfNums y158).size + x5_1.size) = False := eq_false (Nat.not_lt.2 c8)
                  have H' := Aside0.mk H
                  clear H
                  go_wp2_with (first | ((with_reducible refine gate_dst (N := 24) rfl ?_); refine Kd.R_lit (Kd.int .u8) _ 5 ?hg (N := 24) ?hd (xs := ([(((Int.tmod x0_1 a1) % 256) + 48) % 256] : List Int)) (inner := [.int .u8 ((((Int.tmod x0_1 a1) % 256) + 48) % 256)]) (ok := fun _ => True) (okp := fun _ => True) ?hr ?hp (fun _ hk => hk) trivial (Below.refl _ _) (Nat.le_refl _) (by simp) ?_; (case hd => rfl); (case hg => rfl); (case hr => first | (go_simp; done) | (go_simp; rfl)); (case hp => exact (Reps.one (show Kd.M (Kd.int .u8) _ _ _ ((((Int.tmod x0_1 a1) % 256) + 48) % 256) [.int .u8 ((((Int.tmod x0_1 a1) % 256) + 48) % 256)] from rfl) (Reps.none _ _))); intro v159 w9 ho10 hb hg_ hnew_; clear hg_ hnew_; (first | rw [← Ny158.out] at ho10 | (simp only [Int.reduceToNat] at ho10; rw [← Ny158.out] at ho10)); have n0_ := Aside0.mk (Kd.R_lower ho10 (below_size (by repeat (first | (with_reducible first | exact HB.out | apply below_alloc | apply pw_below_drewN | apply below_drew1) | exact HB.out)))); have n1_ := Aside0.mk (below_step (by repeat (first | (with_reducible first | exact HB.out | apply below_alloc | apply pw_below_drewN | apply below_drew1) | exact HB.out)) hb); clear HB; have HO160 := n0_; have HB := n1_; clear n0_ n1_; clear hb ho10; have hcv11 := own_string (P := Tryd.prog) Tryd.underlying121 Tryd.underlying5 Tryd.underlying9 (Kd.own_of_R HO160.out)))
                  go_roundg kj2
                  case measure => have := HK1.out; have := HJ2.out; omega
                  case rel => exact ⟨(wrap64 (Int.tdiv x0_1 a1)), ((strOfNums y158) ++ x5_1), (by first | rfl | (simp; done) | (simp [*]; done)), (by first | rfl | (simp; done) | (simp [*]; done)), H', ⟨by have := HK1.out; have := HJ2.out; omega⟩, ⟨by repeat (first | (with_reducible first | exact HB.out | apply below_alloc | apply pw_below_drewN | apply below_drew1) | exact HB.out)⟩⟩
                · rw [if_neg c8] at H
                  exact absurd H (by simp)
              · rw [if_neg c7] at H
                have c7b0 : decide (((Int.tmod x0_1 a1) % 256) < 10) = false := decide_eq_false c7
                clear c7
                obtain ⟨y161, hy161⟩ : ∃ y_ : List Int, y_ = (([(((Int.tmod x0_1 a1) % 256) + 55) % 256] : List Int)) := ⟨_, rfl⟩
                replace H : (if (strOfNums y161).size + x5_1.size ≤ 9223372036854775807 then (eponymref03_Digits.l0 kj2 (wrap64 (Int.tdiv x0_1 a1)) a1 ((strOfNums y161) ++ x5_1)) else (none)) = some r := by first | (rw [hy161]; with_reducible exact H) | (have H2_ := (Option.bind_some _ _).symm.trans H; rw [hy161]; with_reducible exact H2_) | (have H2_ := (Option.bind_some _ _).symm.trans H; with_reducible exact H2_) | with_reducible exact H | (rw [hy161]; exact H) | exact H
                have Ny161 := Aside0.mk hy161
                clear hy161
                by_cases c12 : (strOfNums y161).size + x5_1.size ≤ 9223372036854775807
                · rw [if_pos c12] at H
                  have c12b0 := eq_true c12
                  have c12b1 : decide ((strOfNums y161).size + x5_1.size ≤ 9223372036854775807) = true := decide_eq_true c12
                  try have c12b2 : (9223372036854775807 < (strOfNums y161).size + x5_1.size) = False := eq_false (Nat.not_lt.2 c12)
                  have H' := Aside0.mk H
                  clear H
                  go_wp2_with (first | ((with_reducible refine gate_dst (N := 24) rfl ?_); refine Kd.R_lit (Kd.int .u8) _ 5 ?hg (N := 24) ?hd (xs := ([(((Int.tmod x0_1 a1) % 256) + 55) % 256] : List Int)) (inner := [.int .u8 ((((Int.tmod x0_1 a1) % 256) + 55) % 256)]) (ok := fun _ => True) (okp := fun _ => True) ?hr ?hp (fun _ hk => hk) trivial (Below.refl _ _) (Nat.le_refl _) (by simp) ?_; (case hd => rfl); (case hg => rfl); (case hr => first | (go_simp; done) | (go_simp; rfl)); (case hp => exact (Reps.one (show Kd.M (Kd.int .u8) _ _ _ ((((Int.tmod x0_1 a1) % 256) + 55) % 256) [.int .u8 ((((Int.tmod x0_1 a1) % 256) + 55) % 256)] from rfl) (Reps.none _ _))); intro v162 w13 ho14 hb hg_ hnew_; clear hg_ hnew_; (first | rw [← Ny161.out] at ho14 | (simp only [Int.reduceToNat] at ho14; rw [← Ny161.out] at ho14)); have n0_ := Aside0.mk (Kd.R_lower ho14 (below_size (by repeat (first | (with_reducible first | exact HB.out | apply below_alloc | apply pw_below_drewN | apply below_drew1) | exact HB.out)))); have n1_ := Aside0.mk (below_step (by repeat (first | (with_reducible first | exact HB.out | apply below_alloc | apply pw_below_drewN | apply below_drew1) | exact HB.out)) hb); clear HB; have HO163 := n0_; have HB := n1_; clear n0_ n1_; clear hb ho14; have hcv15 := own_string (P := Tryd.prog) Tryd.underlying121 Tryd.underlying5 Tryd.underlying9 (Kd.own_of_R HO163.out)))
                  go_roundg kj2
                  case measure => have := HK1.out; have := HJ2.out; omega
                  case rel => exact ⟨(wrap64 (Int.tdiv x0_1 a1)), ((strOfNums y161) ++ x5_1), (by first | rfl | (simp; done) | (simp [*]; done)), (by first | rfl | (simp; done) | (simp [*]; done)), H', ⟨by have := HK1.out; have := HJ2.out; omega⟩, ⟨by repeat (first | (with_reducible first | exact HB.out | apply below_alloc | apply pw_below_drewN | apply below_drew1) | exact HB.out)⟩⟩
                · rw [if_neg c12] at H
                  exact absurd H (by simp)
          · replace c5 := Bool.eq_false_iff.mpr c5
            subst c5
            have H1 : (some x5_1) = some r := by rw [if_neg (show ¬ (false = true) by decide)] at H; exact H
            clear H
            have H := H1
            clear H1
            obtain rfl := Option.some.inj H
            go_wp2
            go_ret
            exact ⟨by first | rfl | (simp [errW_none, errW_some] <;> rfl) | (simp [*, errW_none, errW_some] <;> rfl), by repeat (first | (with_reducible first | exact HB.out | apply below_alloc | apply pw_below_drewN | apply below_drew1) | exact HB.out)⟩

/-! ### eponymref16_digits: function 43 -/
def eponymref16_digits.l0 : Nat → Int → ByteArray → Option (ByteArray)
  | 0, _, _ => none
  | k + 1, x1, x5 => if (x5.size : Int) < x1 then (if 1 + x5.size ≤ 9223372036854775807 then (eponymref16_digits.l0 k x1 ((⟨#[48]⟩ : ByteArray) ++ x5)) else (none)) else (some x5)
def eponymref16_digits.f (k : Nat) (a0 : Int) (a1 : Int) : Option (ByteArray) := (eponymref03_Digits.f k a0 10).bind fun t164 => (eponymref16_digits.l0 k a1 t164)
theorem eponymref16_digits.mono_l : ∀ k, (∀ y0 y1, LeO (eponymref16_digits.l0 k y0 y1) (eponymref16_digits.l0 (k + 1) y0 y1))
  | 0 => fun _ _ r h => by simp [eponymref16_digits.l0] at h
  | k + 1 => by
    have ih0 := eponymref16_digits.mono_l k
    · intro y0 y1
      unfold eponymref16_digits.l0
      repeat' first
      | (with_reducible exact ih0 _ _)
      | (with_reducible exact eponymref03_Digits.mono _ _ _)
      | (with_reducible exact LeO.refl _)
      | (with_reducible exact LeO.none _)
      | (with_reducible refine LeO.ite ?_ ?_)
      | (with_reducible refine LeO.bind ?_ (fun _ => ?_))
      | exact ih0 _ _
      | exact eponymref03_Digits.mono _ _ _
      | exact LeO.none _
      | refine LeO.ite ?_ ?_
      | refine LeO.bind ?_ (fun _ => ?_)
theorem eponymref16_digits.mono : ∀ a0 a1 k, LeO (eponymref16_digits.f k a0 a1) (eponymref16_digits.f (k + 1) a0 a1) := by
  intro a0 a1 k
  have ih0 := eponymref16_digits.mono_l k
  unfold eponymref16_digits.f
  repeat' first
      | (with_reducible exact ih0 _ _)
      | (with_reducible exact eponymref03_Digits.mono _ _ _)
      | (with_reducible exact LeO.refl _)
      | (with_reducible exact LeO.none _)
      | (with_reducible refine LeO.ite ?_ ?_)
      | (with_reducible refine LeO.bind ?_ (fun _ => ?_))
      | exact ih0 _ _
      | exact eponymref03_Digits.mono _ _ _
      | exact LeO.none _
      | refine LeO.ite ?_ ?_
      | refine LeO.bind ?_ (fun _ => ?_)
set_option maxHeartbeats 8000000 in
set_option maxRecDepth 100000 in
theorem eponymref16_digits.calls (k : Nat) (a0 : Int) (a1 : Int) (r : ByteArray) (w : World) (h : eponymref16_digits.f k a0 a1 = some r) :
    Calls Tryd.prog 43 #[.int .i64 a0, .int .i64 a1] w fun e w' => e = .returned (.string r) ∧ Below w.heap.size w w' := by
  have HB := Aside0.mk (Below.refl w.heap.size w)
  have H : ((eponymref03_Digits.f k a0 10).bind fun t164 => (eponymref16_digits.l0 k a1 t164)) = some r := h
  clear h
  replace H := Option.bind_eq_some_iff.mp H
  obtain ⟨t164, A30, H⟩ := H
  replace H : (eponymref16_digits.l0 k a1 t164) = some r := H
  have A3 := Aside0.mk A30
  clear A30
  have H' := Aside0.mk H
  clear H
  go_enter Tryd.func43, Tryd.ntmps43
  go_wp2_with (first | ((with_reducible refine gate_callee (f := 61) rfl ?_); refine goesL_ (some 7) rfl rfl Tryd.func61 (by kernel_rfl) rfl #[.int .i64 a0, .int .i64 10] rfl (by (try simp only [List.map_toArray, List.map_cons, List.map_nil]); first | done | rfl | (simp only [List.length_drop, List.length_take]; rfl)) ?_; (with_reducible refine (eponymref03_Digits.calls k a0 10 t164 _ A3.out).mono ?_); rintro e w4 ⟨rfl, hb⟩; refine ⟨_, rfl, ?_⟩; have n0_ := Aside0.mk (below_step (by repeat (first | (with_reducible first | exact HB.out | apply below_alloc | apply pw_below_drewN | apply below_drew1) | exact HB.out)) hb); clear HB; have HB := n0_; clear n0_; (try clear hb); (try clear hb2); (try clear hk); (try clear hi)))
  go_loopg [5] k (fun kq v5 w' => ∃ (x5_1 : ByteArray), v5 = .string x5_1 ∧ Aside0 (eponymref16_digits.l0 kq a1 x5_1 = some r) ∧ Aside0 (kq ≤ k) ∧ Aside0 (Below w.heap.size w w'))
  case atStart => exact ⟨(t164), (by first | rfl | (simp; done) | (simp [*]; done)), H', ⟨Nat.le_refl _⟩, ⟨by repeat (first | (with_reducible first | exact HB.out | apply below_alloc | apply pw_below_drewN | apply below_drew1) | exact HB.out)⟩⟩
  case round =>
    clear H'
    try clear p2
    try clear c4
    obtain ⟨x5_1, rfl, HA, HK1, HB⟩ := hrel
    cases gk with
    | zero => exact absurd HA.out (by simp [eponymref16_digits.l0])
    | succ k1 =>
      have H := HA.out
      clear HA
      simp only [eponymref16_digits.l0] at H
      by_cases c5 : (x5_1.size : Int) < a1
      · rw [if_pos c5] at H
        have c5b0 : decide ((x5_1.size : Int) < a1) = true := decide_eq_true c5
        clear c5
        by_cases c6 : 1 + x5_1.size ≤ 9223372036854775807
        · rw [if_pos c6] at H
          have c6b0 := eq_true c6
          have c6b1 : decide (1 + x5_1.size ≤ 9223372036854775807) = true := decide_eq_true c6
          try have c6b2 : (9223372036854775807 < 1 + x5_1.size) = False := eq_false (Nat.not_lt.2 c6)
          have H' := Aside0.mk H
          clear H
          go_wp2
          go_roundg k1
          case measure => have := HK1.out; omega
          case rel => exact ⟨((⟨#[48]⟩ : ByteArray) ++ x5_1), (by first | rfl | (simp; done) | (simp [*]; done)), H', ⟨by have := HK1.out; omega⟩, ⟨by repeat (first | (with_reducible first | exact HB.out | apply below_alloc | apply pw_below_drewN | apply below_drew1) | exact HB.out)⟩⟩
        · rw [if_neg c6] at H
          exact absurd H (by simp)
      · rw [if_neg c5] at H
        have c5b0 : decide ((x5_1.size : Int) < a1) = false := decide_eq_false c5
        clear c5
        obtain rfl := Option.some.inj H
        go_wp2
        go_ret
        exact ⟨by first | rfl | (simp [errW_none, errW_some] <;> rfl) | (simp [*, errW_none, errW_some] <;> rfl), by repeat (first | (with_reducible first | exact HB.out | apply below_alloc | apply pw_below_drewN | apply below_drew1) | exact HB.out)⟩

/-! ### eponymref16_clock: function 44 -/
def eponymref16_clock.f (k : Nat) (a0 : Int) : Option (ByteArray) := (eponymref16_digits.f k (wrap64 (Int.tdiv a0 3600)) 2).bind fun t165 => (if t165.size + 1 ≤ 9223372036854775807 then ((eponymref16_digits.f k (Int.tmod (wrap64 (Int.tdiv a0 60)) 60) 2).bind fun t166 => (if (t165 ++ (⟨#[58]⟩ : ByteArray)).size + t166.size ≤ 9223372036854775807 then (if ((t165 ++ (⟨#[58]⟩ : ByteArray)) ++ t166).size + 1 ≤ 9223372036854775807 then ((eponymref16_digits.f k (Int.tmod a0 60) 2).bind fun t167 => (if (((t165 ++ (⟨#[58]⟩ : ByteArray)) ++ t166) ++ (⟨#[58]⟩ : ByteArray)).size + t167.size ≤ 9223372036854775807 then (some ((((t165 ++ (⟨#[58]⟩ : ByteArray)) ++ t166) ++ (⟨#[58]⟩ : ByteArray)) ++ t167)) else (none))) else (none)) else (none))) else (none))
theorem eponymref16_clock.mono : ∀ a0 k, LeO (eponymref16_clock.f k a0) (eponymref16_clock.f (k + 1) a0) := by
  intro a0 k
  unfold eponymref16_clock.f
  repeat' first
      | (with_reducible exact eponymref16_digits.mono _ _ _)
      | (with_reducible exact LeO.refl _)
      | (with_reducible exact LeO.none _)
      | (with_reducible refine LeO.ite ?_ ?_)
      | (with_reducible refine LeO.bind ?_ (fun _ => ?_))
      | exact eponymref16_digits.mono _ _ _
      | exact LeO.none _
      | refine LeO.ite ?_ ?_
      | refine LeO.bind ?_ (fun _ => ?_)
set_option maxHeartbeats 8000000 in
set_option maxRecDepth 100000 in
theorem eponymref16_clock.calls (k : Nat) (a0 : Int) (r : ByteArray) (w : World) (h : eponymref16_clock.f k a0 = some r) :
    Calls Tryd.prog 44 #[.int .i64 a0] w fun e w' => e = .returned (.string r) ∧ Below w.heap.size w w' := by
  have HB := Aside0.mk (Below.refl w.heap.size w)
  have H : ((eponymref16_digits.f k (wrap64 (Int.tdiv a0 3600)) 2).bind fun t165 => (if t165.size + 1 ≤ 9223372036854775807 then ((eponymref16_digits.f k (Int.tmod (wrap64 (Int.tdiv a0 60)) 60) 2).bind fun t166 => (if (t165 ++ (⟨#[58]⟩ : ByteArray)).size + t166.size ≤ 9223372036854775807 then (if ((t165 ++ (⟨#[58]⟩ : ByteArray)) ++ t166).size + 1 ≤ 9223372036854775807 then ((eponymref16_digits.f k (Int.tmod a0 60) 2).bind fun t167 => (if (((t165 ++ (⟨#[58]⟩ : ByteArray)) ++ t166) ++ (⟨#[58]⟩ : ByteArray)).size + t167.size ≤ 9223372036854775807 then (some ((((t165 ++ (⟨#[58]⟩ : ByteArray)) ++ t166) ++ (⟨#[58]⟩ : ByteArray)) ++ t167)) else (none))) else (none)) else (none))) else (none))) = some r := h
  clear h
  replace H := Option.bind_eq_some_iff.mp H
  obtain ⟨t165, A20, H⟩ := H
  replace H : (if t165.size + 1 ≤ 9223372036854775807 then ((eponymref16_digits.f k (Int.tmod (wrap64 (Int.tdiv a0 60)) 60) 2).bind fun t166 => (if (t165 ++ (⟨#[58]⟩ : ByteArray)).size + t166.size ≤ 9223372036854775807 then (if ((t165 ++ (⟨#[58]⟩ : ByteArray)) ++ t166).size + 1 ≤ 9223372036854775807 then ((eponymref16_digits.f k (Int.tmod a0 60) 2).bind fun t167 => (if (((t165 ++ (⟨#[58]⟩ : ByteArray)) ++ t166) ++ (⟨#[58]⟩ : ByteArray)).size + t167.size ≤ 9223372036854775807 then (some ((((t165 ++ (⟨#[58]⟩ : ByteArray)) ++ t166) ++ (⟨#[58]⟩ : ByteArray)) ++ t167)) else (none))) else (none)) else (none))) else (none)) = some r := H
  have A2 := Aside0.mk A20
  clear A20
  by_cases c3 : t165.size + 1 ≤ 9223372036854775807
  · rw [if_pos c3] at H
    have c3b0 := eq_true c3
    have c3b1 : decide (t165.size + 1 ≤ 9223372036854775807) = true := decide_eq_true c3
    try have c3b2 : (9223372036854775807 < t165.size + 1) = False := eq_false (Nat.not_lt.2 c3)
    replace H := Option.bind_eq_some_iff.mp H
    obtain ⟨t166, A40, H⟩ := H
    replace H : (if (t165 ++ (⟨#[58]⟩ : ByteArray)).size + t166.size ≤ 9223372036854775807 then (if ((t165 ++ (⟨#[58]⟩ : ByteArray)) ++ t166).size + 1 ≤ 9223372036854775807 then ((eponymref16_digits.f k (Int.tmod a0 60) 2).bind fun t167 => (if (((t165 ++ (⟨#[58]⟩ : ByteArray)) ++ t166) ++ (⟨#[58]⟩ : ByteArray)).size + t167.size ≤ 9223372036854775807 then (some ((((t165 ++ (⟨#[58]⟩ : ByteArray)) ++ t166) ++ (⟨#[58]⟩ : ByteArray)) ++ t167)) else (none))) else (none)) else (none)) = some r := H
    have A4 := Aside0.mk A40
    clear A40
    by_cases c5 : (t165 ++ (⟨#[58]⟩ : ByteArray)).size + t166.size ≤ 9223372036854775807
    · rw [if_pos c5] at H
      have c5b0 := eq_true c5
      have c5b1 : decide ((t165 ++ (⟨#[58]⟩ : ByteArray)).size + t166.size ≤ 9223372036854775807) = true := decide_eq_true c5
      try have c5b2 : (9223372036854775807 < (t165 ++ (⟨#[58]⟩ : ByteArray)).size + t166.size) = False := eq_false (Nat.not_lt.2 c5)
      (try (have c5b3 := c5; simp only [ByteArray.size_append, show (⟨#[58]⟩ : ByteArray).size = 1 from rfl] at c5b3))
      by_cases c6 : ((t165 ++ (⟨#[58]⟩ : ByteArray)) ++ t166).size + 1 ≤ 9223372036854775807
      · rw [if_pos c6] at H
        have c6b0 := eq_true c6
        have c6b1 : decide (((t165 ++ (⟨#[58]⟩ : ByteArray)) ++ t166).size + 1 ≤ 9223372036854775807) = true := decide_eq_true c6
        try have c6b2 : (9223372036854775807 < ((t165 ++ (⟨#[58]⟩ : ByteArray)) ++ t166).size + 1) = False := eq_false (Nat.not_lt.2 c6)
        (try (have c6b3 := c6; simp only [ByteArray.size_append, show (⟨#[58]⟩ : ByteArray).size = 1 from rfl] at c6b3))
        replace H := Option.bind_eq_some_iff.mp H
        obtain ⟨t167, A70, H⟩ := H
        replace H : (if (((t165 ++ (⟨#[58]⟩ : ByteArray)) ++ t166) ++ (⟨#[58]⟩ : ByteArray)).size + t167.size ≤ 9223372036854775807 then (some ((((t165 ++ (⟨#[58]⟩ : ByteArray)) ++ t166) ++ (⟨#[58]⟩ : ByteArray)) ++ t167)) else (none)) = some r := H
        have A7 := Aside0.mk A70
        clear A70
        by_cases c8 : (((t165 ++ (⟨#[58]⟩ : ByteArray)) ++ t166) ++ (⟨#[58]⟩ : ByteArray)).size + t167.size ≤ 9223372036854775807
        · rw [if_pos c8] at H
          have c8b0 := eq_true c8
          have c8b1 : decide ((((t165 ++ (⟨#[58]⟩ : ByteArray)) ++ t166) ++ (⟨#[58]⟩ : ByteArray)).size + t167.size ≤ 9223372036854775807) = true := decide_eq_true c8
          try have c8b2 : (9223372036854775807 < (((t165 ++ (⟨#[58]⟩ : ByteArray)) ++ t166) ++ (⟨#[58]⟩ : ByteArray)).size + t167.size) = False := eq_false (Nat.not_lt.2 c8)
          (try (have c8b3 := c8; simp only [ByteArray.size_append, show (⟨#[58]⟩ : ByteArray).size = 1 from rfl] at c8b3))
          obtain rfl := Option.some.inj H
          go_enter Tryd.func44, Tryd.ntmps44
          go_wp2_with (first | ((with_reducible refine gate_callee (f := 43) rfl ?_); refine goesL_ (some 5) rfl rfl Tryd.func43 (by kernel_rfl) rfl #[.int .i64 (wrap64 (Int.tdiv a0 3600)), .int .i64 2] rfl (by (try simp only [List.map_toArray, List.map_cons, List.map_nil]); first | done | rfl | (simp only [List.length_drop, List.length_take]; rfl)) ?_; (with_reducible refine (eponymref16_digits.calls k (wrap64 (Int.tdiv a0 3600)) 2 t165 _ A2.out).mono ?_); rintro e w9 ⟨rfl, hb⟩; refine ⟨_, rfl, ?_⟩; have n0_ := Aside0.mk (below_step (by repeat (first | (with_reducible first | exact HB.out | apply below_alloc | apply pw_below_drewN | apply below_drew1) | exact HB.out)) hb); clear HB; have HB := n0_; clear n0_; (try clear hb); (try clear hb2); (try clear hk); (try clear hi)) | ((with_reducible refine gate_callee (f := 43) rfl ?_); refine goesL_ (some 10) rfl rfl Tryd.func43 (by kernel_rfl) rfl #[.int .i64 (Int.tmod (wrap64 (Int.tdiv a0 60)) 60), .int .i64 2] rfl (by (try simp only [List.map_toArray, List.map_cons, List.map_nil]); first | done | rfl | (simp only [List.length_drop, List.length_take]; rfl)) ?_; (with_reducible refine (eponymref16_digits.calls k (Int.tmod (wrap64 (Int.tdiv a0 60)) 60) 2 t166 _ A4.out).mono ?_); rintro e w10 ⟨rfl, hb⟩; refine ⟨_, rfl, ?_⟩; have n0_ := Aside0.mk (below_step (by repeat (first | (with_reducible first | exact HB.out | apply below_alloc | apply pw_below_drewN | apply below_drew1) | exact HB.out)) hb); clear HB; have HB := n0_; clear n0_; (try clear hb); (try clear hb2); (try clear hk); (try clear hi)) | ((with_reducible refine gate_callee (f := 43) rfl ?_); refine goesL_ (some 15) rfl rfl Tryd.func43 (by kernel_rfl) rfl #[.int .i64 (Int.tmod a0 60), .int .i64 2] rfl (by (try simp only [List.map_toArray, List.map_cons, List.map_nil]); first | done | rfl | (simp only [List.length_drop, List.length_take]; rfl)) ?_; (with_reducible refine (eponymref16_digits.calls k (Int.tmod a0 60) 2 t167 _ A7.out).mono ?_); rintro e w11 ⟨rfl, hb⟩; refine ⟨_, rfl, ?_⟩; have n0_ := Aside0.mk (below_step (by repeat (first | (with_reducible first | exact HB.out | apply below_alloc | apply pw_below_drewN | apply below_drew1) | exact HB.out)) hb); clear HB; have HB := n0_; clear n0_; (try clear hb); (try clear hb2); (try clear hk); (try clear hi)))
          go_ret
          exact ⟨by first | rfl | (simp [errW_none, errW_some] <;> rfl) | (simp [*, errW_none, errW_some] <;> rfl), by repeat (first | (with_reducible first | exact HB.out | apply below_alloc | apply pw_below_drewN | apply below_drew1) | exact HB.out)⟩
        · rw [if_neg c8] at H
          exact absurd H (by simp)
      · rw [if_neg c6] at H
        exact absurd H (by simp)
    · rw [if_neg c5] at H
      exact absurd H (by simp)
  · rw [if_neg c3] at H
    exact absurd H (by simp)

end Go.Proofs.YtlgdenihddkjaaaDoor.PSt
