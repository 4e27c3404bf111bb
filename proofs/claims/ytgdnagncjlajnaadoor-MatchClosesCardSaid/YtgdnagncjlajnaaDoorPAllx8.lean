-- Printed by a program of this claim's author (wip/tools), out of the translation. Not trusted: Lean checks it.
import Derived.Test.YtgdnagncjlajnaaDoorPAllx0
import Derived.Test.YtgdnagncjlajnaaDoorPAllx1
import Derived.Test.YtgdnagncjlajnaaDoorPAllx2
import Derived.Test.YtgdnagncjlajnaaDoorPAllx7
import Derived.Test.YtgdnagncjlajnaaDoorExt
namespace Go.Proofs.YtgdnagncjlajnaaDoor.PAll
open Go.RowKit Go.Proofs.YtgdnagncjlajnaaDoorW.PrintWords Go.Proofs.YtgdnagncjlajnaaDoorW.PrintLast Go.Proofs.YtgdnagncjlajnaaDoorW.PrintMore
attribute [local go_sem] max2_int min2_int max_two min_two max_three min_three max_four min_four   -- for this text's walks alone
set_option linter.unusedVariables false
set_option linter.unusedSimpArgs false

/-! ### eponymlaw18_MatchCloses: function 5 -/
mutual
def eponymlaw18_MatchCloses.j0 : Nat → ByteArray → Int → Bool → Bool → List (S28) → Option (Bool)
  | 0, _, _, _, _, _ => none
  | k + 1, x1, x2, x58, x176000, x176001 => if x58 = true then (some true) else (eponymlaw18_MatchCloses.l0 k x1 x2 0 x176000 x176001 false ([] : List (S28)))
def eponymlaw18_MatchCloses.l0 : Nat → ByteArray → Int → Int → Bool → List (S28) → Bool → List (S28) → Option (Bool)
  | 0, _, _, _, _, _, _, _ => none
  | k + 1, x1, x2, x8, x176000, x176001, x179000, x179001 => if x8 < (x176001.length : Int) then (if 0 ≤ x8 then (if (((rd_T28 x176001 x8).f0).size : Int) > 40 then (some true) else (eponymlaw18_MatchCloses.l1 k x1 x2 x8 0 x176000 x176001 x179000 x179001 ((rd_T28 x176001 x8).f0) ((rd_T28 x176001 x8).f1))) else (none)) else ((eponymref17_Text.f k x179000 x179001).bind fun t184 => ((match_Means.f k x179000 x179001 t184).bind fun t185 => (if t185 = true then ((match_Means.f k x179000 x179001 x1).bind fun t186 => (eponymlaw18_MatchCloses.j3 k x1 x2 (t186 != (x1.toList == t184.toList)) x176000 x176001)) else (eponymlaw18_MatchCloses.j3 k x1 x2 true x176000 x176001))))
def eponymlaw18_MatchCloses.l1 : Nat → ByteArray → Int → Int → Int → Bool → List (S28) → Bool → List (S28) → ByteArray → Bool → Option (Bool)
  | 0, _, _, _, _, _, _, _, _, _, _ => none
  | k + 1, x1, x2, x8, x10, x176000, x176001, x179000, x179001, x181000, x181001 => if x10 < (x181000.size : Int) then (if 0 ≤ x10 then (if (bt x181000 x10) = 46 then (some true) else (eponymlaw18_MatchCloses.l1 k x1 x2 x8 (wrap64 (x10 + 1)) x176000 x176001 x179000 x179001 x181000 x181001)) else (none)) else (if x179001.length < 5864062014805 then (eponymlaw18_MatchCloses.l0 k x1 x2 (wrap64 (x8 + 1)) x176000 x176001 x179000 (x179001 ++ [(⟨x181000, false⟩ : S28)])) else (none))
def eponymlaw18_MatchCloses.j3 : Nat → ByteArray → Int → Bool → Bool → List (S28) → Option (Bool)
  | 0, _, _, _, _, _ => none
  | k + 1, x1, x2, x109, x176000, x176001 => if x109 = true then (some false) else ((some (([] : List (S28)) : List (S28))).bind fun y187 => (if y187.length + x176001.length < 5864062014805 then ((some (y187 ++ x176001 : List (S28))).bind fun y190 => (if 0 ≤ x2 then (if x2 < (y190.length : Int) then ((match_Means.f k x176000 x176001 x1).bind fun t195 => (if t195 = true then ((match_Means.f k false (y190.set (x2 : Int).toNat (⟨(rd_T28 y190 x2).f0, true⟩ : S28)) x1).bind fun t196 => (some t196)) else (some true))) else (none)) else (none))) else (none)))
end
def eponymlaw18_MatchCloses.f (k : Nat) (a0_0 : Bool) (l0_1 : List (S28)) (a1 : ByteArray) (a2 : Int) : Option (Bool) := (eponymlaw18_awake.f k).bind fun t176 => (if t176 = true then (if (l0_1.length : Int) < 1 then (eponymlaw18_MatchCloses.j0 k a1 a2 true a0_0 l0_1) else (if (l0_1.length : Int) > 10 then (eponymlaw18_MatchCloses.j0 k a1 a2 true a0_0 l0_1) else (if (a1.size : Int) > 400 then (eponymlaw18_MatchCloses.j0 k a1 a2 true a0_0 l0_1) else (if a2 < 0 then (eponymlaw18_MatchCloses.j0 k a1 a2 true a0_0 l0_1) else (if a2 ≥ (l0_1.length : Int) then (eponymlaw18_MatchCloses.j0 k a1 a2 true a0_0 l0_1) else (if a0_0 = true then (eponymlaw18_MatchCloses.j0 k a1 a2 true a0_0 l0_1) else (if (l0_1.length : Int) = 1 then (if 0 < (l0_1.length : Int) then (eponymlaw18_MatchCloses.j0 k a1 a2 (((rd_T28 l0_1 0).f0).toList == ([] : List UInt8)) a0_0 l0_1) else (none)) else (eponymlaw18_MatchCloses.j0 k a1 a2 false a0_0 l0_1)))))))) else (some false))
theorem eponymlaw18_MatchCloses.mono_l : ∀ k, (∀ y0 y1 y2 y3 y4, LeO (eponymlaw18_MatchCloses.j0 k y0 y1 y2 y3 y4) (eponymlaw18_MatchCloses.j0 (k + 1) y0 y1 y2 y3 y4)) ∧ (∀ y0 y1 y2 y3 y4 y5 y6, LeO (eponymlaw18_MatchCloses.l0 k y0 y1 y2 y3 y4 y5 y6) (eponymlaw18_MatchCloses.l0 (k + 1) y0 y1 y2 y3 y4 y5 y6)) ∧ (∀ y0 y1 y2 y3 y4 y5 y6 y7 y8 y9, LeO (eponymlaw18_MatchCloses.l1 k y0 y1 y2 y3 y4 y5 y6 y7 y8 y9) (eponymlaw18_MatchCloses.l1 (k + 1) y0 y1 y2 y3 y4 y5 y6 y7 y8 y9)) ∧ (∀ y0 y1 y2 y3 y4, LeO (eponymlaw18_MatchCloses.j3 k y0 y1 y2 y3 y4) (eponymlaw18_MatchCloses.j3 (k + 1) y0 y1 y2 y3 y4))
  | 0 => ⟨fun _ _ _ _ _ r h => by simp [eponymlaw18_MatchCloses.j0] at h, fun _ _ _ _ _ _ _ r h => by simp [eponymlaw18_MatchCloses.l0] at h, fun _ _ _ _ _ _ _ _ _ _ r h => by simp [eponymlaw18_MatchCloses.l1] at h, fun _ _ _ _ _ r h => by simp [eponymlaw18_MatchCloses.j3] at h⟩
  | k + 1 => by
    obtain ⟨ih0, ih1, ih2, ih3⟩ := eponymlaw18_MatchCloses.mono_l k
    refine ⟨?_, ?_, ?_, ?_⟩
    · intro y0 y1 y2 y3 y4
      unfold eponymlaw18_MatchCloses.j0
      repeat' first
      | (with_reducible exact ih0 _ _ _ _ _)
      | (with_reducible exact ih1 _ _ _ _ _ _ _)
      | (with_reducible exact ih2 _ _ _ _ _ _ _ _ _ _)
      | (with_reducible exact ih3 _ _ _ _ _)
      | (with_reducible exact eponymlaw18_awake.mono _)
      | (with_reducible exact eponymref17_Text.mono _ _ _)
      | (with_reducible exact match_Means.mono _ _ _ _)
      | (with_reducible exact LeO.refl _)
      | (with_reducible exact LeO.none _)
      | (with_reducible refine LeO.ite ?_ ?_)
      | (with_reducible refine LeO.bind ?_ (fun _ => ?_))
      | exact ih0 _ _ _ _ _
      | exact ih1 _ _ _ _ _ _ _
      | exact ih2 _ _ _ _ _ _ _ _ _ _
      | exact ih3 _ _ _ _ _
      | exact eponymlaw18_awake.mono _
      | exact eponymref17_Text.mono _ _ _
      | exact match_Means.mono _ _ _ _
      | exact LeO.none _
      | refine LeO.ite ?_ ?_
      | refine LeO.bind ?_ (fun _ => ?_)
    · intro y0 y1 y2 y3 y4 y5 y6
      unfold eponymlaw18_MatchCloses.l0
      repeat' first
      | (with_reducible exact ih0 _ _ _ _ _)
      | (with_reducible exact ih1 _ _ _ _ _ _ _)
      | (with_reducible exact ih2 _ _ _ _ _ _ _ _ _ _)
      | (with_reducible exact ih3 _ _ _ _ _)
      | (with_reducible exact eponymlaw18_awake.mono _)
      | (with_reducible exact eponymref17_Text.mono _ _ _)
      | (with_reducible exact match_Means.mono _ _ _ _)
      | (with_reducible exact LeO.refl _)
      | (with_reducible exact LeO.none _)
      | (with_reducible refine LeO.ite ?_ ?_)
      | (with_reducible refine LeO.bind ?_ (fun _ => ?_))
      | exact ih0 _ _ _ _ _
      | exact ih1 _ _ _ _ _ _ _
      | exact ih2 _ _ _ _ _ _ _ _ _ _
      | exact ih3 _ _ _ _ _
      | exact eponymlaw18_awake.mono _
      | exact eponymref17_Text.mono _ _ _
      | exact match_Means.mono _ _ _ _
      | exact LeO.none _
      | refine LeO.ite ?_ ?_
      | refine LeO.bind ?_ (fun _ => ?_)
    · intro y0 y1 y2 y3 y4 y5 y6 y7 y8 y9
      unfold eponymlaw18_MatchCloses.l1
      repeat' first
      | (with_reducible exact ih0 _ _ _ _ _)
      | (with_reducible exact ih1 _ _ _ _ _ _ _)
      | (with_reducible exact ih2 _ _ _ _ _ _ _ _ _ _)
      | (with_reducible exact ih3 _ _ _ _ _)
      | (with_reducible exact eponymlaw18_awake.mono _)
      | (with_reducible exact eponymref17_Text.mono _ _ _)
      | (with_reducible exact match_Means.mono _ _ _ _)
      | (with_reducible exact LeO.refl _)
      | (with_reducible exact LeO.none _)
      | (with_reducible refine LeO.ite ?_ ?_)
      | (with_reducible refine LeO.bind ?_ (fun _ => ?_))
      | exact ih0 _ _ _ _ _
      | exact ih1 _ _ _ _ _ _ _
      | exact ih2 _ _ _ _ _ _ _ _ _ _
      | exact ih3 _ _ _ _ _
      | exact eponymlaw18_awake.mono _
      | exact eponymref17_Text.mono _ _ _
      | exact match_Means.mono _ _ _ _
      | exact LeO.none _
      | refine LeO.ite ?_ ?_
      | refine LeO.bind ?_ (fun _ => ?_)
    · intro y0 y1 y2 y3 y4
      unfold eponymlaw18_MatchCloses.j3
      repeat' first
      | (with_reducible exact ih0 _ _ _ _ _)
      | (with_reducible exact ih1 _ _ _ _ _ _ _)
      | (with_reducible exact ih2 _ _ _ _ _ _ _ _ _ _)
      | (with_reducible exact ih3 _ _ _ _ _)
      | (with_reducible exact eponymlaw18_awake.mono _)
      | (with_reducible exact eponymref17_Text.mono _ _ _)
      | (with_reducible exact match_Means.mono _ _ _ _)
      | (with_reducible exact LeO.refl _)
      | (with_reducible exact LeO.none _)
      | (with_reducible refine LeO.ite ?_ ?_)
      | (with_reducible refine LeO.bind ?_ (fun _ => ?_))
      | exact ih0 _ _ _ _ _
      | exact ih1 _ _ _ _ _ _ _
      | exact ih2 _ _ _ _ _ _ _ _ _ _
      | exact ih3 _ _ _ _ _
      | exact eponymlaw18_awake.mono _
      | exact eponymref17_Text.mono _ _ _
      | exact match_Means.mono _ _ _ _
      | exact LeO.none _
      | refine LeO.ite ?_ ?_
      | refine LeO.bind ?_ (fun _ => ?_)
theorem eponymlaw18_MatchCloses.mono : ∀ a0 a1 a2 a3 k, LeO (eponymlaw18_MatchCloses.f k a0 a1 a2 a3) (eponymlaw18_MatchCloses.f (k + 1) a0 a1 a2 a3) := by
  intro a0 a1 a2 a3 k
  obtain ⟨ih0, ih1, ih2, ih3⟩ := eponymlaw18_MatchCloses.mono_l k
  unfold eponymlaw18_MatchCloses.f
  repeat' first
      | (with_reducible exact ih0 _ _ _ _ _)
      | (with_reducible exact ih1 _ _ _ _ _ _ _)
      | (with_reducible exact ih2 _ _ _ _ _ _ _ _ _ _)
      | (with_reducible exact ih3 _ _ _ _ _)
      | (with_reducible exact eponymlaw18_awake.mono _)
      | (with_reducible exact eponymref17_Text.mono _ _ _)
      | (with_reducible exact match_Means.mono _ _ _ _)
      | (with_reducible exact LeO.refl _)
      | (with_reducible exact LeO.none _)
      | (with_reducible refine LeO.ite ?_ ?_)
      | (with_reducible refine LeO.bind ?_ (fun _ => ?_))
      | exact ih0 _ _ _ _ _
      | exact ih1 _ _ _ _ _ _ _
      | exact ih2 _ _ _ _ _ _ _ _ _ _
      | exact ih3 _ _ _ _ _
      | exact eponymlaw18_awake.mono _
      | exact eponymref17_Text.mono _ _ _
      | exact match_Means.mono _ _ _ _
      | exact LeO.none _
      | refine LeO.ite ?_ ?_
      | refine LeO.bind ?_ (fun _ => ?_)
set_option maxHeartbeats 8000000 in
set_option maxRecDepth 100000 in
theorem eponymlaw18_MatchCloses.calls (k : Nat) (a0_0 : Bool) (A0_1 : Option Addr) (c0_1 : Nat) (l0_1 : List (S28)) (a1 : ByteArray) (a2 : Int) (r : Bool) (w : World) (hG : GInv w) (hr0_1 : Kd.C k28 w A0_1 l0_1.length l0_1) (hc0_1 : l0_1.length ≤ c0_1) (h : eponymlaw18_MatchCloses.f k a0_0 l0_1 a1 a2 = some r) :
    Calls Tryd.prog 5 #[.agg #[.bool a0_0, .slice A0_1 l0_1.length c0_1], .string a1, .int .i64 a2] w fun e w' => e = .returned (.bool r) ∧ Below w.heap.size w w' := by
  have hu24 := Tryd.underlying24
  have hu28 := Tryd.underlying28
  have HR0_1 := Aside0.mk hr0_1
  have HC0_1 := Aside0.mk hc0_1
  clear hr0_1 hc0_1
  have HB := Aside0.mk (Below.refl w.heap.size w)
  have H : ((eponymlaw18_awake.f k).bind fun t176 => (if t176 = true then (if (l0_1.length : Int) < 1 then (eponymlaw18_MatchCloses.j0 k a1 a2 true a0_0 l0_1) else (if (l0_1.length : Int) > 10 then (eponymlaw18_MatchCloses.j0 k a1 a2 true a0_0 l0_1) else (if (a1.size : Int) > 400 then (eponymlaw18_MatchCloses.j0 k a1 a2 true a0_0 l0_1) else (if a2 < 0 then (eponymlaw18_MatchCloses.j0 k a1 a2 true a0_0 l0_1) else (if a2 ≥ (l0_1.length : Int) then (eponymlaw18_MatchCloses.j0 k a1 a2 true a0_0 l0_1) else (if a0_0 = true then (eponymlaw18_MatchCloses.j0 k a1 a2 true a0_0 l0_1) else (if (l0_1.length : Int) = 1 then (if 0 < (l0_1.length : Int) then (eponymlaw18_MatchCloses.j0 k a1 a2 (((rd_T28 l0_1 0).f0).toList == ([] : List UInt8)) a0_0 l0_1) else (none)) else (eponymlaw18_MatchCloses.j0 k a1 a2 false a0_0 l0_1)))))))) else (some false))) = some r := h
  clear h
  replace H := Option.bind_eq_some_iff.mp H
  obtain ⟨t176, A40, H⟩ := H
  replace H : (if t176 = true then (if (l0_1.length : Int) < 1 then (eponymlaw18_MatchCloses.j0 k a1 a2 true a0_0 l0_1) else (if (l0_1.length : Int) > 10 then (eponymlaw18_MatchCloses.j0 k a1 a2 true a0_0 l0_1) else (if (a1.size : Int) > 400 then (eponymlaw18_MatchCloses.j0 k a1 a2 true a0_0 l0_1) else (if a2 < 0 then (eponymlaw18_MatchCloses.j0 k a1 a2 true a0_0 l0_1) else (if a2 ≥ (l0_1.length : Int) then (eponymlaw18_MatchCloses.j0 k a1 a2 true a0_0 l0_1) else (if a0_0 = true then (eponymlaw18_MatchCloses.j0 k a1 a2 true a0_0 l0_1) else (if (l0_1.length : Int) = 1 then (if 0 < (l0_1.length : Int) then (eponymlaw18_MatchCloses.j0 k a1 a2 (((rd_T28 l0_1 0).f0).toList == ([] : List UInt8)) a0_0 l0_1) else (none)) else (eponymlaw18_MatchCloses.j0 k a1 a2 false a0_0 l0_1)))))))) else (some false)) = some r := H
  have A4 := Aside0.mk A40
  clear A40
  by_cases c5 : t176 = true
  · subst c5
    have H1 : (if (l0_1.length : Int) < 1 then (eponymlaw18_MatchCloses.j0 k a1 a2 true a0_0 l0_1) else (if (l0_1.length : Int) > 10 then (eponymlaw18_MatchCloses.j0 k a1 a2 true a0_0 l0_1) else (if (a1.size : Int) > 400 then (eponymlaw18_MatchCloses.j0 k a1 a2 true a0_0 l0_1) else (if a2 < 0 then (eponymlaw18_MatchCloses.j0 k a1 a2 true a0_0 l0_1) else (if a2 ≥ (l0_1.length : Int) then (eponymlaw18_MatchCloses.j0 k a1 a2 true a0_0 l0_1) else (if a0_0 = true then (eponymlaw18_MatchCloses.j0 k a1 a2 true a0_0 l0_1) else (if (l0_1.length : Int) = 1 then (if 0 < (l0_1.length : Int) then (eponymlaw18_MatchCloses.j0 k a1 a2 (((rd_T28 l0_1 0).f0).toList == ([] : List UInt8)) a0_0 l0_1) else (none)) else (eponymlaw18_MatchCloses.j0 k a1 a2 false a0_0 l0_1)))))))) = some r := by rw [if_pos rfl] at H; exact H
    clear H
    have H := H1
    clear H1
    have HC6 := Aside0.mk H
    clear H
    go_enter Tryd.func5, Tryd.ntmps5
    go_upto_region 3 with (first | ((with_reducible refine gate_dst (N := 3) rfl ?_); (try (refine gate_guard (by rfl) ?_; dsimp only)); refine box_event ?hg (N := 3) ?hd (cs := #[.bool a0_0, .slice A0_1 l0_1.length c0_1]) (t := 24) ?hr ?_; (case hd => rfl); (case hg => rfl); (case hr => first | (go_simp; done) | (go_simp; rfl)); intro gb175 hg w7 hbox hb; have n0_ := Aside0.mk (below_step (by repeat (first | (with_reducible first | exact HB.out | apply below_alloc | apply pw_below_drewN | apply below_drew1) | exact HB.out)) hb); have n1_ := Aside0.mk (hbox); have n2_ := Aside0.mk ((by rw [hg]; exact (below_size (by repeat (first | (with_reducible first | exact HB.out | apply below_alloc | apply pw_below_drewN | apply below_drew1) | exact HB.out))) : w.heap.size ≤ gb175)); have n3_ := Aside0.mk ((by rw [hg]; exact (below_size (by repeat (first | (with_reducible first | exact HB.out | apply below_alloc | apply pw_below_drewN | apply below_drew1) | exact HB.out))) : w.heap.size ≤ gb175)); clear HB; have HB := n0_; have BK175 := n1_; have GW175 := n2_; have GE175 := n3_; clear n0_ n1_ n2_ n3_; clear hb hbox hg) | ((with_reducible refine gate_callee (f := 6) rfl ?_); refine goesL_ (some 13) rfl rfl Tryd.func6 (by kernel_rfl) rfl #[] rfl (by (try simp only [List.map_toArray, List.map_cons, List.map_nil]); first | done | rfl | (simp only [List.length_drop, List.length_take]; rfl)) ?_; (with_reducible refine (eponymlaw18_awake.calls k  true _ ?side1 A4.out).mono ?_); (case side1 => first | exact hG | exact GInv.drewN hG _ | exact GInv.below hG (by repeat (first | (with_reducible first | exact HB.out | apply below_alloc | apply pw_below_drewN | apply below_drew1 | refine below_set ?_ GE175.out) | exact HB.out))); rintro e w8 ⟨rfl, hb⟩; refine ⟨_, rfl, ?_⟩; have n0_ := Aside0.mk (blk_below (g := gb175) (o := .cells #[.bool a0_0, .slice A0_1 l0_1.length c0_1] 24 (0, 0)) (by (with_reducible repeat (first | refine blk_drewN ?_ _ | refine blk_drew ?_ | refine blk_alloc ?_ _)); exact BK175.out) hb); have n1_ := Aside0.mk (below_step (by repeat (first | (with_reducible first | exact HB.out | apply below_alloc | apply pw_below_drewN | apply below_drew1 | refine below_set ?_ GE175.out) | exact HB.out)) hb); clear BK175; clear HB; have BK175 := n0_; have HB := n1_; clear n0_ n1_; (try clear hb); (try clear hb2); (try clear hk); (try clear hi)))
    (try simp only [Act.put, List.setIfInBounds_toArray, List.set_cons_zero, List.set_cons_succ])
    go_cut [58] (fun v58 wc => ∃ (kq : Nat) (x58_5 : Bool), v58 = .bool x58_5 ∧ Aside0 (eponymlaw18_MatchCloses.j0 kq a1 a2 x58_5 a0_0 l0_1 = some r) ∧ Aside0 (kq ≤ k) ∧ Aside0 (wc.heap[gb175]? = some (.cells #[.bool a0_0, (.slice A0_1 l0_1.length c0_1)] 24 (0, 0))) ∧ Aside0 (Below w.heap.size w wc))
    case first =>
      have H := HC6.out
      clear HC6
      by_cases c9 : (l0_1.length : Int) < 1
      · rw [if_pos c9] at H
        have c9b0 : decide ((l0_1.length : Int) < 1) = true := decide_eq_true c9
        have c9b1 : decide (l0_1.length < 1) = true := decide_eq_true (by omega)
        clear c9
        (first | rw [c9b0] | (simp only [i64_w, i32_w]; rw [c9b0]) | skip)
        have H' := Aside0.mk H
        clear H
        have hcz10_0 : w8.cell? ⟨gb175, 0, none⟩ = some (.bool a0_0) := (blk_cell BK175.out 0).trans rfl
        have hcz10_1 : w8.cell? ⟨gb175, 1, none⟩ = some (.slice A0_1 l0_1.length c0_1) := (blk_cell BK175.out 1).trans rfl
        have hfz10_0 := blk_frozen BK175.out 0
        have hfz10_1 := blk_frozen BK175.out 1
        go_wp2
        go_meet
        case rel => exact ⟨_, (true), (by first | rfl | (simp; done) | (simp [*]; done)), H', ⟨by first | omega | exact Nat.le_refl _⟩, ⟨by (with_reducible repeat (first | refine blk_drewN ?_ _ | refine blk_drew ?_ | refine blk_alloc ?_ _)); exact BK175.out⟩, ⟨by repeat (first | (with_reducible first | exact HB.out | apply below_alloc | apply pw_below_drewN | apply below_drew1 | refine below_set ?_ GE175.out) | exact HB.out)⟩⟩
      · rw [if_neg c9] at H
        have c9b0 : decide ((l0_1.length : Int) < 1) = false := decide_eq_false c9
        have c9b1 : decide (l0_1.length < 1) = false := decide_eq_false (by omega)
        clear c9
        (first | rw [c9b0] | (simp only [i64_w, i32_w]; rw [c9b0]) | skip)
        by_cases c11 : (l0_1.length : Int) > 10
        · rw [if_pos c11] at H
          have c11b0 : decide (10 < (l0_1.length : Int)) = true := decide_eq_true c11
          have c11b1 : decide (10 < l0_1.length) = true := decide_eq_true (by omega)
          clear c11
          have H' := Aside0.mk H
          clear H
          have hcz12_0 : w8.cell? ⟨gb175, 0, none⟩ = some (.bool a0_0) := (blk_cell BK175.out 0).trans rfl
          have hcz12_1 : w8.cell? ⟨gb175, 1, none⟩ = some (.slice A0_1 l0_1.length c0_1) := (blk_cell BK175.out 1).trans rfl
          have hfz12_0 := blk_frozen BK175.out 0
          have hfz12_1 := blk_frozen BK175.out 1
          go_wp2
          go_meet
          case rel => exact ⟨_, (true), (by first | rfl | (simp; done) | (simp [*]; done)), H', ⟨by first | omega | exact Nat.le_refl _⟩, ⟨by (with_reducible repeat (first | refine blk_drewN ?_ _ | refine blk_drew ?_ | refine blk_alloc ?_ _)); exact BK175.out⟩, ⟨by repeat (first | (with_reducible first | exact HB.out | apply below_alloc | apply pw_below_drewN | apply below_drew1 | refine below_set ?_ GE175.out) | exact HB.out)⟩⟩
        · rw [if_neg c11] at H
          have c11b0 : decide (10 < (l0_1.length : Int)) = false := decide_eq_false c11
          have c11b1 : decide (10 < l0_1.length) = false := decide_eq_false (by omega)
          clear c11
          by_cases c13 : (a1.size : Int) > 400
          · rw [if_pos c13] at H
            have c13b0 : decide (400 < (a1.size : Int)) = true := decide_eq_true c13
            have c13b1 : decide (400 < a1.size) = true := decide_eq_true (by omega)
            clear c13
            have H' := Aside0.mk H
            clear H
            have hcz14_0 : w8.cell? ⟨gb175, 0, none⟩ = some (.bool a0_0) := (blk_cell BK175.out 0).trans rfl
            have hcz14_1 : w8.cell? ⟨gb175, 1, none⟩ = some (.slice A0_1 l0_1.length c0_1) := (blk_cell BK175.out 1).trans rfl
            have hfz14_0 := blk_frozen BK175.out 0
            have hfz14_1 := blk_frozen BK175.out 1
            go_wp2
            go_meet
            case rel => exact ⟨_, (true), (by first | rfl | (simp; done) | (simp [*]; done)), H', ⟨by first | omega | exact Nat.le_refl _⟩, ⟨by (with_reducible repeat (first | refine blk_drewN ?_ _ | refine blk_drew ?_ | refine blk_alloc ?_ _)); exact BK175.out⟩, ⟨by repeat (first | (with_reducible first | exact HB.out | apply below_alloc | apply pw_below_drewN | apply below_drew1 | refine below_set ?_ GE175.out) | exact HB.out)⟩⟩
          · rw [if_neg c13] at H
            have c13b0 : decide (400 < (a1.size : Int)) = false := decide_eq_false c13
            have c13b1 : decide (400 < a1.size) = false := decide_eq_false (by omega)
            clear c13
            by_cases c15 : a2 < 0
            · rw [if_pos c15] at H
              have c15b0 : decide (a2 < 0) = true := decide_eq_true c15
              clear c15
              have H' := Aside0.mk H
              clear H
              have hcz16_0 : w8.cell? ⟨gb175, 0, none⟩ = some (.bool a0_0) := (blk_cell BK175.out 0).trans rfl
              have hcz16_1 : w8.cell? ⟨gb175, 1, none⟩ = some (.slice A0_1 l0_1.length c0_1) := (blk_cell BK175.out 1).trans rfl
              have hfz16_0 := blk_frozen BK175.out 0
              have hfz16_1 := blk_frozen BK175.out 1
              go_wp2
              go_meet
              case rel => exact ⟨_, (true), (by first | rfl | (simp; done) | (simp [*]; done)), H', ⟨by first | omega | exact Nat.le_refl _⟩, ⟨by (with_reducible repeat (first | refine blk_drewN ?_ _ | refine blk_drew ?_ | refine blk_alloc ?_ _)); exact BK175.out⟩, ⟨by repeat (first | (with_reducible first | exact HB.out | apply below_alloc | apply pw_below_drewN | apply below_drew1 | refine below_set ?_ GE175.out) | exact HB.out)⟩⟩
            · rw [if_neg c15] at H
              have c15b0 : decide (a2 < 0) = false := decide_eq_false c15
              clear c15
              by_cases c17 : a2 ≥ (l0_1.length : Int)
              · rw [if_pos c17] at H
                have c17b0 : decide ((l0_1.length : Int) ≤ a2) = true := decide_eq_true c17
                clear c17
                have H' := Aside0.mk H
                clear H
                have hcz18_0 : w8.cell? ⟨gb175, 0, none⟩ = some (.bool a0_0) := (blk_cell BK175.out 0).trans rfl
                have hcz18_1 : w8.cell? ⟨gb175, 1, none⟩ = some (.slice A0_1 l0_1.length c0_1) := (blk_cell BK175.out 1).trans rfl
                have hfz18_0 := blk_frozen BK175.out 0
                have hfz18_1 := blk_frozen BK175.out 1
                go_wp2
                go_meet
                case rel => exact ⟨_, (true), (by first | rfl | (simp; done) | (simp [*]; done)), H', ⟨by first | omega | exact Nat.le_refl _⟩, ⟨by (with_reducible repeat (first | refine blk_drewN ?_ _ | refine blk_drew ?_ | refine blk_alloc ?_ _)); exact BK175.out⟩, ⟨by repeat (first | (with_reducible first | exact HB.out | apply below_alloc | apply pw_below_drewN | apply below_drew1 | refine below_set ?_ GE175.out) | exact HB.out)⟩⟩
              · rw [if_neg c17] at H
                have c17b0 : decide ((l0_1.length : Int) ≤ a2) = false := decide_eq_false c17
                clear c17
                by_cases c19 : a0_0 = true
                · subst c19
                  have H1 : (eponymlaw18_MatchCloses.j0 k a1 a2 true true l0_1) = some r := by rw [if_pos rfl] at H; exact H
                  clear H
                  have H := H1
                  clear H1
                  have H' := Aside0.mk H
                  clear H
                  have hcz20_0 : w8.cell? ⟨gb175, 0, none⟩ = some (.bool true) := (blk_cell BK175.out 0).trans rfl
                  have hcz20_1 : w8.cell? ⟨gb175, 1, none⟩ = some (.slice A0_1 l0_1.length c0_1) := (blk_cell BK175.out 1).trans rfl
                  have hfz20_0 := blk_frozen BK175.out 0
                  have hfz20_1 := blk_frozen BK175.out 1
                  go_wp2
                  go_meet
                  case rel => exact ⟨_, (true), (by first | rfl | (simp; done) | (simp [*]; done)), H', ⟨by first | omega | exact Nat.le_refl _⟩, ⟨by (with_reducible repeat (first | refine blk_drewN ?_ _ | refine blk_drew ?_ | refine blk_alloc ?_ _)); exact BK175.out⟩, ⟨by repeat (first | (with_reducible first | exact HB.out | apply below_alloc | apply pw_below_drewN | apply below_drew1 | refine below_set ?_ GE175.out) | exact HB.out)⟩⟩
                · replace c19 := Bool.eq_false_iff.mpr c19
                  subst c19
                  have H1 : (if (l0_1.length : Int) = 1 then (if 0 < (l0_1.length : Int) then (eponymlaw18_MatchCloses.j0 k a1 a2 (((rd_T28 l0_1 0).f0).toList == ([] : List UInt8)) false l0_1) else (none)) else (eponymlaw18_MatchCloses.j0 k a1 a2 false false l0_1)) = some r := by rw [if_neg (show ¬ (false = true) by decide)] at H; exact H
                  clear H
                  have H := H1
                  clear H1
                  by_cases c21 : (l0_1.length : Int) = 1
                  · rw [if_pos c21] at H
                    have c21b0 : ((l0_1.length : Int) == 1) = true := beq_iff_eq.mpr c21
                    have c21b1 : ((l0_1.length : Int) != 1) = false := bne_eq_false_iff_eq.mpr c21
                    clear c21
                    by_cases c22 : 0 < (l0_1.length : Int)
                    · rw [if_pos c22] at H
                      have c22b0 : decide (0 < (l0_1.length : Int)) = true := decide_eq_true c22
                      have c22b1 : decide (0 < l0_1.length) = true := decide_eq_true (by omega)
                      clear c22
                      have H' := Aside0.mk H
                      clear H
                      have hcz23_0 : w8.cell? ⟨gb175, 0, none⟩ = some (.bool false) := (blk_cell BK175.out 0).trans rfl
                      have hcz23_1 : w8.cell? ⟨gb175, 1, none⟩ = some (.slice A0_1 l0_1.length c0_1) := (blk_cell BK175.out 1).trans rfl
                      have hfz23_0 := blk_frozen BK175.out 0
                      have hfz23_1 := blk_frozen BK175.out 1
                      have p177 : 0 ≤ (0 : Int) := (by omega)
                      have q177 : 0 < (l0_1.length : Int) := of_decide_eq_true (by first | (with_reducible assumption) | assumption)
                      obtain ⟨ad177, e177, hx177_0, hx177_1⟩ := at_T28 HR0_1.out 0 p177 q177
                      cases e177
                      have qi177 : (0 < l0_1.length) = True := eq_true (by omega)
                      (try rw [show ((0 : Int)).toNat = 0 from rfl] at hx177_0)
                      (try rw [show 0 * 2 = 0 from rfl] at hx177_0)
                      (try rw [Addr.add_zero'] at hx177_0)
                      (try rw [show ((0 : Int)).toNat = 0 from rfl] at hx177_1)
                      (try rw [show 0 * 2 = 0 from rfl] at hx177_1)
                      (try rw [Addr.add_zero'] at hx177_1)
                      replace hx177_0 := (HB.out.cell (World.block_lt_of_cell? w _ hx177_0)).trans hx177_0
                      replace hx177_1 := (HB.out.cell (World.block_lt_of_cell? w _ hx177_1)).trans hx177_1
                      replace p177 := eq_true p177
                      replace q177 := eq_true q177
                      go_wp2
                      go_meet
                      case rel => exact ⟨_, ((((rd_T28 l0_1 0).f0).toList == ([] : List UInt8))), (by first | rfl | (simp; done) | (simp [*]; done)), H', ⟨by first | omega | exact Nat.le_refl _⟩, ⟨by (with_reducible repeat (first | refine blk_drewN ?_ _ | refine blk_drew ?_ | refine blk_alloc ?_ _)); exact BK175.out⟩, ⟨by repeat (first | (with_reducible first | exact HB.out | apply below_alloc | apply pw_below_drewN | apply below_drew1 | refine below_set ?_ GE175.out) | exact HB.out)⟩⟩
                    · rw [if_neg c22] at H
                      exact absurd H (by simp)
                  · rw [if_neg c21] at H
                    have c21b0 : ((l0_1.length : Int) == 1) = false := beq_eq_false_iff_ne.mpr c21
                    have c21b1 : ((l0_1.length : Int) != 1) = true := bne_iff_ne.mpr c21
                    have H' := Aside0.mk H
                    clear H
                    have hcz24_0 : w8.cell? ⟨gb175, 0, none⟩ = some (.bool false) := (blk_cell BK175.out 0).trans rfl
                    have hcz24_1 : w8.cell? ⟨gb175, 1, none⟩ = some (.slice A0_1 l0_1.length c0_1) := (blk_cell BK175.out 1).trans rfl
                    have hfz24_0 := blk_frozen BK175.out 0
                    have hfz24_1 := blk_frozen BK175.out 1
                    go_wp2
                    go_meet
                    case rel => exact ⟨_, (false), (by first | rfl | (simp; done) | (simp [*]; done)), H', ⟨by first | omega | exact Nat.le_refl _⟩, ⟨by (with_reducible repeat (first | refine blk_drewN ?_ _ | refine blk_drew ?_ | refine blk_alloc ?_ _)); exact BK175.out⟩, ⟨by repeat (first | (with_reducible first | exact HB.out | apply below_alloc | apply pw_below_drewN | apply below_drew1 | refine below_set ?_ GE175.out) | exact HB.out)⟩⟩
    case rest =>
      clear HC6
      try clear c1
      try clear p1
      try clear q1
      try clear hx1
      try clear qi1
      try clear c2
      try clear p2
      try clear c5
      try clear c6
      try clear c9
      try clear c9b0
      try clear c9b1
      try clear c11
      try clear c11b0
      try clear c11b1
      try clear c13
      try clear c13b0
      try clear c13b1
      try clear c15
      try clear c15b0
      try clear c17
      try clear c17b0
      try clear p17
      try clear q17
      try clear hx17
      try clear qi17
      try clear c19
      try clear c21
      try clear c21b0
      try clear c21b1
      try clear c22
      try clear c22b0
      try clear c22b1
      try clear hcz10_0
      try clear hcz10_1
      try clear hcz12_0
      try clear hcz12_1
      try clear hcz14_0
      try clear hcz14_1
      try clear hcz16_0
      try clear hcz16_1
      try clear hcz18_0
      try clear hcz18_1
      try clear hcz20_0
      try clear hcz20_1
      try clear hcz23_0
      try clear hcz23_1
      try clear hcz24_0
      try clear hcz24_1
      try clear hfz10_0
      try clear hfz10_1
      try clear hfz12_0
      try clear hfz12_1
      try clear hfz14_0
      try clear hfz14_1
      try clear hfz16_0
      try clear hfz16_1
      try clear hfz18_0
      try clear hfz18_1
      try clear hfz20_0
      try clear hfz20_1
      try clear hfz23_0
      try clear hfz23_1
      try clear hfz24_0
      try clear hfz24_1
      try clear hx177_0
      try clear hx177_1
      try clear p177
      try clear q177
      obtain ⟨kq, x58_5, rfl, HA, HJ5, BK175, HB⟩ := hcut
      cases kq with
      | zero => exact absurd HA.out (by simp [eponymlaw18_MatchCloses.j0])
      | succ kj5 =>
        have H := HA.out
        clear HA
        simp only [eponymlaw18_MatchCloses.j0] at H
        by_cases c25 : x58_5 = true
        · subst c25
          have H1 : (some true) = some r := by rw [if_pos rfl] at H; exact H
          clear H
          have H := H1
          clear H1
          obtain rfl := Option.some.inj H
          go_wp2
          go_ret
          exact ⟨by first | rfl | (simp [errW_none, errW_some] <;> rfl) | (simp [*, errW_none, errW_some] <;> rfl), by repeat (first | (with_reducible first | exact HB.out | apply below_alloc | apply pw_below_drewN | apply below_drew1 | refine below_set ?_ GE175.out) | exact HB.out)⟩
        · replace c25 := Bool.eq_false_iff.mpr c25
          subst c25
          have H1 : (eponymlaw18_MatchCloses.l0 kj5 a1 a2 0 a0_0 l0_1 false ([] : List (S28))) = some r := by rw [if_neg (show ¬ (false = true) by decide)] at H; exact H
          clear H
          have H := H1
          clear H1
          have H' := Aside0.mk H
          clear H
          go_wp2_with (first | ((with_reducible refine gate_dst (N := 7) rfl ?_); (try (refine gate_guard (by rfl) ?_; dsimp only)); refine box_event ?hg (N := 7) ?hd (cs := #[.bool false, .slice none 0 0]) (t := 24) ?hr ?_; (case hd => rfl); (case hg => rfl); (case hr => first | (go_simp; done) | (go_simp; rfl)); intro gb178 hg w26 hbox hb; have n0_ := Aside0.mk (blk_below (g := gb175) (o := .cells #[.bool a0_0, .slice A0_1 l0_1.length c0_1] 24 (0, 0)) (by (with_reducible repeat (first | refine blk_drewN ?_ _ | refine blk_drew ?_ | refine blk_alloc ?_ _)); exact BK175.out) hb); have n1_ := Aside0.mk (below_step (by repeat (first | (with_reducible first | exact HB.out | apply below_alloc | apply pw_below_drewN | apply below_drew1 | refine below_set ?_ GE175.out) | exact HB.out)) hb); have n2_ := Aside0.mk (hbox); have n3_ := Aside0.mk ((by rw [hg]; exact (below_size (by repeat (first | (with_reducible first | exact HB.out | apply below_alloc | apply pw_below_drewN | apply below_drew1 | refine below_set ?_ GE175.out) | exact HB.out))) : w.heap.size ≤ gb178)); have n4_ := Aside0.mk ((by rw [hg]; exact (below_size (by repeat (first | (with_reducible first | exact HB.out | apply below_alloc | apply pw_below_drewN | apply below_drew1 | refine below_set ?_ GE175.out) | exact HB.out))) : w.heap.size ≤ gb178)); have n5_ := Aside0.mk ((by rw [hg]; exact Nat.ne_of_lt (blk_lt (g := gb175) (o := .cells #[.bool a0_0, .slice A0_1 l0_1.length c0_1] 24 (0, 0)) (by (with_reducible repeat (first | refine blk_drewN ?_ _ | refine blk_drew ?_ | refine blk_alloc ?_ _)); exact BK175.out)) : gb175 ≠ gb178)); have n6_ := Aside0.mk ((by rw [hg]; exact Nat.ne_of_gt (blk_lt (g := gb175) (o := .cells #[.bool a0_0, .slice A0_1 l0_1.length c0_1] 24 (0, 0)) (by (with_reducible repeat (first | refine blk_drewN ?_ _ | refine blk_drew ?_ | refine blk_alloc ?_ _)); exact BK175.out)) : gb178 ≠ gb175)); clear BK175; clear HB; have BK175 := n0_; have HB := n1_; have BK178 := n2_; have GW178 := n3_; have GE178 := n4_; have NB175_178 := n5_; have NB178_175 := n6_; clear n0_ n1_ n2_ n3_ n4_ n5_ n6_; clear hb hbox hg; have hnb27 := NB178_175.out; have hnc27 := NB175_178.out; have hcz28_0 : w26.cell? ⟨gb178, 0, none⟩ = some (.bool false) := (blk_cell BK178.out 0).trans rfl; have hcz28_1 : w26.cell? ⟨gb178, 1, none⟩ = some (.slice none 0 0) := (blk_cell BK178.out 1).trans rfl; have hfz28_0 := blk_frozen BK178.out 0; have hfz28_1 := blk_frozen BK178.out 1))
          go_loopg [8] kj5 (fun kq v8 w' => ∃ (x8_2 : Int) (x179001_2 : List (S28)) (u179001 : Value), v8 = .int .i64 x8_2 ∧ Aside0 (eponymlaw18_MatchCloses.l0 kq a1 a2 x8_2 a0_0 l0_1 false x179001_2 = some r) ∧ Aside0 (kq ≤ kj5) ∧ Aside0 (Kd.R k28 28 w' w.heap.size (fun _ => True) u179001 x179001_2) ∧ Aside0 (w'.heap[gb175]? = some (.cells #[.bool a0_0, (.slice A0_1 l0_1.length c0_1)] 24 (0, 0))) ∧ Aside0 (w'.heap[gb178]? = some (.cells #[.bool false, u179001] 24 (0, 0))) ∧ Aside0 (Below w.heap.size w w'))
          case atStart => exact ⟨(0), (([] : List (S28))), (.slice none 0 0), (by first | rfl | (simp; done) | (simp [*]; done)), H', ⟨Nat.le_refl _⟩, ⟨by first | exact Kd.R_nil _ _ _ _ _ | exact Kd.N_nil _ _ _ _ _ | exact Kd.V_nil _ _ _ _ _ | exact Kd.Q_nil _ _ _ _ _ | exact Kd.S_nil _ _ _ _ _⟩, ⟨by (with_reducible repeat (first | refine blk_drewN ?_ _ | refine blk_drew ?_ | refine blk_alloc ?_ _)); refine blk_far ?_ NB175_178.out _; (with_reducible repeat (first | refine blk_drewN ?_ _ | refine blk_drew ?_ | refine blk_alloc ?_ _)); refine blk_far ?_ NB175_178.out _; (with_reducible repeat (first | refine blk_drewN ?_ _ | refine blk_drew ?_ | refine blk_alloc ?_ _)); exact BK175.out⟩, ⟨by (with_reducible repeat (first | refine blk_drewN ?_ _ | refine blk_drew ?_ | refine blk_alloc ?_ _)); refine blk_put (cs := #[.bool false, .slice none 0 0]) ?_ 1 _ rfl; (with_reducible repeat (first | refine blk_drewN ?_ _ | refine blk_drew ?_ | refine blk_alloc ?_ _)); refine blk_put (cs := #[.bool false, .slice none 0 0]) ?_ 0 _ rfl; (with_reducible repeat (first | refine blk_drewN ?_ _ | refine blk_drew ?_ | refine blk_alloc ?_ _)); exact BK178.out⟩, ⟨by repeat (first | (with_reducible first | exact HB.out | apply below_alloc | apply pw_below_drewN | apply below_drew1 | refine below_set ?_ GE175.out | refine below_set ?_ GE178.out) | exact HB.out)⟩⟩
          case round =>
            clear H'
            try clear c1
            try clear p1
            try clear q1
            try clear hx1
            try clear qi1
            try clear c2
            try clear p2
            try clear c5
            try clear c6
            try clear c9
            try clear c9b0
            try clear c9b1
            try clear c11
            try clear c11b0
            try clear c11b1
            try clear c13
            try clear c13b0
            try clear c13b1
            try clear c15
            try clear c15b0
            try clear c17
            try clear c17b0
            try clear p17
            try clear q17
            try clear hx17
            try clear qi17
            try clear c19
            try clear c21
            try clear c21b0
            try clear c21b1
            try clear c22
            try clear c22b0
            try clear c22b1
            try clear c25
            try clear c27
            try clear hcz10_0
            try clear hcz10_1
            try clear hcz12_0
            try clear hcz12_1
            try clear hcz14_0
            try clear hcz14_1
            try clear hcz16_0
            try clear hcz16_1
            try clear hcz18_0
            try clear hcz18_1
            try clear hcz20_0
            try clear hcz20_1
            try clear hcz23_0
            try clear hcz23_1
            try clear hcz24_0
            try clear hcz24_1
            try clear hcz28_0
            try clear hcz28_1
            try clear hfz10_0
            try clear hfz10_1
            try clear hfz12_0
            try clear hfz12_1
            try clear hfz14_0
            try clear hfz14_1
            try clear hfz16_0
            try clear hfz16_1
            try clear hfz18_0
            try clear hfz18_1
            try clear hfz20_0
            try clear hfz20_1
            try clear hfz23_0
            try clear hfz23_1
            try clear hfz24_0
            try clear hfz24_1
            try clear hfz28_0
            try clear hfz28_1
            try clear hx177_0
            try clear hx177_1
            try clear p1
            try clear p17
            try clear p177
            try clear p2
            try clear q1
            try clear q17
            try clear q177
            obtain ⟨x8_2, x179001_2, u179001, rfl, HA, HK2, HO_179001, BK175, BK178, HB⟩ := hrel
            cases gk with
            | zero => exact absurd HA.out (by simp [eponymlaw18_MatchCloses.l0])
            | succ k2 =>
              have H := HA.out
              clear HA
              simp only [eponymlaw18_MatchCloses.l0] at H
              by_cases c29 : x8_2 < (l0_1.length : Int)
              · rw [if_pos c29] at H
                have c29b0 : decide (x8_2 < (l0_1.length : Int)) = true := decide_eq_true c29
                clear c29
                by_cases c30 : 0 ≤ x8_2
                · rw [if_pos c30] at H
                  have c30b0 : decide (0 ≤ x8_2) = true := decide_eq_true c30
                  clear c30
                  by_cases c31 : (((rd_T28 l0_1 x8_2).f0).size : Int) > 40
                  · rw [if_pos c31] at H
                    have c31b0 : decide (40 < (((rd_T28 l0_1 x8_2).f0).size : Int)) = true := decide_eq_true c31
                    have c31b1 : decide (40 < ((rd_T28 l0_1 x8_2).f0).size) = true := decide_eq_true (by omega)
                    clear c31
                    obtain rfl := Option.some.inj H
                    have hnb32 := NB175_178.out
                    have hnc32 := NB178_175.out
                    have hcz33_0 : wr.cell? ⟨gb175, 0, none⟩ = some (.bool a0_0) := (blk_cell BK175.out 0).trans rfl
                    have hcz33_1 : wr.cell? ⟨gb175, 1, none⟩ = some (.slice A0_1 l0_1.length c0_1) := (blk_cell BK175.out 1).trans rfl
                    have hfz33_0 := blk_frozen BK175.out 0
                    have hfz33_1 := blk_frozen BK175.out 1
                    have p179 : 0 ≤ (x8_2 : Int) := of_decide_eq_true (by first | (with_reducible assumption) | assumption)
                    have q179 : x8_2 < (l0_1.length : Int) := of_decide_eq_true (by first | (with_reducible assumption) | assumption)
                    obtain ⟨ad179, e179, hx179_0, hx179_1⟩ := at_T28 HR0_1.out x8_2 p179 q179
                    cases e179
                    replace hx179_0 := (HB.out.cell (World.block_lt_of_cell? w _ hx179_0)).trans hx179_0
                    replace hx179_1 := (HB.out.cell (World.block_lt_of_cell? w _ hx179_1)).trans hx179_1
                    replace p179 := eq_true p179
                    replace q179 := eq_true q179
                    go_wp2_with (first | ((with_reducible refine gate_dst (N := 9) rfl ?_); (try (refine gate_guard (by rfl) ?_; dsimp only)); refine box_event ?hg (N := 9) ?hd (cs := #[.string (⟨#[]⟩ : ByteArray), .bool false]) (t := 28) ?hr ?_; (case hd => rfl); (case hg => rfl); (case hr => first | (go_simp; done) | (go_simp; rfl)); intro gb180 hg w34 hbox hb; have n0_ := Aside0.mk (Kd.R_below (Kd.R_elderB (by (with_reducible repeat (first | apply Kd.R_alloc | apply Kd.R_drewN | apply Kd.R_drew)); exact HO_179001.out) gb180 (Nat.le_of_eq hg.symm)) hb); have n1_ := Aside0.mk (blk_below (g := gb175) (o := .cells #[.bool a0_0, .slice (some ad179) l0_1.length c0_1] 24 (0, 0)) (by (with_reducible repeat (first | refine blk_drewN ?_ _ | refine blk_drew ?_ | refine blk_alloc ?_ _)); exact BK175.out) hb); have n2_ := Aside0.mk (blk_below (g := gb178) (o := .cells #[.bool false, u179001] 24 (0, 0)) (by (with_reducible repeat (first | refine blk_drewN ?_ _ | refine blk_drew ?_ | refine blk_alloc ?_ _)); exact BK178.out) hb); have n3_ := Aside0.mk (below_step (by repeat (first | (with_reducible first | exact HB.out | apply below_alloc | apply pw_below_drewN | apply below_drew1 | refine below_set ?_ GE175.out | refine below_set ?_ GE178.out) | exact HB.out)) hb); have n4_ := Aside0.mk (hbox); have n5_ := Aside0.mk ((by rw [hg]; exact (below_size (by repeat (first | (with_reducible first | exact HB.out | apply below_alloc | apply pw_below_drewN | apply below_drew1 | refine below_set ?_ GE175.out | refine below_set ?_ GE178.out) | exact HB.out))) : w.heap.size ≤ gb180)); have n6_ := Aside0.mk ((by rw [hg]; exact (below_size (by repeat (first | (with_reducible first | exact HB.out | apply below_alloc | apply pw_below_drewN | apply below_drew1 | refine below_set ?_ GE175.out | refine below_set ?_ GE178.out) | exact HB.out))) : w.heap.size ≤ gb180)); have n7_ := Aside0.mk ((by rw [hg]; exact Nat.ne_of_lt (blk_lt (g := gb175) (o := .cells #[.bool a0_0, .slice (some ad179) l0_1.length c0_1] 24 (0, 0)) (by (with_reducible repeat (first | refine blk_drewN ?_ _ | refine blk_drew ?_ | refine blk_alloc ?_ _)); exact BK175.out)) : gb175 ≠ gb180)); have n8_ := Aside0.mk ((by rw [hg]; exact Nat.ne_of_gt (blk_lt (g := gb175) (o := .cells #[.bool a0_0, .slice (some ad179) l0_1.length c0_1] 24 (0, 0)) (by (with_reducible repeat (first | refine blk_drewN ?_ _ | refine blk_drew ?_ | refine blk_alloc ?_ _)); exact BK175.out)) : gb180 ≠ gb175)); have n9_ := Aside0.mk ((by rw [hg]; exact Nat.ne_of_lt (blk_lt (g := gb178) (o := .cells #[.bool false, u179001] 24 (0, 0)) (by (with_reducible repeat (first | refine blk_drewN ?_ _ | refine blk_drew ?_ | refine blk_alloc ?_ _)); exact BK178.out)) : gb178 ≠ gb180)); have n10_ := Aside0.mk ((by rw [hg]; exact Nat.ne_of_gt (blk_lt (g := gb178) (o := .cells #[.bool false, u179001] 24 (0, 0)) (by (with_reducible repeat (first | refine blk_drewN ?_ _ | refine blk_drew ?_ | refine blk_alloc ?_ _)); exact BK178.out)) : gb180 ≠ gb178)); clear HO_179001; clear BK175; clear BK178; clear HB; have HO_179001 := n0_; have BK175 := n1_; have BK178 := n2_; have HB := n3_; have BK180 := n4_; have GW180 := n5_; have GE180 := n6_; have NB175_180 := n7_; have NB180_175 := n8_; have NB178_180 := n9_; have NB180_178 := n10_; clear n0_ n1_ n2_ n3_ n4_ n5_ n6_ n7_ n8_ n9_ n10_; clear hb hbox hg; have hnb35 := NB180_175.out; have hnc35 := NB175_180.out; have hnb36 := NB180_178.out; have hnc36 := NB178_180.out; have hcz37_0 : w34.cell? ⟨gb180, 0, none⟩ = some (.string (⟨#[]⟩ : ByteArray)) := (blk_cell BK180.out 0).trans rfl; have hcz37_1 : w34.cell? ⟨gb180, 1, none⟩ = some (.bool false) := (blk_cell BK180.out 1).trans rfl; have hfz37_0 := blk_frozen BK180.out 0; have hfz37_1 := blk_frozen BK180.out 1))
                    go_ret
                    exact ⟨by first | rfl | (simp [errW_none, errW_some] <;> rfl) | (simp [*, errW_none, errW_some] <;> rfl), by repeat (first | (with_reducible first | exact HB.out | apply below_alloc | apply pw_below_drewN | apply below_drew1 | refine below_set ?_ GE175.out | refine below_set ?_ GE178.out | refine below_set ?_ GE180.out) | exact HB.out)⟩
                  · rw [if_neg c31] at H
                    have c31b0 : decide (40 < (((rd_T28 l0_1 x8_2).f0).size : Int)) = false := decide_eq_false c31
                    have c31b1 : decide (40 < ((rd_T28 l0_1 x8_2).f0).size) = false := decide_eq_false (by omega)
                    clear c31
                    have H' := Aside0.mk H
                    clear H
                    have hnb38 := NB175_178.out
                    have hnc38 := NB178_175.out
                    have hcz39_0 : wr.cell? ⟨gb175, 0, none⟩ = some (.bool a0_0) := (blk_cell BK175.out 0).trans rfl
                    have hcz39_1 : wr.cell? ⟨gb175, 1, none⟩ = some (.slice A0_1 l0_1.length c0_1) := (blk_cell BK175.out 1).trans rfl
                    have hfz39_0 := blk_frozen BK175.out 0
                    have hfz39_1 := blk_frozen BK175.out 1
                    have p179 : 0 ≤ (x8_2 : Int) := of_decide_eq_true (by first | (with_reducible assumption) | assumption)
                    have q179 : x8_2 < (l0_1.length : Int) := of_decide_eq_true (by first | (with_reducible assumption) | assumption)
                    obtain ⟨ad179, e179, hx179_0, hx179_1⟩ := at_T28 HR0_1.out x8_2 p179 q179
                    cases e179
                    replace hx179_0 := (HB.out.cell (World.block_lt_of_cell? w _ hx179_0)).trans hx179_0
                    replace hx179_1 := (HB.out.cell (World.block_lt_of_cell? w _ hx179_1)).trans hx179_1
                    replace p179 := eq_true p179
                    replace q179 := eq_true q179
                    go_wp2_with (first | ((with_reducible refine gate_dst (N := 9) rfl ?_); (try (refine gate_guard (by rfl) ?_; dsimp only)); refine box_event ?hg (N := 9) ?hd (cs := #[.string (⟨#[]⟩ : ByteArray), .bool false]) (t := 28) ?hr ?_; (case hd => rfl); (case hg => rfl); (case hr => first | (go_simp; done) | (go_simp; rfl)); intro gb180 hg w40 hbox hb; have n0_ := Aside0.mk (Kd.R_below (Kd.R_elderB (by (with_reducible repeat (first | apply Kd.R_alloc | apply Kd.R_drewN | apply Kd.R_drew)); exact HO_179001.out) gb180 (Nat.le_of_eq hg.symm)) hb); have n1_ := Aside0.mk (blk_below (g := gb175) (o := .cells #[.bool a0_0, .slice (some ad179) l0_1.length c0_1] 24 (0, 0)) (by (with_reducible repeat (first | refine blk_drewN ?_ _ | refine blk_drew ?_ | refine blk_alloc ?_ _)); exact BK175.out) hb); have n2_ := Aside0.mk (blk_below (g := gb178) (o := .cells #[.bool false, u179001] 24 (0, 0)) (by (with_reducible repeat (first | refine blk_drewN ?_ _ | refine blk_drew ?_ | refine blk_alloc ?_ _)); exact BK178.out) hb); have n3_ := Aside0.mk (below_step (by repeat (first | (with_reducible first | exact HB.out | apply below_alloc | apply pw_below_drewN | apply below_drew1 | refine below_set ?_ GE175.out | refine below_set ?_ GE178.out) | exact HB.out)) hb); have n4_ := Aside0.mk (hbox); have n5_ := Aside0.mk ((by rw [hg]; exact (below_size (by repeat (first | (with_reducible first | exact HB.out | apply below_alloc | apply pw_below_drewN | apply below_drew1 | refine below_set ?_ GE175.out | refine below_set ?_ GE178.out) | exact HB.out))) : w.heap.size ≤ gb180)); have n6_ := Aside0.mk ((by rw [hg]; exact (below_size (by repeat (first | (with_reducible first | exact HB.out | apply below_alloc | apply pw_below_drewN | apply below_drew1 | refine below_set ?_ GE175.out | refine below_set ?_ GE178.out) | exact HB.out))) : w.heap.size ≤ gb180)); have n7_ := Aside0.mk ((by rw [hg]; exact Nat.ne_of_lt (blk_lt (g := gb175) (o := .cells #[.bool a0_0, .slice (some ad179) l0_1.length c0_1] 24 (0, 0)) (by (with_reducible repeat (first | refine blk_drewN ?_ _ | refine blk_drew ?_ | refine blk_alloc ?_ _)); exact BK175.out)) : gb175 ≠ gb180)); have n8_ := Aside0.mk ((by rw [hg]; exact Nat.ne_of_gt (blk_lt (g := gb175) (o := .cells #[.bool a0_0, .slice (some ad179) l0_1.length c0_1] 24 (0, 0)) (by (with_reducible repeat (first | refine blk_drewN ?_ _ | refine blk_drew ?_ | refine blk_alloc ?_ _)); exact BK175.out)) : gb180 ≠ gb175)); have n9_ := Aside0.mk ((by rw [hg]; exact Nat.ne_of_lt (blk_lt (g := gb178) (o := .cells #[.bool false, u179001] 24 (0, 0)) (by (with_reducible repeat (first | refine blk_drewN ?_ _ | refine blk_drew ?_ | refine blk_alloc ?_ _)); exact BK178.out)) : gb178 ≠ gb180)); have n10_ := Aside0.mk ((by rw [hg]; exact Nat.ne_of_gt (blk_lt (g := gb178) (o := .cells #[.bool false, u179001] 24 (0, 0)) (by (with_reducible repeat (first | refine blk_drewN ?_ _ | refine blk_drew ?_ | refine blk_alloc ?_ _)); exact BK178.out)) : gb180 ≠ gb178)); clear HO_179001; clear BK175; clear BK178; clear HB; have HO_179001 := n0_; have BK175 := n1_; have BK178 := n2_; have HB := n3_; have BK180 := n4_; have GW180 := n5_; have GE180 := n6_; have NB175_180 := n7_; have NB180_175 := n8_; have NB178_180 := n9_; have NB180_178 := n10_; clear n0_ n1_ n2_ n3_ n4_ n5_ n6_ n7_ n8_ n9_ n10_; clear hb hbox hg; have hnb41 := NB180_175.out; have hnc41 := NB175_180.out; have hnb42 := NB180_178.out; have hnc42 := NB178_180.out; have hcz43_0 : w40.cell? ⟨gb180, 0, none⟩ = some (.string (⟨#[]⟩ : ByteArray)) := (blk_cell BK180.out 0).trans rfl; have hcz43_1 : w40.cell? ⟨gb180, 1, none⟩ = some (.bool false) := (blk_cell BK180.out 1).trans rfl; have hfz43_0 := blk_frozen BK180.out 0; have hfz43_1 := blk_frozen BK180.out 1))
                    go_loopg [10] k2 (fun kq v10 w' => ∃ (x10_3 : Int), v10 = .int .i64 x10_3 ∧ Aside0 (eponymlaw18_MatchCloses.l1 kq a1 a2 x8_2 x10_3 a0_0 l0_1 false x179001_2 ((rd_T28 l0_1 x8_2).f0) ((rd_T28 l0_1 x8_2).f1) = some r) ∧ Aside0 (kq ≤ k2) ∧ Aside0 (Kd.R k28 28 w' w.heap.size (fun k_ => k_ ≠ gb180) u179001 x179001_2) ∧ Aside0 (w'.heap[gb175]? = some (.cells #[.bool a0_0, (.slice (some ad179) l0_1.length c0_1)] 24 (0, 0))) ∧ Aside0 (w'.heap[gb178]? = some (.cells #[.bool false, u179001] 24 (0, 0))) ∧ Aside0 (w'.heap[gb180]? = some (.cells #[.string ((rd_T28 l0_1 x8_2).f0), .bool ((rd_T28 l0_1 x8_2).f1)] 28 (0, 0))) ∧ Aside0 (Below w.heap.size w w'))
                    case atStart => exact ⟨(0), (by first | rfl | (simp; done) | (simp [*]; done)), H', ⟨Nat.le_refl _⟩, ⟨by (with_reducible repeat (first | apply Kd.R_alloc | apply Kd.R_drewN | apply Kd.R_drew)); exact Kd.R_mono (Kd.R_far (p := ⟨gb180, 1, none⟩) (Kd.R_far (p := ⟨gb180, 0, none⟩) (Kd.R_mono HO_179001.out (fun k_ hk => (⟨hk, hk.2⟩ : _ ∧ k_ ≠ gb180))) (fun _ hk => hk.2) (.string ((rd_T28 l0_1 x8_2).f0))) (fun _ hk => hk.2) (.bool ((rd_T28 l0_1 x8_2).f1))) (fun _ hk => hk.1.2)⟩, ⟨by (with_reducible repeat (first | refine blk_drewN ?_ _ | refine blk_drew ?_ | refine blk_alloc ?_ _)); refine blk_far ?_ NB175_180.out _; (with_reducible repeat (first | refine blk_drewN ?_ _ | refine blk_drew ?_ | refine blk_alloc ?_ _)); refine blk_far ?_ NB175_180.out _; (with_reducible repeat (first | refine blk_drewN ?_ _ | refine blk_drew ?_ | refine blk_alloc ?_ _)); exact BK175.out⟩, ⟨by (with_reducible repeat (first | refine blk_drewN ?_ _ | refine blk_drew ?_ | refine blk_alloc ?_ _)); refine blk_far ?_ NB178_180.out _; (with_reducible repeat (first | refine blk_drewN ?_ _ | refine blk_drew ?_ | refine blk_alloc ?_ _)); refine blk_far ?_ NB178_180.out _; (with_reducible repeat (first | refine blk_drewN ?_ _ | refine blk_drew ?_ | refine blk_alloc ?_ _)); exact BK178.out⟩, ⟨by (with_reducible repeat (first | refine blk_drewN ?_ _ | refine blk_drew ?_ | refine blk_alloc ?_ _)); refine blk_put (cs := #[.string ((rd_T28 l0_1 x8_2).f0), .bool false]) ?_ 1 _ rfl; (with_reducible repeat (first | refine blk_drewN ?_ _ | refine blk_drew ?_ | refine blk_alloc ?_ _)); refine blk_put (cs := #[.string (⟨#[]⟩ : ByteArray), .bool false]) ?_ 0 _ rfl; (with_reducible repeat (first | refine blk_drewN ?_ _ | refine blk_drew ?_ | refine blk_alloc ?_ _)); exact BK180.out⟩, ⟨by repeat (first | (with_reducible first | exact HB.out | apply below_alloc | apply pw_below_drewN | apply below_drew1 | refine below_set ?_ GE175.out | refine below_set ?_ GE178.out | refine below_set ?_ GE180.out) | exact HB.out)⟩⟩
                    case round =>
                      clear H'
                      try clear c1
                      try clear p1
                      try clear q1
                      try clear hx1
                      try clear qi1
                      try clear c2
                      try clear p2
                      try clear c3
                      try clear c4
                      try clear c5
                      try clear c6
                      try clear c9
                      try clear c9b0
                      try clear c9b1
                      try clear c11
                      try clear c11b0
                      try clear c11b1
                      try clear c13
                      try clear c13b0
                      try clear c13b1
                      try clear c15
                      try clear c15b0
                      try clear c17
                      try clear c17b0
                      try clear p17
                      try clear q17
                      try clear hx17
                      try clear qi17
                      try clear c19
                      try clear c21
                      try clear c21b0
                      try clear c21b1
                      try clear c22
                      try clear c22b0
                      try clear c22b1
                      try clear c25
                      try clear c27
                      try clear c29
                      try clear c29b0
                      try clear c30
                      try clear c30b0
                      try clear c31
                      try clear c31b0
                      try clear c31b1
                      try clear c32
                      try clear c35
                      try clear c36
                      try clear c38
                      try clear c41
                      try clear c42
                      try clear hcz10_0
                      try clear hcz10_1
                      try clear hcz12_0
                      try clear hcz12_1
                      try clear hcz14_0
                      try clear hcz14_1
                      try clear hcz16_0
                      try clear hcz16_1
                      try clear hcz18_0
                      try clear hcz18_1
                      try clear hcz20_0
                      try clear hcz20_1
                      try clear hcz23_0
                      try clear hcz23_1
                      try clear hcz24_0
                      try clear hcz24_1
                      try clear hcz28_0
                      try clear hcz28_1
                      try clear hcz33_0
                      try clear hcz33_1
                      try clear hcz37_0
                      try clear hcz37_1
                      try clear hcz39_0
                      try clear hcz39_1
                      try clear hcz43_0
                      try clear hcz43_1
                      try clear hfz10_0
                      try clear hfz10_1
                      try clear hfz12_0
                      try clear hfz12_1
                      try clear hfz14_0
                      try clear hfz14_1
                      try clear hfz16_0
                      try clear hfz16_1
                      try clear hfz18_0
                      try clear hfz18_1
                      try clear hfz20_0
                      try clear hfz20_1
                      try clear hfz23_0
                      try clear hfz23_1
                      try clear hfz24_0
                      try clear hfz24_1
                      try clear hfz28_0
                      try clear hfz28_1
                      try clear hfz33_0
                      try clear hfz33_1
                      try clear hfz37_0
                      try clear hfz37_1
                      try clear hfz39_0
                      try clear hfz39_1
                      try clear hfz43_0
                      try clear hfz43_1
                      try clear hx177_0
                      try clear hx177_1
                      try clear hx179_0
                      try clear hx179_1
                      try clear p1
                      try clear p17
                      try clear p177
                      try clear p179
                      try clear p2
                      try clear q1
                      try clear q17
                      try clear q177
                      try clear q179
                      obtain ⟨x10_3, rfl, HA, HK3, HO_179001, BK175, BK178, BK180, HB⟩ := hrel
                      cases gk with
                      | zero => exact absurd HA.out (by simp [eponymlaw18_MatchCloses.l1])
                      | succ k3 =>
                        have H := HA.out
                        clear HA
                        simp only [eponymlaw18_MatchCloses.l1] at H
                        by_cases c44 : x10_3 < (((rd_T28 l0_1 x8_2).f0).size : Int)
                        · rw [if_pos c44] at H
                          have c44b0 : decide (x10_3 < (((rd_T28 l0_1 x8_2).f0).size : Int)) = true := decide_eq_true c44
                          clear c44
                          by_cases c45 : 0 ≤ x10_3
                          · rw [if_pos c45] at H
                            have c45b0 : decide (0 ≤ x10_3) = true := decide_eq_true c45
                            clear c45
                            by_cases c47 : (bt ((rd_T28 l0_1 x8_2).f0) x10_3) = 46
                            · rw [if_pos c47] at H
                              have c47b0 : ((bt ((rd_T28 l0_1 x8_2).f0) x10_3) == 46) = true := beq_iff_eq.mpr c47
                              have c47b1 : ((bt ((rd_T28 l0_1 x8_2).f0) x10_3) != 46) = false := bne_eq_false_iff_eq.mpr c47
                              clear c47
                              obtain rfl := Option.some.inj H
                              have hnb48 := NB180_175.out
                              have hnc48 := NB175_180.out
                              have hnb49 := NB180_178.out
                              have hnc49 := NB178_180.out
                              have hcz50_0 : wr.cell? ⟨gb180, 0, none⟩ = some (.string ((rd_T28 l0_1 x8_2).f0)) := (blk_cell BK180.out 0).trans rfl
                              have hcz50_1 : wr.cell? ⟨gb180, 1, none⟩ = some (.bool ((rd_T28 l0_1 x8_2).f1)) := (blk_cell BK180.out 1).trans rfl
                              have hfz50_0 := blk_frozen BK180.out 0
                              have hfz50_1 := blk_frozen BK180.out 1
                              have p46 : 0 ≤ (x10_3 : Int) := of_decide_eq_true (by first | (with_reducible assumption) | assumption)
                              have q46 : x10_3 < (((rd_T28 l0_1 x8_2).f0).size : Int) := of_decide_eq_true (by first | (with_reducible assumption) | assumption)
                              have hx46 := bt_at ((rd_T28 l0_1 x8_2).f0) x10_3
                              replace p46 := eq_true p46
                              replace q46 := eq_true q46
                              go_wp2
                              go_ret
                              exact ⟨by first | rfl | (simp [errW_none, errW_some] <;> rfl) | (simp [*, errW_none, errW_some] <;> rfl), by repeat (first | (with_reducible first | exact HB.out | apply below_alloc | apply pw_below_drewN | apply below_drew1 | refine below_set ?_ GE175.out | refine below_set ?_ GE178.out | refine below_set ?_ GE180.out) | exact HB.out)⟩
                            · rw [if_neg c47] at H
                              have c47b0 : ((bt ((rd_T28 l0_1 x8_2).f0) x10_3) == 46) = false := beq_eq_false_iff_ne.mpr c47
                              have c47b1 : ((bt ((rd_T28 l0_1 x8_2).f0) x10_3) != 46) = true := bne_iff_ne.mpr c47
                              have H' := Aside0.mk H
                              clear H
                              have hnb51 := NB180_175.out
                              have hnc51 := NB175_180.out
                              have hnb52 := NB180_178.out
                              have hnc52 := NB178_180.out
                              have hcz53_0 : wr.cell? ⟨gb180, 0, none⟩ = some (.string ((rd_T28 l0_1 x8_2).f0)) := (blk_cell BK180.out 0).trans rfl
                              have hcz53_1 : wr.cell? ⟨gb180, 1, none⟩ = some (.bool ((rd_T28 l0_1 x8_2).f1)) := (blk_cell BK180.out 1).trans rfl
                              have hfz53_0 := blk_frozen BK180.out 0
                              have hfz53_1 := blk_frozen BK180.out 1
                              have p46 : 0 ≤ (x10_3 : Int) := of_decide_eq_true (by first | (with_reducible assumption) | assumption)
                              have q46 : x10_3 < (((rd_T28 l0_1 x8_2).f0).size : Int) := of_decide_eq_true (by first | (with_reducible assumption) | assumption)
                              have hx46 := bt_at ((rd_T28 l0_1 x8_2).f0) x10_3
                              replace p46 := eq_true p46
                              replace q46 := eq_true q46
                              go_wp2
                              go_roundg k3
                              case measure => have := HJ5.out; have := HK2.out; have := HK3.out; omega
                              case rel => exact ⟨(wrap64 (x10_3 + 1)), (by first | rfl | (simp; done) | (simp [*]; done)), H', ⟨by have := HJ5.out; have := HK2.out; have := HK3.out; omega⟩, ⟨by (with_reducible repeat (first | apply Kd.R_alloc | apply Kd.R_drewN | apply Kd.R_drew)); exact HO_179001.out⟩, ⟨by (with_reducible repeat (first | refine blk_drewN ?_ _ | refine blk_drew ?_ | refine blk_alloc ?_ _)); exact BK175.out⟩, ⟨by (with_reducible repeat (first | refine blk_drewN ?_ _ | refine blk_drew ?_ | refine blk_alloc ?_ _)); exact BK178.out⟩, ⟨by (with_reducible repeat (first | refine blk_drewN ?_ _ | refine blk_drew ?_ | refine blk_alloc ?_ _)); exact BK180.out⟩, ⟨by repeat (first | (with_reducible first | exact HB.out | apply below_alloc | apply pw_below_drewN | apply below_drew1 | refine below_set ?_ GE175.out | refine below_set ?_ GE178.out | refine below_set ?_ GE180.out) | exact HB.out)⟩⟩
                          · rw [if_neg c45] at H
                            exact absurd H (by simp)
                        · rw [if_neg c44] at H
                          have c44b0 : decide (x10_3 < (((rd_T28 l0_1 x8_2).f0).size : Int)) = false := decide_eq_false c44
                          clear c44
                          by_cases c54 : x179001_2.length < 5864062014805
                          · rw [if_pos c54] at H
                            have LMc54 := Aside0.mk c54
                            clear c54
                            obtain ⟨y181, hy181⟩ : ∃ y_ : List (S28), y_ = (x179001_2 ++ [(⟨((rd_T28 l0_1 x8_2).f0), false⟩ : S28)]) := ⟨_, rfl⟩
                            replace H : (eponymlaw18_MatchCloses.l0 k3 a1 a2 (wrap64 (x8_2 + 1)) a0_0 l0_1 false y181) = some r := by first | (rw [hy181]; with_reducible exact H) | (have H2_ := (Option.bind_some _ _).symm.trans H; rw [hy181]; with_reducible exact H2_) | (have H2_ := (Option.bind_some _ _).symm.trans H; with_reducible exact H2_) | with_reducible exact H | (rw [hy181]; exact H) | exact H
                            have Ny181 := Aside0.mk hy181
                            clear hy181
                            have H' := Aside0.mk H
                            clear H
                            have hnb55 := NB180_175.out
                            have hnc55 := NB175_180.out
                            have hnb56 := NB180_178.out
                            have hnc56 := NB178_180.out
                            have hcz57_0 : wr.cell? ⟨gb180, 0, none⟩ = some (.string ((rd_T28 l0_1 x8_2).f0)) := (blk_cell BK180.out 0).trans rfl
                            have hcz57_1 : wr.cell? ⟨gb180, 1, none⟩ = some (.bool ((rd_T28 l0_1 x8_2).f1)) := (blk_cell BK180.out 1).trans rfl
                            have hfz57_0 := blk_frozen BK180.out 0
                            have hfz57_1 := blk_frozen BK180.out 1
                            have hnb58 := NB178_175.out
                            have hnc58 := NB175_178.out
                            have hcz59_0 : wr.cell? ⟨gb178, 0, none⟩ = some (.bool false) := (blk_cell BK178.out 0).trans rfl
                            have hcz59_1 : wr.cell? ⟨gb178, 1, none⟩ = some (u179001) := (blk_cell BK178.out 1).trans rfl
                            have hfz59_0 := blk_frozen BK178.out 0
                            have hfz59_1 := blk_frozen BK178.out 1
                            go_wp2_with (first | ((with_reducible refine gate_builtin (b := .append) (xs := #[.tmp 90, .tmp 92]) rfl ?_); (try (refine gate_guard (by rfl) ?_; dsimp only)); at_builtin; refine Kd.R_append k28 (w0 := w) w.heap.size rfl (.tmp 90) (.tmp 92) 22 28 (.agg #[(.string ⟨#[]⟩), (.bool false)]) 24 rfl Tryd.underlying22 info28 rfl (by decide) (by omega) u179001 x179001_2 (⟨((rd_T28 l0_1 x8_2).f0), false⟩ : S28) [.string ((rd_T28 l0_1 x8_2).f0), .bool false] (fun k_ => k_ ≠ gb180) (fun _ => False) rfl (by first | (go_simp; done) | (go_simp; rfl)) ?aP (fun _ hk => hk.elim) ?aF ?aO ?aB ?aS ?aL ?_; (case aP => exact k28_mkM _ _ _ (⟨((rd_T28 l0_1 x8_2).f0), false⟩ : S28)); (case aB => exact (by repeat (first | (with_reducible first | exact HB.out | apply below_alloc | apply pw_below_drewN | apply below_drew1 | refine below_set ?_ GE175.out | refine below_set ?_ GE178.out | refine below_set ?_ GE180.out) | exact HB.out))); (case aF => exact (fun k_ hk => Kd.freshB (g := gb180) (o := .cells #[.string ((rd_T28 l0_1 x8_2).f0), .bool false] 28 (0, 0)) (by (with_reducible repeat (first | refine blk_drewN ?_ _ | refine blk_drew ?_ | refine blk_alloc ?_ _)); refine blk_put (cs := #[.string ((rd_T28 l0_1 x8_2).f0), .bool ((rd_T28 l0_1 x8_2).f1)]) ?_ 1 _ rfl; (with_reducible repeat (first | refine blk_drewN ?_ _ | refine blk_drew ?_ | refine blk_alloc ?_ _)); exact BK180.out) k_ hk)); (case aO => exact (by (with_reducible repeat (first | apply Kd.R_alloc | apply Kd.R_drewN | apply Kd.R_drew)); exact Kd.R_mono (Kd.R_far (p := ⟨gb180, 1, none⟩) (Kd.R_mono HO_179001.out (fun k_ hk => (⟨hk, hk⟩ : _ ∧ k_ ≠ gb180))) (fun _ hk => hk.2) (.bool false)) (fun _ hk => hk.1))); (case aS => exact (below_size (by repeat (first | (with_reducible first | exact HB.out | apply below_alloc | apply pw_below_drewN | apply below_drew1 | refine below_set ?_ GE175.out | refine below_set ?_ GE178.out | refine below_set ?_ GE180.out) | exact HB.out)))); (case aL => have := LMc54.out; omega); intro v182 w60 ho hb hg hat; rw [← Ny181.out] at ho; have n0_ := Aside0.mk (blk_grown (g := gb175) (o := .cells #[.bool a0_0, .slice (some ad179) l0_1.length c0_1] 24 (0, 0)) (by (with_reducible repeat (first | refine blk_drewN ?_ _ | refine blk_drew ?_ | refine blk_alloc ?_ _)); refine blk_far ?_ NB175_180.out _; (with_reducible repeat (first | refine blk_drewN ?_ _ | refine blk_drew ?_ | refine blk_alloc ?_ _)); exact BK175.out) hg (Kd.R_ne HO_179001.out BK175.out (by decide))); have n1_ := Aside0.mk (blk_grown (g := gb178) (o := .cells #[.bool false, u179001] 24 (0, 0)) (by (with_reducible repeat (first | refine blk_drewN ?_ _ | refine blk_drew ?_ | refine blk_alloc ?_ _)); refine blk_far ?_ NB178_180.out _; (with_reducible repeat (first | refine blk_drewN ?_ _ | refine blk_drew ?_ | refine blk_alloc ?_ _)); exact BK178.out) hg (Kd.R_ne HO_179001.out BK178.out (by decide))); have n2_ := Aside0.mk (blk_grown (g := gb180) (o := .cells #[.string ((rd_T28 l0_1 x8_2).f0), .bool false] 28 (0, 0)) (by (with_reducible repeat (first | refine blk_drewN ?_ _ | refine blk_drew ?_ | refine blk_alloc ?_ _)); refine blk_put (cs := #[.string ((rd_T28 l0_1 x8_2).f0), .bool ((rd_T28 l0_1 x8_2).f1)]) ?_ 1 _ rfl; (with_reducible repeat (first | refine blk_drewN ?_ _ | refine blk_drew ?_ | refine blk_alloc ?_ _)); exact BK180.out) hg (Kd.R_away HO_179001.out (fun _ hk => hk))); have n3_ := Aside0.mk (hb); have n4_ := Aside0.mk (ho); clear BK175; clear BK178; clear BK180; clear HB; clear HO_179001; have BK175 := n0_; have BK178 := n1_; have BK180 := n2_; have HB := n3_; have HO183 := n4_; clear n0_ n1_ n2_ n3_ n4_; clear ho hb hg hat; obtain ⟨Ao61, co61, eo61⟩ := Kd.R_slice HO183.out; subst eo61; have hcz62_0 : w60.cell? ⟨gb178, 0, none⟩ = some (.bool false) := (blk_cell BK178.out 0).trans rfl; have hcz62_1 : w60.cell? ⟨gb178, 1, none⟩ = some (u179001) := (blk_cell BK178.out 1).trans rfl; have hfz62_0 := blk_frozen BK178.out 0; have hfz62_1 := blk_frozen BK178.out 1))
                            go_roundg k3
                            case measure => have := HJ5.out; have := HK2.out; have := HK3.out; omega
                            case rel => exact ⟨(wrap64 (x8_2 + 1)), (y181), (.slice Ao61 y181.length co61), (by first | rfl | (simp; done) | (simp [*]; done)), H', ⟨by have := HJ5.out; have := HK2.out; have := HK3.out; omega⟩, ⟨by (with_reducible repeat (first | apply Kd.R_alloc | apply Kd.R_drewN | apply Kd.R_drew)); exact Kd.R_mono (Kd.R_far (p := ⟨gb178, 1, none⟩) (Kd.R_types HO183.out BK178.out (by decide)) (fun _ hk => hk.2) (.slice Ao61 y181.length co61)) (fun _ hk => trivial)⟩, ⟨by (with_reducible repeat (first | refine blk_drewN ?_ _ | refine blk_drew ?_ | refine blk_alloc ?_ _)); refine blk_far ?_ NB175_178.out _; (with_reducible repeat (first | refine blk_drewN ?_ _ | refine blk_drew ?_ | refine blk_alloc ?_ _)); exact BK175.out⟩, ⟨by (with_reducible repeat (first | refine blk_drewN ?_ _ | refine blk_drew ?_ | refine blk_alloc ?_ _)); refine blk_put (cs := #[.bool false, u179001]) ?_ 1 _ rfl; (with_reducible repeat (first | refine blk_drewN ?_ _ | refine blk_drew ?_ | refine blk_alloc ?_ _)); exact BK178.out⟩, ⟨by repeat (first | (with_reducible first | exact HB.out | apply below_alloc | apply pw_below_drewN | apply below_drew1 | refine below_set ?_ GE175.out | refine below_set ?_ GE178.out | refine below_set ?_ GE180.out) | exact HB.out)⟩⟩
                          · rw [if_neg c54] at H
                            exact absurd H (by simp)
                · rw [if_neg c30] at H
                  exact absurd H (by simp)
              · rw [if_neg c29] at H
                have c29b0 : decide (x8_2 < (l0_1.length : Int)) = false := decide_eq_false c29
                clear c29
                replace H := Option.bind_eq_some_iff.mp H
                obtain ⟨t184, A630, H⟩ := H
                replace H : ((match_Means.f k2 false x179001_2 t184).bind fun t185 => (if t185 = true then ((match_Means.f k2 false x179001_2 a1).bind fun t186 => (eponymlaw18_MatchCloses.j3 k2 a1 a2 (t186 != (a1.toList == t184.toList)) a0_0 l0_1)) else (eponymlaw18_MatchCloses.j3 k2 a1 a2 true a0_0 l0_1))) = some r := H
                have A63 := Aside0.mk A630
                clear A630
                have HC64 := Aside0.mk H
                clear H
                have hnb65 := NB175_178.out
                have hnc65 := NB178_175.out
                have hcz66_0 : wr.cell? ⟨gb175, 0, none⟩ = some (.bool a0_0) := (blk_cell BK175.out 0).trans rfl
                have hcz66_1 : wr.cell? ⟨gb175, 1, none⟩ = some (.slice A0_1 l0_1.length c0_1) := (blk_cell BK175.out 1).trans rfl
                have hfz66_0 := blk_frozen BK175.out 0
                have hfz66_1 := blk_frozen BK175.out 1
                have hcz67_0 : wr.cell? ⟨gb178, 0, none⟩ = some (.bool false) := (blk_cell BK178.out 0).trans rfl
                have hcz67_1 : wr.cell? ⟨gb178, 1, none⟩ = some (u179001) := (blk_cell BK178.out 1).trans rfl
                have hfz67_0 := blk_frozen BK178.out 0
                have hfz67_1 := blk_frozen BK178.out 1
                obtain ⟨Ao68, co68, eo68⟩ := Kd.R_slice HO_179001.out
                subst eo68
                go_upto_region 20 with (first | ((with_reducible refine gate_callee (f := 13) rfl ?_); refine goesL_ (some 96) rfl rfl Tryd.func13 (by kernel_rfl) rfl #[.agg #[.bool false, .slice Ao68 x179001_2.length co68]] rfl (by (try simp only [List.map_toArray, List.map_cons, List.map_nil]); first | done | rfl | (simp only [List.length_drop, List.length_take]; rfl)) ?_; (with_reducible refine (eponymref17_Text.calls k2 false _ _ x179001_2 t184 _ ?side1 ?side2 A63.out).mono ?_); (case side1 => repeat (first | exact (Kd.R_reads' HO_179001.out).2.2 | (with_reducible refine Kd.C_alloc ?_ _) | (with_reducible refine Kd.C_drewN ?_ _) | (with_reducible refine Kd.C_drew ?_))); (case side2 => exact (Kd.R_reads' HO_179001.out).2.1); rintro e w69 ⟨rfl, hb⟩; refine ⟨_, rfl, ?_⟩; have n0_ := Aside0.mk (Kd.R_below (by (with_reducible repeat (first | apply Kd.R_alloc | apply Kd.R_drewN | apply Kd.R_drew)); exact HO_179001.out) hb); have n1_ := Aside0.mk (blk_below (g := gb175) (o := .cells #[.bool a0_0, .slice A0_1 l0_1.length c0_1] 24 (0, 0)) (by (with_reducible repeat (first | refine blk_drewN ?_ _ | refine blk_drew ?_ | refine blk_alloc ?_ _)); exact BK175.out) hb); have n2_ := Aside0.mk (blk_below (g := gb178) (o := .cells #[.bool false, .slice Ao68 x179001_2.length co68] 24 (0, 0)) (by (with_reducible repeat (first | refine blk_drewN ?_ _ | refine blk_drew ?_ | refine blk_alloc ?_ _)); exact BK178.out) hb); have n3_ := Aside0.mk (below_step (by repeat (first | (with_reducible first | exact HB.out | apply below_alloc | apply pw_below_drewN | apply below_drew1 | refine below_set ?_ GE175.out | refine below_set ?_ GE178.out) | exact HB.out)) hb); clear HO_179001; clear BK175; clear BK178; clear HB; have HO_179001 := n0_; have BK175 := n1_; have BK178 := n2_; have HB := n3_; clear n0_ n1_ n2_ n3_; (try clear hb); (try clear hb2); (try clear hk); (try clear hi)))
                (try simp only [Act.put, List.setIfInBounds_toArray, List.set_cons_zero, List.set_cons_succ])
                go_cut [109] (fun v109 wc => ∃ (kq : Nat) (x109_63 : Bool), v109 = .bool x109_63 ∧ Aside0 (eponymlaw18_MatchCloses.j3 kq a1 a2 x109_63 a0_0 l0_1 = some r) ∧ Aside0 (kq ≤ k2) ∧ Aside0 (Kd.R k28 28 wc w.heap.size (fun _ => True) (.slice Ao68 x179001_2.length co68) x179001_2) ∧ Aside0 (wc.heap[gb175]? = some (.cells #[.bool a0_0, (.slice A0_1 l0_1.length c0_1)] 24 (0, 0))) ∧ Aside0 (wc.heap[gb178]? = some (.cells #[.bool false, (.slice Ao68 x179001_2.length co68)] 24 (0, 0))) ∧ Aside0 (Below w.heap.size w wc))
                case first =>
                  have H := HC64.out
                  clear HC64
                  replace H := Option.bind_eq_some_iff.mp H
                  obtain ⟨t185, A700, H⟩ := H
                  replace H : (if t185 = true then ((match_Means.f k2 false x179001_2 a1).bind fun t186 => (eponymlaw18_MatchCloses.j3 k2 a1 a2 (t186 != (a1.toList == t184.toList)) a0_0 l0_1)) else (eponymlaw18_MatchCloses.j3 k2 a1 a2 true a0_0 l0_1)) = some r := H
                  have A70 := Aside0.mk A700
                  clear A700
                  by_cases c71 : t185 = true
                  · subst c71
                    have H1 : ((match_Means.f k2 false x179001_2 a1).bind fun t186 => (eponymlaw18_MatchCloses.j3 k2 a1 a2 (t186 != (a1.toList == t184.toList)) a0_0 l0_1)) = some r := by rw [if_pos rfl] at H; exact H
                    clear H
                    have H := H1
                    clear H1
                    replace H := Option.bind_eq_some_iff.mp H
                    obtain ⟨t186, A720, H⟩ := H
                    replace H : (eponymlaw18_MatchCloses.j3 k2 a1 a2 (t186 != (a1.toList == t184.toList)) a0_0 l0_1) = some r := H
                    have A72 := Aside0.mk A720
                    clear A720
                    have H' := Aside0.mk H
                    clear H
                    have hnb73 := NB178_175.out
                    have hnc73 := NB175_178.out
                    have hcz74_0 : w69.cell? ⟨gb178, 0, none⟩ = some (.bool false) := (blk_cell BK178.out 0).trans rfl
                    have hcz74_1 : w69.cell? ⟨gb178, 1, none⟩ = some (.slice Ao68 x179001_2.length co68) := (blk_cell BK178.out 1).trans rfl
                    have hfz74_0 := blk_frozen BK178.out 0
                    have hfz74_1 := blk_frozen BK178.out 1
                    go_wp2_with (first | ((with_reducible refine gate_callee (f := 9) rfl ?_); refine goesL_ (some 99) rfl rfl Tryd.func9 (by kernel_rfl) rfl #[.agg #[.bool false, .slice Ao68 x179001_2.length co68], .string t184] rfl (by (try simp only [List.map_toArray, List.map_cons, List.map_nil]); first | done | rfl | (simp only [List.length_drop, List.length_take]; rfl)) ?_; (with_reducible refine (match_Means.calls k2 false _ _ x179001_2 t184 true _ ?side3 ?side1 ?side2 A70.out).mono ?_); (case side1 => repeat (first | exact (Kd.R_reads' HO_179001.out).2.2 | (with_reducible refine Kd.C_alloc ?_ _) | (with_reducible refine Kd.C_drewN ?_ _) | (with_reducible refine Kd.C_drew ?_))); (case side2 => exact (Kd.R_reads' HO_179001.out).2.1); (case side3 => first | exact hG | exact GInv.drewN hG _ | exact GInv.below hG (by repeat (first | (with_reducible first | exact HB.out | apply below_alloc | apply pw_below_drewN | apply below_drew1 | refine below_set ?_ GE175.out | refine below_set ?_ GE178.out) | exact HB.out))); rintro e w75 ⟨rfl, hb⟩; refine ⟨_, rfl, ?_⟩; have n0_ := Aside0.mk (Kd.R_below (by (with_reducible repeat (first | apply Kd.R_alloc | apply Kd.R_drewN | apply Kd.R_drew)); exact HO_179001.out) hb); have n1_ := Aside0.mk (blk_below (g := gb175) (o := .cells #[.bool a0_0, .slice A0_1 l0_1.length c0_1] 24 (0, 0)) (by (with_reducible repeat (first | refine blk_drewN ?_ _ | refine blk_drew ?_ | refine blk_alloc ?_ _)); exact BK175.out) hb); have n2_ := Aside0.mk (blk_below (g := gb178) (o := .cells #[.bool false, .slice Ao68 x179001_2.length co68] 24 (0, 0)) (by (with_reducible repeat (first | refine blk_drewN ?_ _ | refine blk_drew ?_ | refine blk_alloc ?_ _)); exact BK178.out) hb); have n3_ := Aside0.mk (below_step (by repeat (first | (with_reducible first | exact HB.out | apply below_alloc | apply pw_below_drewN | apply below_drew1 | refine below_set ?_ GE175.out | refine below_set ?_ GE178.out) | exact HB.out)) hb); clear HO_179001; clear BK175; clear BK178; clear HB; have HO_179001 := n0_; have BK175 := n1_; have BK178 := n2_; have HB := n3_; clear n0_ n1_ n2_ n3_; (try clear hb); (try clear hb2); (try clear hk); (try clear hi); have hcz76_0 : w75.cell? ⟨gb178, 0, none⟩ = some (.bool false) := (blk_cell BK178.out 0).trans rfl; have hcz76_1 : w75.cell? ⟨gb178, 1, none⟩ = some (.slice Ao68 x179001_2.length co68) := (blk_cell BK178.out 1).trans rfl; have hfz76_0 := blk_frozen BK178.out 0; have hfz76_1 := blk_frozen BK178.out 1) | (go_at_call 9; (with_reducible refine (match_Means.calls k2 false _ _ x179001_2 a1 t186 _ ?side3 ?side1 ?side2 A72.out).mono ?_); (case side1 => repeat (first | exact (Kd.R_reads' HO_179001.out).2.2 | (with_reducible refine Kd.C_alloc ?_ _) | (with_reducible refine Kd.C_drewN ?_ _) | (with_reducible refine Kd.C_drew ?_))); (case side2 => exact (Kd.R_reads' HO_179001.out).2.1); (case side3 => first | exact hG | exact GInv.drewN hG _ | exact GInv.below hG (by repeat (first | (with_reducible first | exact HB.out | apply below_alloc | apply pw_below_drewN | apply below_drew1 | refine below_set ?_ GE175.out | refine below_set ?_ GE178.out) | exact HB.out))); rintro e w77 ⟨rfl, hb⟩; have n0_ := Aside0.mk (Kd.R_below (by (with_reducible repeat (first | apply Kd.R_alloc | apply Kd.R_drewN | apply Kd.R_drew)); exact HO_179001.out) hb); have n1_ := Aside0.mk (blk_below (g := gb175) (o := .cells #[.bool a0_0, .slice A0_1 l0_1.length c0_1] 24 (0, 0)) (by (with_reducible repeat (first | refine blk_drewN ?_ _ | refine blk_drew ?_ | refine blk_alloc ?_ _)); exact BK175.out) hb); have n2_ := Aside0.mk (blk_below (g := gb178) (o := .cells #[.bool false, .slice Ao68 x179001_2.length co68] 24 (0, 0)) (by (with_reducible repeat (first | refine blk_drewN ?_ _ | refine blk_drew ?_ | refine blk_alloc ?_ _)); exact BK178.out) hb); have n3_ := Aside0.mk (below_step (by repeat (first | (with_reducible first | exact HB.out | apply below_alloc | apply pw_below_drewN | apply below_drew1 | refine below_set ?_ GE175.out | refine below_set ?_ GE178.out) | exact HB.out)) hb); clear HO_179001; clear BK175; clear BK178; clear HB; have HO_179001 := n0_; have BK175 := n1_; have BK178 := n2_; have HB := n3_; clear n0_ n1_ n2_ n3_; (try clear hb); (try clear hb2); (try clear hk); (try clear hi)))
                    go_meet
                    case rel => exact ⟨_, ((t186 != (a1.toList == t184.toList))), (by first | rfl | (simp; done) | (simp [*]; done)), H', ⟨by have := HJ5.out; have := HK2.out; first | omega | exact Nat.le_refl _⟩, ⟨by (with_reducible repeat (first | apply Kd.R_alloc | apply Kd.R_drewN | apply Kd.R_drew)); exact HO_179001.out⟩, ⟨by (with_reducible repeat (first | refine blk_drewN ?_ _ | refine blk_drew ?_ | refine blk_alloc ?_ _)); exact BK175.out⟩, ⟨by (with_reducible repeat (first | refine blk_drewN ?_ _ | refine blk_drew ?_ | refine blk_alloc ?_ _)); exact BK178.out⟩, ⟨by repeat (first | (with_reducible first | exact HB.out | apply below_alloc | apply pw_below_drewN | apply below_drew1 | refine below_set ?_ GE175.out | refine below_set ?_ GE178.out) | exact HB.out)⟩⟩
                  · replace c71 := Bool.eq_false_iff.mpr c71
                    subst c71
                    have H1 : (eponymlaw18_MatchCloses.j3 k2 a1 a2 true a0_0 l0_1) = some r := by rw [if_neg (show ¬ (false = true) by decide)] at H; exact H
                    clear H
                    have H := H1
                    clear H1
                    have H' := Aside0.mk H
                    clear H
                    have hnb78 := NB178_175.out
                    have hnc78 := NB175_178.out
                    have hcz79_0 : w69.cell? ⟨gb178, 0, none⟩ = some (.bool false) := (blk_cell BK178.out 0).trans rfl
                    have hcz79_1 : w69.cell? ⟨gb178, 1, none⟩ = some (.slice Ao68 x179001_2.length co68) := (blk_cell BK178.out 1).trans rfl
                    have hfz79_0 := blk_frozen BK178.out 0
                    have hfz79_1 := blk_frozen BK178.out 1
                    go_wp2_with (first | ((with_reducible refine gate_callee (f := 9) rfl ?_); refine goesL_ (some 99) rfl rfl Tryd.func9 (by kernel_rfl) rfl #[.agg #[.bool false, .slice Ao68 x179001_2.length co68], .string t184] rfl (by (try simp only [List.map_toArray, List.map_cons, List.map_nil]); first | done | rfl | (simp only [List.length_drop, List.length_take]; rfl)) ?_; (with_reducible refine (match_Means.calls k2 false _ _ x179001_2 t184 false _ ?side3 ?side1 ?side2 A70.out).mono ?_); (case side1 => repeat (first | exact (Kd.R_reads' HO_179001.out).2.2 | (with_reducible refine Kd.C_alloc ?_ _) | (with_reducible refine Kd.C_drewN ?_ _) | (with_reducible refine Kd.C_drew ?_))); (case side2 => exact (Kd.R_reads' HO_179001.out).2.1); (case side3 => first | exact hG | exact GInv.drewN hG _ | exact GInv.below hG (by repeat (first | (with_reducible first | exact HB.out | apply below_alloc | apply pw_below_drewN | apply below_drew1 | refine below_set ?_ GE175.out | refine below_set ?_ GE178.out) | exact HB.out))); rintro e w80 ⟨rfl, hb⟩; refine ⟨_, rfl, ?_⟩; have n0_ := Aside0.mk (Kd.R_below (by (with_reducible repeat (first | apply Kd.R_alloc | apply Kd.R_drewN | apply Kd.R_drew)); exact HO_179001.out) hb); have n1_ := Aside0.mk (blk_below (g := gb175) (o := .cells #[.bool a0_0, .slice A0_1 l0_1.length c0_1] 24 (0, 0)) (by (with_reducible repeat (first | refine blk_drewN ?_ _ | refine blk_drew ?_ | refine blk_alloc ?_ _)); exact BK175.out) hb); have n2_ := Aside0.mk (blk_below (g := gb178) (o := .cells #[.bool false, .slice Ao68 x179001_2.length co68] 24 (0, 0)) (by (with_reducible repeat (first | refine blk_drewN ?_ _ | refine blk_drew ?_ | refine blk_alloc ?_ _)); exact BK178.out) hb); have n3_ := Aside0.mk (below_step (by repeat (first | (with_reducible first | exact HB.out | apply below_alloc | apply pw_below_drewN | apply below_drew1 | refine below_set ?_ GE175.out | refine below_set ?_ GE178.out) | exact HB.out)) hb); clear HO_179001; clear BK175; clear BK178; clear HB; have HO_179001 := n0_; have BK175 := n1_; have BK178 := n2_; have HB := n3_; clear n0_ n1_ n2_ n3_; (try clear hb); (try clear hb2); (try clear hk); (try clear hi)))
                    go_meet
                    case rel => exact ⟨_, (true), (by first | rfl | (simp; done) | (simp [*]; done)), H', ⟨by have := HJ5.out; have := HK2.out; first | omega | exact Nat.le_refl _⟩, ⟨by (with_reducible repeat (first | apply Kd.R_alloc | apply Kd.R_drewN | apply Kd.R_drew)); exact HO_179001.out⟩, ⟨by (with_reducible repeat (first | refine blk_drewN ?_ _ | refine blk_drew ?_ | refine blk_alloc ?_ _)); exact BK175.out⟩, ⟨by (with_reducible repeat (first | refine blk_drewN ?_ _ | refine blk_drew ?_ | refine blk_alloc ?_ _)); exact BK178.out⟩, ⟨by repeat (first | (with_reducible first | exact HB.out | apply below_alloc | apply pw_below_drewN | apply below_drew1 | refine below_set ?_ GE175.out | refine below_set ?_ GE178.out) | exact HB.out)⟩⟩
                case rest =>
                  clear HC64
                  try clear c1
                  try clear p1
                  try clear q1
                  try clear hx1
                  try clear qi1
                  try clear c2
                  try clear p2
                  try clear c3
                  try clear c4
                  try clear p4
                  try clear q4
                  try clear hx4
                  try clear c5
                  try clear c6
                  try clear p6
                  try clear c7
                  try clear c9
                  try clear c9b0
                  try clear c9b1
                  try clear c11
                  try clear c11b0
                  try clear c11b1
                  try clear c13
                  try clear c13b0
                  try clear c13b1
                  try clear c15
                  try clear c15b0
                  try clear c17
                  try clear c17b0
                  try clear p17
                  try clear q17
                  try clear hx17
                  try clear qi17
                  try clear c19
                  try clear c21
                  try clear c21b0
                  try clear c21b1
                  try clear c22
                  try clear c22b0
                  try clear c22b1
                  try clear c25
                  try clear c27
                  try clear c29
                  try clear c29b0
                  try clear c30
                  try clear c30b0
                  try clear c31
                  try clear c31b0
                  try clear c31b1
                  try clear c32
                  try clear c35
                  try clear c36
                  try clear c38
                  try clear c41
                  try clear c42
                  try clear c44
                  try clear c44b0
                  try clear c45
                  try clear c45b0
                  try clear p46
                  try clear q46
                  try clear hx46
                  try clear c47
                  try clear c47b0
                  try clear c47b1
                  try clear c48
                  try clear c49
                  try clear c51
                  try clear c52
                  try clear c54
                  try clear c55
                  try clear c56
                  try clear c58
                  try clear p64
                  try clear c65
                  try clear c71
                  try clear c73
                  try clear c78
                  try clear hcz10_0
                  try clear hcz10_1
                  try clear hcz12_0
                  try clear hcz12_1
                  try clear hcz14_0
                  try clear hcz14_1
                  try clear hcz16_0
                  try clear hcz16_1
                  try clear hcz18_0
                  try clear hcz18_1
                  try clear hcz20_0
                  try clear hcz20_1
                  try clear hcz23_0
                  try clear hcz23_1
                  try clear hcz24_0
                  try clear hcz24_1
                  try clear hcz28_0
                  try clear hcz28_1
                  try clear hcz33_0
                  try clear hcz33_1
                  try clear hcz37_0
                  try clear hcz37_1
                  try clear hcz39_0
                  try clear hcz39_1
                  try clear hcz43_0
                  try clear hcz43_1
                  try clear hcz50_0
                  try clear hcz50_1
                  try clear hcz53_0
                  try clear hcz53_1
                  try clear hcz57_0
                  try clear hcz57_1
                  try clear hcz59_0
                  try clear hcz59_1
                  try clear hcz62_0
                  try clear hcz62_1
                  try clear hcz66_0
                  try clear hcz66_1
                  try clear hcz67_0
                  try clear hcz67_1
                  try clear hcz74_0
                  try clear hcz74_1
                  try clear hcz76_0
                  try clear hcz76_1
                  try clear hcz79_0
                  try clear hcz79_1
                  try clear hfz10_0
                  try clear hfz10_1
                  try clear hfz12_0
                  try clear hfz12_1
                  try clear hfz14_0
                  try clear hfz14_1
                  try clear hfz16_0
                  try clear hfz16_1
                  try clear hfz18_0
                  try clear hfz18_1
                  try clear hfz20_0
                  try clear hfz20_1
                  try clear hfz23_0
                  try clear hfz23_1
                  try clear hfz24_0
                  try clear hfz24_1
                  try clear hfz28_0
                  try clear hfz28_1
                  try clear hfz33_0
                  try clear hfz33_1
                  try clear hfz37_0
                  try clear hfz37_1
                  try clear hfz39_0
                  try clear hfz39_1
                  try clear hfz43_0
                  try clear hfz43_1
                  try clear hfz50_0
                  try clear hfz50_1
                  try clear hfz53_0
                  try clear hfz53_1
                  try clear hfz57_0
                  try clear hfz57_1
                  try clear hfz59_0
                  try clear hfz59_1
                  try clear hfz62_0
                  try clear hfz62_1
                  try clear hfz66_0
                  try clear hfz66_1
                  try clear hfz67_0
                  try clear hfz67_1
                  try clear hfz74_0
                  try clear hfz74_1
                  try clear hfz76_0
                  try clear hfz76_1
                  try clear hfz79_0
                  try clear hfz79_1
                  try clear hx177_0
                  try clear hx177_1
                  try clear hx179_0
                  try clear hx179_1
                  try clear p1
                  try clear p17
                  try clear p177
                  try clear p179
                  try clear p2
                  try clear p46
                  try clear q1
                  try clear q17
                  try clear q177
                  try clear q179
                  try clear q46
                  obtain ⟨kq, x109_63, rfl, HA, HJ63, HO_179001, BK175, BK178, HB⟩ := hcut
                  cases kq with
                  | zero => exact absurd HA.out (by simp [eponymlaw18_MatchCloses.j3])
                  | succ kj63 =>
                    have H := HA.out
                    clear HA
                    simp only [eponymlaw18_MatchCloses.j3] at H
                    by_cases c81 : x109_63 = true
                    · subst c81
                      have H1 : (some false) = some r := by rw [if_pos rfl] at H; exact H
                      clear H
                      have H := H1
                      clear H1
                      obtain rfl := Option.some.inj H
                      go_wp2
                      go_ret
                      exact ⟨by first | rfl | (simp [errW_none, errW_some] <;> rfl) | (simp [*, errW_none, errW_some] <;> rfl), by repeat (first | (with_reducible first | exact HB.out | apply below_alloc | apply pw_below_drewN | apply below_drew1 | refine below_set ?_ GE175.out | refine below_set ?_ GE178.out) | exact HB.out)⟩
                    · replace c81 := Bool.eq_false_iff.mpr c81
                      subst c81
                      have H1 : ((some (([] : List (S28)) : List (S28))).bind fun y187 => (if y187.length + l0_1.length < 5864062014805 then ((some (y187 ++ l0_1 : List (S28))).bind fun y190 => (if 0 ≤ a2 then (if a2 < (y190.length : Int) then ((match_Means.f kj63 a0_0 l0_1 a1).bind fun t195 => (if t195 = true then ((match_Means.f kj63 false (y190.set (a2 : Int).toNat (⟨(rd_T28 y190 a2).f0, true⟩ : S28)) a1).bind fun t196 => (some t196)) else (some true))) else (none)) else (none))) else (none))) = some r := by rw [if_neg (show ¬ (false = true) by decide)] at H; exact H
                      clear H
                      have H := H1
                      clear H1
                      obtain ⟨y187, hy187⟩ : ∃ y_ : List (S28), y_ = (([] : List (S28))) := ⟨_, rfl⟩
                      replace H : (if y187.length + l0_1.length < 5864062014805 then ((some (y187 ++ l0_1 : List (S28))).bind fun y190 => (if 0 ≤ a2 then (if a2 < (y190.length : Int) then ((match_Means.f kj63 a0_0 l0_1 a1).bind fun t195 => (if t195 = true then ((match_Means.f kj63 false (y190.set (a2 : Int).toNat (⟨(rd_T28 y190 a2).f0, true⟩ : S28)) a1).bind fun t196 => (some t196)) else (some true))) else (none)) else (none))) else (none)) = some r := by first | (rw [hy187]; with_reducible exact H) | (have H2_ := (Option.bind_some _ _).symm.trans H; rw [hy187]; with_reducible exact H2_) | (have H2_ := (Option.bind_some _ _).symm.trans H; with_reducible exact H2_) | with_reducible exact H | (rw [hy187]; exact H) | exact H
                      have Ny187 := Aside0.mk hy187
                      clear hy187
                      by_cases c82 : y187.length + l0_1.length < 5864062014805
                      · rw [if_pos c82] at H
                        have LMc82 := Aside0.mk c82
                        clear c82
                        obtain ⟨y190, hy190⟩ : ∃ y_ : List (S28), y_ = (y187 ++ l0_1) := ⟨_, rfl⟩
                        replace H : (if 0 ≤ a2 then (if a2 < (y190.length : Int) then ((match_Means.f kj63 a0_0 l0_1 a1).bind fun t195 => (if t195 = true then ((match_Means.f kj63 false (y190.set (a2 : Int).toNat (⟨(rd_T28 y190 a2).f0, true⟩ : S28)) a1).bind fun t196 => (some t196)) else (some true))) else (none)) else (none)) = some r := by first | (rw [hy190]; with_reducible exact H) | (have H2_ := (Option.bind_some _ _).symm.trans H; rw [hy190]; with_reducible exact H2_) | (have H2_ := (Option.bind_some _ _).symm.trans H; with_reducible exact H2_) | with_reducible exact H | (rw [hy190]; exact H) | exact H
                        have Ny190 := Aside0.mk hy190
                        clear hy190
                        by_cases c83 : 0 ≤ a2
                        · rw [if_pos c83] at H
                          have c83b0 : decide (0 ≤ a2) = true := decide_eq_true c83
                          clear c83
                          by_cases c84 : a2 < (y190.length : Int)
                          · rw [if_pos c84] at H
                            have c84b0 : decide (a2 < (y190.length : Int)) = true := decide_eq_true c84
                            clear c84
                            obtain ⟨y194, hy194⟩ : ∃ y_ : List (S28), y_ = (y190.set (a2 : Int).toNat (⟨(rd_T28 y190 a2).f0, true⟩ : S28)) := ⟨_, rfl⟩
                            replace H : ((match_Means.f kj63 a0_0 l0_1 a1).bind fun t195 => (if t195 = true then ((match_Means.f kj63 false y194 a1).bind fun t196 => (some t196)) else (some true))) = some r := by first | (rw [hy194]; with_reducible exact H) | (have H2_ := (Option.bind_some _ _).symm.trans H; rw [hy194]; with_reducible exact H2_) | (have H2_ := (Option.bind_some _ _).symm.trans H; with_reducible exact H2_) | with_reducible exact H | (rw [hy194]; exact H) | exact H
                            have Ny194 := Aside0.mk hy194
                            clear hy194
                            replace H := Option.bind_eq_some_iff.mp H
                            obtain ⟨t195, A860, H⟩ := H
                            replace H : (if t195 = true then ((match_Means.f kj63 false y194 a1).bind fun t196 => (some t196)) else (some true)) = some r := H
                            have A86 := Aside0.mk A860
                            clear A860
                            by_cases c87 : t195 = true
                            · subst c87
                              have H1 : ((match_Means.f kj63 false y194 a1).bind fun t196 => (some t196)) = some r := by rw [if_pos rfl] at H; exact H
                              clear H
                              have H := H1
                              clear H1
                              replace H := Option.bind_eq_some_iff.mp H
                              obtain ⟨t196, A880, H⟩ := H
                              replace H : (some t196) = some r := H
                              have A88 := Aside0.mk A880
                              clear A880
                              obtain rfl := Option.some.inj H
                              go_wp2_with (first | ((with_reducible refine gate_dst (N := 110) rfl ?_); (try (refine gate_guard (by rfl) ?_; dsimp only)); refine Kd.R_lit k28 _ 28 ?hg (N := 110) ?hd (xs := ([] : List (S28))) (inner := []) (ok := fun _ => True) (okp := fun _ => True) ?hr ?hp (fun _ hk => hk) trivial (Below.refl _ _) (Nat.le_refl _) (by simp) ?_; (case hd => rfl); (case hg => rfl); (case hr => first | (go_simp; done) | (go_simp; rfl)); (case hp => exact (Reps.none _ _)); intro v188 w89 ho90 hb hg_ hnew_; clear hg_ hnew_; (first | rw [← Ny187.out] at ho90 | (simp only [Int.reduceToNat] at ho90; rw [← Ny187.out] at ho90)); have n0_ := Aside0.mk (Kd.R_elder' (by (with_reducible repeat (first | apply Kd.R_alloc | apply Kd.R_drewN | apply Kd.R_drew)); exact HO_179001.out) (Kd.R_base ho90) hb); have n1_ := Aside0.mk (Kd.R_lower (Kd.R_new' ho90 (Kd.R_lt (by (with_reducible repeat (first | apply Kd.R_alloc | apply Kd.R_drewN | apply Kd.R_drew)); exact HO_179001.out))) (below_size (by repeat (first | (with_reducible first | exact HB.out | apply below_alloc | apply pw_below_drewN | apply below_drew1 | refine below_set ?_ GE175.out | refine below_set ?_ GE178.out) | exact HB.out)))); have n2_ := Aside0.mk (blk_below (g := gb175) (o := .cells #[.bool a0_0, .slice A0_1 l0_1.length c0_1] 24 (0, 0)) (by (with_reducible repeat (first | refine blk_drewN ?_ _ | refine blk_drew ?_ | refine blk_alloc ?_ _)); exact BK175.out) hb); have n3_ := Aside0.mk (blk_below (g := gb178) (o := .cells #[.bool false, .slice Ao68 x179001_2.length co68] 24 (0, 0)) (by (with_reducible repeat (first | refine blk_drewN ?_ _ | refine blk_drew ?_ | refine blk_alloc ?_ _)); exact BK178.out) hb); have n4_ := Aside0.mk (below_step (by repeat (first | (with_reducible first | exact HB.out | apply below_alloc | apply pw_below_drewN | apply below_drew1 | refine below_set ?_ GE175.out | refine below_set ?_ GE178.out) | exact HB.out)) hb); clear HO_179001; clear BK175; clear BK178; clear HB; have HO_179001 := n0_; have HO189 := n1_; have BK175 := n2_; have BK178 := n3_; have HB := n4_; clear n0_ n1_ n2_ n3_ n4_; clear hb ho90; have hnb91 := NB175_178.out; have hnc91 := NB178_175.out; have hcz92_0 : w89.cell? ⟨gb175, 0, none⟩ = some (.bool a0_0) := (blk_cell BK175.out 0).trans rfl; have hcz92_1 : w89.cell? ⟨gb175, 1, none⟩ = some (.slice A0_1 l0_1.length c0_1) := (blk_cell BK175.out 1).trans rfl; have hfz92_0 := blk_frozen BK175.out 0; have hfz92_1 := blk_frozen BK175.out 1) | ((with_reducible refine gate_builtin (b := .append) (xs := #[.tmp 110, .tmp 112]) rfl ?_); (try (refine gate_guard (by rfl) ?_; dsimp only)); at_builtin; refine Kd.R_append_rows k28 (w0 := w) w.heap.size rfl (.tmp 110) (.tmp 112) 22 28 (.agg #[(.string ⟨#[]⟩), (.bool false)]) 24 rfl Tryd.underlying22 info28 rfl (by decide) (by omega) v188 y187 l0_1 _ _ _ (fun k_ => some k_ ≠ (.slice Ao68 x179001_2.length co68 : Value).ownBlock) (fun _ => False) rfl rfl ?aO ?aR (fun _ _ h => h) (fun _ h => h.elim) ?aF ?aB ?aS ?aL ?_; (case aR => repeat (first | exact (Kd.C_below HR0_1.out HB.out) | (with_reducible refine Kd.C_alloc ?_ _) | (with_reducible refine Kd.C_drewN ?_ _) | (with_reducible refine Kd.C_drew ?_))); (case aB => exact (by repeat (first | (with_reducible first | exact HB.out | apply below_alloc | apply pw_below_drewN | apply below_drew1 | refine below_set ?_ GE175.out | refine below_set ?_ GE178.out) | exact HB.out))); (case aF => exact (fun k_ hk => Kd.fresh' (Kd.R_lt (by (with_reducible repeat (first | apply Kd.R_alloc | apply Kd.R_drewN | apply Kd.R_drew)); exact HO_179001.out)) k_ hk)); (case aO => exact (by (with_reducible repeat (first | apply Kd.R_alloc | apply Kd.R_drewN | apply Kd.R_drew)); exact Kd.R_mono HO189.out (fun _ hk => hk.2))); (case aS => exact (below_size (by repeat (first | (with_reducible first | exact HB.out | apply below_alloc | apply pw_below_drewN | apply below_drew1 | refine below_set ?_ GE175.out | refine below_set ?_ GE178.out) | exact HB.out)))); (case aL => have := LMc82.out; omega); intro v191 w93 ho hb hg hat; rw [← Ny190.out] at ho; have n0_ := Aside0.mk (Kd.R_after (ok := (fun _ => True)) (by (with_reducible repeat (first | apply Kd.R_alloc | apply Kd.R_drewN | apply Kd.R_drew)); exact HO_179001.out) hg hat); have n1_ := Aside0.mk (blk_grown (g := gb175) (o := .cells #[.bool a0_0, .slice A0_1 l0_1.length c0_1] 24 (0, 0)) (by (with_reducible repeat (first | refine blk_drewN ?_ _ | refine blk_drew ?_ | refine blk_alloc ?_ _)); exact BK175.out) hg (Kd.R_ne HO189.out BK175.out (by decide))); have n2_ := Aside0.mk (blk_grown (g := gb178) (o := .cells #[.bool false, .slice Ao68 x179001_2.length co68] 24 (0, 0)) (by (with_reducible repeat (first | refine blk_drewN ?_ _ | refine blk_drew ?_ | refine blk_alloc ?_ _)); exact BK178.out) hg (Kd.R_ne HO189.out BK178.out (by decide))); have n3_ := Aside0.mk (hb); have n4_ := Aside0.mk (ho); clear HO_179001; clear BK175; clear BK178; clear HB; clear HO189; have HO_179001 := n0_; have BK175 := n1_; have BK178 := n2_; have HB := n3_; have HO192 := n4_; clear n0_ n1_ n2_ n3_ n4_; clear ho hb hg hat; obtain ⟨Ao94, co94, eo94⟩ := Kd.R_slice HO192.out; subst eo94) | ((with_reducible refine gate_dst (N := 12) rfl ?_); (try (refine gate_guard (by rfl) ?_; dsimp only)); refine box_event ?hg (N := 12) ?hd (cs := #[.bool false, .slice none 0 0]) (t := 24) ?hr ?_; (case hd => rfl); (case hg => rfl); (case hr => first | (go_simp; done) | (go_simp; rfl)); intro gb193 hg w95 hbox hb; have n0_ := Aside0.mk (Kd.R_below (by (with_reducible repeat (first | apply Kd.R_alloc | apply Kd.R_drewN | apply Kd.R_drew)); exact HO_179001.out) hb); have n1_ := Aside0.mk (Kd.R_below (by (with_reducible repeat (first | apply Kd.R_alloc | apply Kd.R_drewN | apply Kd.R_drew)); exact HO192.out) hb); have n2_ := Aside0.mk (blk_below (g := gb175) (o := .cells #[.bool a0_0, .slice A0_1 l0_1.length c0_1] 24 (0, 0)) (by (with_reducible repeat (first | refine blk_drewN ?_ _ | refine blk_drew ?_ | refine blk_alloc ?_ _)); exact BK175.out) hb); have n3_ := Aside0.mk (blk_below (g := gb178) (o := .cells #[.bool false, .slice Ao68 x179001_2.length co68] 24 (0, 0)) (by (with_reducible repeat (first | refine blk_drewN ?_ _ | refine blk_drew ?_ | refine blk_alloc ?_ _)); exact BK178.out) hb); have n4_ := Aside0.mk (below_step (by repeat (first | (with_reducible first | exact HB.out | apply below_alloc | apply pw_below_drewN | apply below_drew1 | refine below_set ?_ GE175.out | refine below_set ?_ GE178.out) | exact HB.out)) hb); have n5_ := Aside0.mk (hbox); have n6_ := Aside0.mk ((by rw [hg]; exact (below_size (by repeat (first | (with_reducible first | exact HB.out | apply below_alloc | apply pw_below_drewN | apply below_drew1 | refine below_set ?_ GE175.out | refine below_set ?_ GE178.out) | exact HB.out))) : w.heap.size ≤ gb193)); have n7_ := Aside0.mk ((by rw [hg]; exact (below_size (by repeat (first | (with_reducible first | exact HB.out | apply below_alloc | apply pw_below_drewN | apply below_drew1 | refine below_set ?_ GE175.out | refine below_set ?_ GE178.out) | exact HB.out))) : w.heap.size ≤ gb193)); have n8_ := Aside0.mk ((by rw [hg]; exact Nat.ne_of_lt (blk_lt (g := gb175) (o := .cells #[.bool a0_0, .slice A0_1 l0_1.length c0_1] 24 (0, 0)) (by (with_reducible repeat (first | refine blk_drewN ?_ _ | refine blk_drew ?_ | refine blk_alloc ?_ _)); exact BK175.out)) : gb175 ≠ gb193)); have n9_ := Aside0.mk ((by rw [hg]; exact Nat.ne_of_gt (blk_lt (g := gb175) (o := .cells #[.bool a0_0, .slice A0_1 l0_1.length c0_1] 24 (0, 0)) (by (with_reducible repeat (first | refine blk_drewN ?_ _ | refine blk_drew ?_ | refine blk_alloc ?_ _)); exact BK175.out)) : gb193 ≠ gb175)); have n10_ := Aside0.mk ((by rw [hg]; exact Nat.ne_of_lt (blk_lt (g := gb178) (o := .cells #[.bool false, .slice Ao68 x179001_2.length co68] 24 (0, 0)) (by (with_reducible repeat (first | refine blk_drewN ?_ _ | refine blk_drew ?_ | refine blk_alloc ?_ _)); exact BK178.out)) : gb178 ≠ gb193)); have n11_ := Aside0.mk ((by rw [hg]; exact Nat.ne_of_gt (blk_lt (g := gb178) (o := .cells #[.bool false, .slice Ao68 x179001_2.length co68] 24 (0, 0)) (by (with_reducible repeat (first | refine blk_drewN ?_ _ | refine blk_drew ?_ | refine blk_alloc ?_ _)); exact BK178.out)) : gb193 ≠ gb178)); clear HO_179001; clear HO192; clear BK175; clear BK178; clear HB; have HO_179001 := n0_; have HO192 := n1_; have BK175 := n2_; have BK178 := n3_; have HB := n4_; have BK193 := n5_; have GW193 := n6_; have GE193 := n7_; have NB175_193 := n8_; have NB193_175 := n9_; have NB178_193 := n10_; have NB193_178 := n11_; clear n0_ n1_ n2_ n3_ n4_ n5_ n6_ n7_ n8_ n9_ n10_ n11_; clear hb hbox hg; have hnb96 := NB193_175.out; have hnc96 := NB175_193.out; have hnb97 := NB193_178.out; have hnc97 := NB178_193.out; have hcz98_0 : w95.cell? ⟨gb193, 0, none⟩ = some (.bool false) := (blk_cell BK193.out 0).trans rfl; have hcz98_1 : w95.cell? ⟨gb193, 1, none⟩ = some (.slice none 0 0) := (blk_cell BK193.out 1).trans rfl; have hfz98_0 := blk_frozen BK193.out 0; have hfz98_1 := blk_frozen BK193.out 1) | ((with_reducible refine gate_store (t := 24) (p := 12) rfl ?_); refine store_event (t := 24) (p := 12) (v := ?vo_w99) (w1 := ((w95.setCell ⟨gb193, 0, none⟩ (.bool false)).setCell ⟨gb193, 1, none⟩ (.slice Ao94 y190.length co94))) ?hg ?ho ?hn ?hr ?_; (case ho => rfl); (case hg => rfl); (case hn => rfl); (case hr => first | (go_simp; done) | (go_simp; rfl)); intro w99 hw; have n0_ : Aside0 (Kd.R k28 28 w99 w.heap.size (fun k_ => some k_ ≠ (.slice Ao94 y190.length co94 : Value).ownBlock) (.slice Ao68 x179001_2.length co68) x179001_2) := ⟨(by rw [hw]; exact (by (with_reducible repeat (first | apply Kd.R_alloc | apply Kd.R_drewN | apply Kd.R_drew)); exact Kd.R_mono (Kd.R_far (p := ⟨gb193, 1, none⟩) (Kd.R_far (p := ⟨gb193, 0, none⟩) (Kd.R_types HO_179001.out BK193.out (by decide)) (fun _ hk => hk.2) (.bool false)) (fun _ hk => hk.2) (.slice Ao94 y190.length co94)) (fun _ hk => hk.1.2)))⟩; have n1_ : Aside0 (Kd.R k28 28 w99 w.heap.size (fun k_ => some k_ ≠ (.slice Ao68 x179001_2.length co68 : Value).ownBlock) (.slice Ao94 y190.length co94) y190) := ⟨(by rw [hw]; exact (by (with_reducible repeat (first | apply Kd.R_alloc | apply Kd.R_drewN | apply Kd.R_drew)); exact Kd.R_mono (Kd.R_far (p := ⟨gb193, 1, none⟩) (Kd.R_far (p := ⟨gb193, 0, none⟩) (Kd.R_types HO192.out BK193.out (by decide)) (fun _ hk => hk.2) (.bool false)) (fun _ hk => hk.2) (.slice Ao94 y190.length co94)) (fun _ hk => hk.1)))⟩; have n2_ : Aside0 (w99.heap[gb175]? = some (.cells #[.bool a0_0, .slice A0_1 l0_1.length c0_1] 24 (0, 0))) := ⟨(by rw [hw]; exact (by (with_reducible repeat (first | refine blk_drewN ?_ _ | refine blk_drew ?_ | refine blk_alloc ?_ _)); refine blk_far ?_ NB175_193.out _; (with_reducible repeat (first | refine blk_drewN ?_ _ | refine blk_drew ?_ | refine blk_alloc ?_ _)); refine blk_far ?_ NB175_193.out _; (with_reducible repeat (first | refine blk_drewN ?_ _ | refine blk_drew ?_ | refine blk_alloc ?_ _)); exact BK175.out))⟩; have n3_ : Aside0 (w99.heap[gb178]? = some (.cells #[.bool false, .slice Ao68 x179001_2.length co68] 24 (0, 0))) := ⟨(by rw [hw]; exact (by (with_reducible repeat (first | refine blk_drewN ?_ _ | refine blk_drew ?_ | refine blk_alloc ?_ _)); refine blk_far ?_ NB178_193.out _; (with_reducible repeat (first | refine blk_drewN ?_ _ | refine blk_drew ?_ | refine blk_alloc ?_ _)); refine blk_far ?_ NB178_193.out _; (with_reducible repeat (first | refine blk_drewN ?_ _ | refine blk_drew ?_ | refine blk_alloc ?_ _)); exact BK178.out))⟩; have n4_ : Aside0 (w99.heap[gb193]? = some (.cells #[.bool false, .slice Ao94 y190.length co94] 24 (0, 0))) := ⟨(by rw [hw]; exact (by (with_reducible repeat (first | refine blk_drewN ?_ _ | refine blk_drew ?_ | refine blk_alloc ?_ _)); refine blk_put (cs := #[.bool false, .slice none 0 0]) ?_ 1 _ rfl; (with_reducible repeat (first | refine blk_drewN ?_ _ | refine blk_drew ?_ | refine blk_alloc ?_ _)); refine blk_put (cs := #[.bool false, .slice none 0 0]) ?_ 0 _ rfl; (with_reducible repeat (first | refine blk_drewN ?_ _ | refine blk_drew ?_ | refine blk_alloc ?_ _)); exact BK193.out))⟩; have n5_ : Aside0 (Below w.heap.size w w99) := ⟨(by rw [hw]; exact (by repeat (first | (with_reducible first | exact HB.out | apply below_alloc | apply pw_below_drewN | apply below_drew1 | refine below_set ?_ GE175.out | refine below_set ?_ GE178.out | refine below_set ?_ GE193.out) | exact HB.out)))⟩; clear hw; clear HO_179001; clear HO192; clear BK175; clear BK178; clear BK193; clear HB; have HO_179001 := n0_; have HO192 := n1_; have BK175 := n2_; have BK178 := n3_; have BK193 := n4_; have HB := n5_; clear n0_ n1_ n2_ n3_ n4_ n5_; have hcz100_0 : w99.cell? ⟨gb193, 0, none⟩ = some (.bool false) := (blk_cell BK193.out 0).trans rfl; have hcz100_1 : w99.cell? ⟨gb193, 1, none⟩ = some (.slice Ao94 y190.length co94) := (blk_cell BK193.out 1).trans rfl; have hfz100_0 := blk_frozen BK193.out 0; have hfz100_1 := blk_frozen BK193.out 1; have p85 : 0 ≤ (a2 : Int) := of_decide_eq_true (by first | (with_reducible assumption) | assumption); have q85 : (a2 : Int) < ((y190.length : Int) : Int) := of_decide_eq_true (by first | (with_reducible assumption) | assumption); obtain ⟨go85, co85, eo85, gb85, gl85, cl85, HG85⟩ := Kd.R_form HO192.out (by omega); (first | cases eo85 | (injection eo85 with ea_ en_ ec_; (first | subst ea_ | (injection ea_ with ea_; subst ea_)); subst ec_; clear en_)); have GB85 := Aside0.mk gb85; have GG85 := Aside0.mk HG85; clear gb85 gl85 HG85; obtain ⟨ce85, hcl85, hM85, hcc85, hfr85⟩ := Kd.R_elem HO192.out z28 (a2 : Int) p85 q85; obtain rfl := k28_openM hM85; have hx85_0 : w99.cell? ⟨go85, (a2 : Int).toNat * 2, none⟩ = some (.string ((rd_T28 y190 a2).f0)) := hcc85 0 _ rfl; have hx85_1 : w99.cell? ⟨go85, (a2 : Int).toNat * 2 + 1, none⟩ = some (.bool ((rd_T28 y190 a2).f1)) := hcc85 1 _ rfl; have hf85_0 : w99.frozen? ⟨go85, (a2 : Int).toNat * 2, none⟩ = false := hfr85 0; have hf85_1 : w99.frozen? ⟨go85, (a2 : Int).toNat * 2 + 1, none⟩ = false := hfr85 1; clear hcl85 hcc85 hfr85 hM85; replace p85 := eq_true p85; replace q85 := eq_true q85; have HX101 := Aside0.mk (show Kd.R k28 28 w99 w.heap.size (fun k_ => some k_ ≠ (.slice Ao68 x179001_2.length co68 : Value).ownBlock) (.slice (some ⟨go85, 0, none⟩) y190.length co94) y190 from (by (with_reducible repeat (first | apply Kd.R_alloc | apply Kd.R_drewN | apply Kd.R_drew)); exact HO192.out)); obtain ⟨ce101, hcl101, hM101, hcc101, hfr101⟩ := Kd.R_elem HX101.out z28 (a2 : Int) (of_decide_eq_true (by first | (with_reducible assumption) | assumption)) (by have h_ : (a2 : Int) < ((y190.length : Int) : Int) := of_decide_eq_true (by first | (with_reducible assumption) | assumption); first | exact h_ | (have e_ := (Kd.R_reads' HO192.out).1; omega) | simpa using h_); obtain rfl := k28_openM hM101; have HP101 := Kd.R_seg HX101.out (a2 : Int) (of_decide_eq_true (by first | (with_reducible assumption) | assumption)) (by have h_ : (a2 : Int) < ((y190.length : Int) : Int) := of_decide_eq_true (by first | (with_reducible assumption) | assumption); first | exact h_ | (have e_ := (Kd.R_reads' HO192.out).1; omega) | simpa using h_) (seg := [.bool true]) (j := 1) hcl101 hcc101 (show 2 ≤ 2 from by decide) (x' := (⟨(rd_T28 y190 a2).f0, true⟩ : S28)) (k28_mkM _ _ _ (⟨(rd_T28 y190 a2).f0, true⟩ : S28) ) (fun _ hk => hk); have hx101_1 := hcc101 1 _ rfl; (try simp only [show (k28).sz = 2 from rfl, Nat.mul_one, Nat.add_zero] at hx101_1); have hf101_1 := hfr101 1; (try simp only [show (k28).sz = 2 from rfl, Nat.mul_one, Nat.add_zero] at hf101_1); clear hcl101 hcc101 hfr101 hM101) | ((with_reducible refine gate_store (t := 4) (p := 119) rfl ?_); refine store_event (t := 4) (p := 119) (v := ?vo_w102) (w1 := (w99.setCell ⟨go85, (a2 : Int).toNat * 2 + 1, none⟩ (.bool true))) ?hg ?ho ?hn ?hr ?_; (case ho => rfl); (case hg => rfl); (case hn => rfl); (case hr => first | (go_simp; done) | (go_simp; rfl)); intro w102 hw; have hg : w99.grownBy w102 (some go85) := (by rw [hw]; exact HP101.2); have hp_ : Kd.R k28 28 w102 w.heap.size (fun k_ => some k_ ≠ (.slice Ao68 x179001_2.length co68 : Value).ownBlock) (.slice (some ⟨go85, 0, none⟩) y190.length co94) y194 := (by rw [hw, Ny194.out]; exact HP101.1); clear HP101; have n0_ := Aside0.mk (Kd.R_after (v := (.slice (some ⟨go85, 0, none⟩) y190.length co94)) (v1 := (.slice (some ⟨go85, 0, none⟩) y190.length co94)) (ok := (fun _ => True)) (by (with_reducible repeat (first | apply Kd.R_alloc | apply Kd.R_drewN | apply Kd.R_drew)); exact Kd.R_mono HO_179001.out (fun _ hk => ⟨trivial, hk⟩)) hg (.inl rfl)); have n1_ := Aside0.mk (blk_grown (g := gb175) (o := .cells #[.bool a0_0, .slice A0_1 l0_1.length c0_1] 24 (0, 0)) (by (with_reducible repeat (first | refine blk_drewN ?_ _ | refine blk_drew ?_ | refine blk_alloc ?_ _)); exact BK175.out) hg (Kd.R_ne HO192.out BK175.out (by decide))); have n2_ := Aside0.mk (blk_grown (g := gb178) (o := .cells #[.bool false, .slice Ao68 x179001_2.length co68] 24 (0, 0)) (by (with_reducible repeat (first | refine blk_drewN ?_ _ | refine blk_drew ?_ | refine blk_alloc ?_ _)); exact BK178.out) hg (Kd.R_ne HO192.out BK178.out (by decide))); have n3_ := Aside0.mk (hp_); have n4_ := Aside0.mk (blk_grown (g := gb193) (o := .cells #[.bool false, .slice (some ⟨go85, 0, none⟩) y190.length co94] 24 (0, 0)) (by (with_reducible repeat (first | refine blk_drewN ?_ _ | refine blk_drew ?_ | refine blk_alloc ?_ _)); exact BK193.out) hg (Kd.R_ne HO192.out BK193.out (by decide))); have n5_ := Aside0.mk ((by rw [hw]; exact below_set (HB.out) GB85.out : Below w.heap.size w w102)); clear HO_179001; clear BK175; clear BK178; clear HO192; clear BK193; clear HB; have HO_179001 := n0_; have BK175 := n1_; have BK178 := n2_; have HO192 := n3_; have BK193 := n4_; have HB := n5_; clear n0_ n1_ n2_ n3_ n4_ n5_; clear hg hw hp_; have hcz103_0 : w102.cell? ⟨gb175, 0, none⟩ = some (.bool a0_0) := (blk_cell BK175.out 0).trans rfl; have hcz103_1 : w102.cell? ⟨gb175, 1, none⟩ = some (.slice A0_1 l0_1.length c0_1) := (blk_cell BK175.out 1).trans rfl; have hfz103_0 := blk_frozen BK175.out 0; have hfz103_1 := blk_frozen BK175.out 1) | ((with_reducible refine gate_callee (f := 9) rfl ?_); refine goesL_ (some 122) rfl rfl Tryd.func9 (by kernel_rfl) rfl #[.agg #[.bool a0_0, .slice A0_1 l0_1.length c0_1], .string a1] rfl (by (try simp only [List.map_toArray, List.map_cons, List.map_nil]); first | done | rfl | (simp only [List.length_drop, List.length_take]; rfl)) ?_; (with_reducible refine (match_Means.calls kj63 a0_0 _ _ l0_1 a1 true _ ?side3 ?side1 ?side2 A86.out).mono ?_); (case side1 => repeat (first | exact (Kd.C_below HR0_1.out HB.out) | (with_reducible refine Kd.C_alloc ?_ _) | (with_reducible refine Kd.C_drewN ?_ _) | (with_reducible refine Kd.C_drew ?_))); (case side2 => exact HC0_1.out); (case side3 => first | exact hG | exact GInv.drewN hG _ | exact GInv.below hG (by repeat (first | (with_reducible first | exact HB.out | apply below_alloc | apply pw_below_drewN | apply below_drew1 | refine below_set ?_ GE175.out | refine below_set ?_ GE178.out | refine below_set ?_ GE193.out) | exact HB.out))); rintro e w104 ⟨rfl, hb⟩; refine ⟨_, rfl, ?_⟩; have n0_ := Aside0.mk (Kd.R_below (by (with_reducible repeat (first | apply Kd.R_alloc | apply Kd.R_drewN | apply Kd.R_drew)); exact HO_179001.out) hb); have n1_ := Aside0.mk (Kd.R_below (by (with_reducible repeat (first | apply Kd.R_alloc | apply Kd.R_drewN | apply Kd.R_drew)); exact HO192.out) hb); have n2_ := Aside0.mk (blk_below (g := gb175) (o := .cells #[.bool a0_0, .slice A0_1 l0_1.length c0_1] 24 (0, 0)) (by (with_reducible repeat (first | refine blk_drewN ?_ _ | refine blk_drew ?_ | refine blk_alloc ?_ _)); exact BK175.out) hb); have n3_ := Aside0.mk (blk_below (g := gb178) (o := .cells #[.bool false, .slice Ao68 x179001_2.length co68] 24 (0, 0)) (by (with_reducible repeat (first | refine blk_drewN ?_ _ | refine blk_drew ?_ | refine blk_alloc ?_ _)); exact BK178.out) hb); have n4_ := Aside0.mk (blk_below (g := gb193) (o := .cells #[.bool false, .slice (some ⟨go85, 0, none⟩) y190.length co94] 24 (0, 0)) (by (with_reducible repeat (first | refine blk_drewN ?_ _ | refine blk_drew ?_ | refine blk_alloc ?_ _)); exact BK193.out) hb); have n5_ := Aside0.mk (below_step (by repeat (first | (with_reducible first | exact HB.out | apply below_alloc | apply pw_below_drewN | apply below_drew1 | refine below_set ?_ GE175.out | refine below_set ?_ GE178.out | refine below_set ?_ GE193.out) | exact HB.out)) hb); clear HO_179001; clear HO192; clear BK175; clear BK178; clear BK193; clear HB; have HO_179001 := n0_; have HO192 := n1_; have BK175 := n2_; have BK178 := n3_; have BK193 := n4_; have HB := n5_; clear n0_ n1_ n2_ n3_ n4_ n5_; (try clear hb); (try clear hb2); (try clear hk); (try clear hi); have hcz105_0 : w104.cell? ⟨gb193, 0, none⟩ = some (.bool false) := (blk_cell BK193.out 0).trans rfl; have hcz105_1 : w104.cell? ⟨gb193, 1, none⟩ = some (.slice (some ⟨go85, 0, none⟩) y190.length co94) := (blk_cell BK193.out 1).trans rfl; have hfz105_0 := blk_frozen BK193.out 0; have hfz105_1 := blk_frozen BK193.out 1) | (go_at_call 9; refine calls_of_args (args' := #[.agg #[.bool false, .slice (some ⟨go85, 0, none⟩) y194.length co94], .string a1]) (by first | (rw [show y194.length = y190.length from (Kd.R_reads' HO192.out).1.symm] <;> rfl) | rfl) ?_; (with_reducible refine (match_Means.calls kj63 false _ _ y194 a1 t196 _ ?side3 ?side1 ?side2 A88.out).mono ?_); (case side1 => repeat (first | exact (Kd.R_reads' HO192.out).2.2 | (with_reducible refine Kd.C_alloc ?_ _) | (with_reducible refine Kd.C_drewN ?_ _) | (with_reducible refine Kd.C_drew ?_))); (case side2 => rw [show y194.length = y190.length from (Kd.R_reads' HO192.out).1.symm]; exact (Kd.R_reads' HO192.out).2.1); (case side3 => first | exact hG | exact GInv.drewN hG _ | exact GInv.below hG (by repeat (first | (with_reducible first | exact HB.out | apply below_alloc | apply pw_below_drewN | apply below_drew1 | refine below_set ?_ GE175.out | refine below_set ?_ GE178.out | refine below_set ?_ GE193.out) | exact HB.out))); rintro e w106 ⟨rfl, hb⟩; have n0_ := Aside0.mk (Kd.R_below (by (with_reducible repeat (first | apply Kd.R_alloc | apply Kd.R_drewN | apply Kd.R_drew)); exact HO_179001.out) hb); have n1_ := Aside0.mk (Kd.R_below (by (with_reducible repeat (first | apply Kd.R_alloc | apply Kd.R_drewN | apply Kd.R_drew)); exact HO192.out) hb); have n2_ := Aside0.mk (blk_below (g := gb175) (o := .cells #[.bool a0_0, .slice A0_1 l0_1.length c0_1] 24 (0, 0)) (by (with_reducible repeat (first | refine blk_drewN ?_ _ | refine blk_drew ?_ | refine blk_alloc ?_ _)); exact BK175.out) hb); have n3_ := Aside0.mk (blk_below (g := gb178) (o := .cells #[.bool false, .slice Ao68 x179001_2.length co68] 24 (0, 0)) (by (with_reducible repeat (first | refine blk_drewN ?_ _ | refine blk_drew ?_ | refine blk_alloc ?_ _)); exact BK178.out) hb); have n4_ := Aside0.mk (blk_below (g := gb193) (o := .cells #[.bool false, .slice (some ⟨go85, 0, none⟩) y190.length co94] 24 (0, 0)) (by (with_reducible repeat (first | refine blk_drewN ?_ _ | refine blk_drew ?_ | refine blk_alloc ?_ _)); exact BK193.out) hb); have n5_ := Aside0.mk (below_step (by repeat (first | (with_reducible first | exact HB.out | apply below_alloc | apply pw_below_drewN | apply below_drew1 | refine below_set ?_ GE175.out | refine below_set ?_ GE178.out | refine below_set ?_ GE193.out) | exact HB.out)) hb); clear HO_179001; clear HO192; clear BK175; clear BK178; clear BK193; clear HB; have HO_179001 := n0_; have HO192 := n1_; have BK175 := n2_; have BK178 := n3_; have BK193 := n4_; have HB := n5_; clear n0_ n1_ n2_ n3_ n4_ n5_; (try clear hb); (try clear hb2); (try clear hk); (try clear hi)))
                              go_ret
                              exact ⟨by first | rfl | (simp [errW_none, errW_some] <;> rfl) | (simp [*, errW_none, errW_some] <;> rfl), by repeat (first | (with_reducible first | exact HB.out | apply below_alloc | apply pw_below_drewN | apply below_drew1 | refine below_set ?_ GE175.out | refine below_set ?_ GE178.out | refine below_set ?_ GE193.out) | exact HB.out)⟩
                            · replace c87 := Bool.eq_false_iff.mpr c87
                              subst c87
                              have H1 : (some true) = some r := by rw [if_neg (show ¬ (false = true) by decide)] at H; exact H
                              clear H
                              have H := H1
                              clear H1
                              obtain rfl := Option.some.inj H
                              go_wp2_with (first | ((with_reducible refine gate_dst (N := 110) rfl ?_); (try (refine gate_guard (by rfl) ?_; dsimp only)); refine Kd.R_lit k28 _ 28 ?hg (N := 110) ?hd (xs := ([] : List (S28))) (inner := []) (ok := fun _ => True) (okp := fun _ => True) ?hr ?hp (fun _ hk => hk) trivial (Below.refl _ _) (Nat.le_refl _) (by simp) ?_; (case hd => rfl); (case hg => rfl); (case hr => first | (go_simp; done) | (go_simp; rfl)); (case hp => exact (Reps.none _ _)); intro v188 w107 ho108 hb hg_ hnew_; clear hg_ hnew_; (first | rw [← Ny187.out] at ho108 | (simp only [Int.reduceToNat] at ho108; rw [← Ny187.out] at ho108)); have n0_ := Aside0.mk (Kd.R_elder' (by (with_reducible repeat (first | apply Kd.R_alloc | apply Kd.R_drewN | apply Kd.R_drew)); exact HO_179001.out) (Kd.R_base ho108) hb); have n1_ := Aside0.mk (Kd.R_lower (Kd.R_new' ho108 (Kd.R_lt (by (with_reducible repeat (first | apply Kd.R_alloc | apply Kd.R_drewN | apply Kd.R_drew)); exact HO_179001.out))) (below_size (by repeat (first | (with_reducible first | exact HB.out | apply below_alloc | apply pw_below_drewN | apply below_drew1 | refine below_set ?_ GE175.out | refine below_set ?_ GE178.out) | exact HB.out)))); have n2_ := Aside0.mk (blk_below (g := gb175) (o := .cells #[.bool a0_0, .slice A0_1 l0_1.length c0_1] 24 (0, 0)) (by (with_reducible repeat (first | refine blk_drewN ?_ _ | refine blk_drew ?_ | refine blk_alloc ?_ _)); exact BK175.out) hb); have n3_ := Aside0.mk (blk_below (g := gb178) (o := .cells #[.bool false, .slice Ao68 x179001_2.length co68] 24 (0, 0)) (by (with_reducible repeat (first | refine blk_drewN ?_ _ | refine blk_drew ?_ | refine blk_alloc ?_ _)); exact BK178.out) hb); have n4_ := Aside0.mk (below_step (by repeat (first | (with_reducible first | exact HB.out | apply below_alloc | apply pw_below_drewN | apply below_drew1 | refine below_set ?_ GE175.out | refine below_set ?_ GE178.out) | exact HB.out)) hb); clear HO_179001; clear BK175; clear BK178; clear HB; have HO_179001 := n0_; have HO189 := n1_; have BK175 := n2_; have BK178 := n3_; have HB := n4_; clear n0_ n1_ n2_ n3_ n4_; clear hb ho108; have hnb109 := NB175_178.out; have hnc109 := NB178_175.out; have hcz110_0 : w107.cell? ⟨gb175, 0, none⟩ = some (.bool a0_0) := (blk_cell BK175.out 0).trans rfl; have hcz110_1 : w107.cell? ⟨gb175, 1, none⟩ = some (.slice A0_1 l0_1.length c0_1) := (blk_cell BK175.out 1).trans rfl; have hfz110_0 := blk_frozen BK175.out 0; have hfz110_1 := blk_frozen BK175.out 1) | ((with_reducible refine gate_builtin (b := .append) (xs := #[.tmp 110, .tmp 112]) rfl ?_); (try (refine gate_guard (by rfl) ?_; dsimp only)); at_builtin; refine Kd.R_append_rows k28 (w0 := w) w.heap.size rfl (.tmp 110) (.tmp 112) 22 28 (.agg #[(.string ⟨#[]⟩), (.bool false)]) 24 rfl Tryd.underlying22 info28 rfl (by decide) (by omega) v188 y187 l0_1 _ _ _ (fun k_ => some k_ ≠ (.slice Ao68 x179001_2.length co68 : Value).ownBlock) (fun _ => False) rfl rfl ?aO ?aR (fun _ _ h => h) (fun _ h => h.elim) ?aF ?aB ?aS ?aL ?_; (case aR => repeat (first | exact (Kd.C_below HR0_1.out HB.out) | (with_reducible refine Kd.C_alloc ?_ _) | (with_reducible refine Kd.C_drewN ?_ _) | (with_reducible refine Kd.C_drew ?_))); (case aB => exact (by repeat (first | (with_reducible first | exact HB.out | apply below_alloc | apply pw_below_drewN | apply below_drew1 | refine below_set ?_ GE175.out | refine below_set ?_ GE178.out) | exact HB.out))); (case aF => exact (fun k_ hk => Kd.fresh' (Kd.R_lt (by (with_reducible repeat (first | apply Kd.R_alloc | apply Kd.R_drewN | apply Kd.R_drew)); exact HO_179001.out)) k_ hk)); (case aO => exact (by (with_reducible repeat (first | apply Kd.R_alloc | apply Kd.R_drewN | apply Kd.R_drew)); exact Kd.R_mono HO189.out (fun _ hk => hk.2))); (case aS => exact (below_size (by repeat (first | (with_reducible first | exact HB.out | apply below_alloc | apply pw_below_drewN | apply below_drew1 | refine below_set ?_ GE175.out | refine below_set ?_ GE178.out) | exact HB.out)))); (case aL => have := LMc82.out; omega); intro v191 w111 ho hb hg hat; rw [← Ny190.out] at ho; have n0_ := Aside0.mk (Kd.R_after (ok := (fun _ => True)) (by (with_reducible repeat (first | apply Kd.R_alloc | apply Kd.R_drewN | apply Kd.R_drew)); exact HO_179001.out) hg hat); have n1_ := Aside0.mk (blk_grown (g := gb175) (o := .cells #[.bool a0_0, .slice A0_1 l0_1.length c0_1] 24 (0, 0)) (by (with_reducible repeat (first | refine blk_drewN ?_ _ | refine blk_drew ?_ | refine blk_alloc ?_ _)); exact BK175.out) hg (Kd.R_ne HO189.out BK175.out (by decide))); have n2_ := Aside0.mk (blk_grown (g := gb178) (o := .cells #[.bool false, .slice Ao68 x179001_2.length co68] 24 (0, 0)) (by (with_reducible repeat (first | refine blk_drewN ?_ _ | refine blk_drew ?_ | refine blk_alloc ?_ _)); exact BK178.out) hg (Kd.R_ne HO189.out BK178.out (by decide))); have n3_ := Aside0.mk (hb); have n4_ := Aside0.mk (ho); clear HO_179001; clear BK175; clear BK178; clear HB; clear HO189; have HO_179001 := n0_; have BK175 := n1_; have BK178 := n2_; have HB := n3_; have HO192 := n4_; clear n0_ n1_ n2_ n3_ n4_; clear ho hb hg hat; obtain ⟨Ao112, co112, eo112⟩ := Kd.R_slice HO192.out; subst eo112) | ((with_reducible refine gate_dst (N := 12) rfl ?_); (try (refine gate_guard (by rfl) ?_; dsimp only)); refine box_event ?hg (N := 12) ?hd (cs := #[.bool false, .slice none 0 0]) (t := 24) ?hr ?_; (case hd => rfl); (case hg => rfl); (case hr => first | (go_simp; done) | (go_simp; rfl)); intro gb193 hg w113 hbox hb; have n0_ := Aside0.mk (Kd.R_below (by (with_reducible repeat (first | apply Kd.R_alloc | apply Kd.R_drewN | apply Kd.R_drew)); exact HO_179001.out) hb); have n1_ := Aside0.mk (Kd.R_below (by (with_reducible repeat (first | apply Kd.R_alloc | apply Kd.R_drewN | apply Kd.R_drew)); exact HO192.out) hb); have n2_ := Aside0.mk (blk_below (g := gb175) (o := .cells #[.bool a0_0, .slice A0_1 l0_1.length c0_1] 24 (0, 0)) (by (with_reducible repeat (first | refine blk_drewN ?_ _ | refine blk_drew ?_ | refine blk_alloc ?_ _)); exact BK175.out) hb); have n3_ := Aside0.mk (blk_below (g := gb178) (o := .cells #[.bool false, .slice Ao68 x179001_2.length co68] 24 (0, 0)) (by (with_reducible repeat (first | refine blk_drewN ?_ _ | refine blk_drew ?_ | refine blk_alloc ?_ _)); exact BK178.out) hb); have n4_ := Aside0.mk (below_step (by repeat (first | (with_reducible first | exact HB.out | apply below_alloc | apply pw_below_drewN | apply below_drew1 | refine below_set ?_ GE175.out | refine below_set ?_ GE178.out) | exact HB.out)) hb); have n5_ := Aside0.mk (hbox); have n6_ := Aside0.mk ((by rw [hg]; exact (below_size (by repeat (first | (with_reducible first | exact HB.out | apply below_alloc | apply pw_below_drewN | apply below_drew1 | refine below_set ?_ GE175.out | refine below_set ?_ GE178.out) | exact HB.out))) : w.heap.size ≤ gb193)); have n7_ := Aside0.mk ((by rw [hg]; exact (below_size (by repeat (first | (with_reducible first | exact HB.out | apply below_alloc | apply pw_below_drewN | apply below_drew1 | refine below_set ?_ GE175.out | refine below_set ?_ GE178.out) | exact HB.out))) : w.heap.size ≤ gb193)); have n8_ := Aside0.mk ((by rw [hg]; exact Nat.ne_of_lt (blk_lt (g := gb175) (o := .cells #[.bool a0_0, .slice A0_1 l0_1.length c0_1] 24 (0, 0)) (by (with_reducible repeat (first | refine blk_drewN ?_ _ | refine blk_drew ?_ | refine blk_alloc ?_ _)); exact BK175.out)) : gb175 ≠ gb193)); have n9_ := Aside0.mk ((by rw [hg]; exact Nat.ne_of_gt (blk_lt (g := gb175) (o := .cells #[.bool a0_0, .slice A0_1 l0_1.length c0_1] 24 (0, 0)) (by (with_reducible repeat (first | refine blk_drewN ?_ _ | refine blk_drew ?_ | refine blk_alloc ?_ _)); exact BK175.out)) : gb193 ≠ gb175)); have n10_ := Aside0.mk ((by rw [hg]; exact Nat.ne_of_lt (blk_lt (g := gb178) (o := .cells #[.bool false, .slice Ao68 x179001_2.length co68] 24 (0, 0)) (by (with_reducible repeat (first | refine blk_drewN ?_ _ | refine blk_drew ?_ | refine blk_alloc ?_ _)); exact BK178.out)) : gb178 ≠ gb193)); have n11_ := Aside0.mk ((by rw [hg]; exact Nat.ne_of_gt (blk_lt (g := gb178) (o := .cells #[.bool false, .slice Ao68 x179001_2.length co68] 24 (0, 0)) (by (with_reducible repeat (first | refine blk_drewN ?_ _ | refine blk_drew ?_ | refine blk_alloc ?_ _)); exact BK178.out)) : gb193 ≠ gb178)); clear HO_179001; clear HO192; clear BK175; clear BK178; clear HB; have HO_179001 := n0_; have HO192 := n1_; have BK175 := n2_; have BK178 := n3_; have HB := n4_; have BK193 := n5_; have GW193 := n6_; have GE193 := n7_; have NB175_193 := n8_; have NB193_175 := n9_; have NB178_193 := n10_; have NB193_178 := n11_; clear n0_ n1_ n2_ n3_ n4_ n5_ n6_ n7_ n8_ n9_ n10_ n11_; clear hb hbox hg; have hnb114 := NB193_175.out; have hnc114 := NB175_193.out; have hnb115 := NB193_178.out; have hnc115 := NB178_193.out; have hcz116_0 : w113.cell? ⟨gb193, 0, none⟩ = some (.bool false) := (blk_cell BK193.out 0).trans rfl; have hcz116_1 : w113.cell? ⟨gb193, 1, none⟩ = some (.slice none 0 0) := (blk_cell BK193.out 1).trans rfl; have hfz116_0 := blk_frozen BK193.out 0; have hfz116_1 := blk_frozen BK193.out 1) | ((with_reducible refine gate_store (t := 24) (p := 12) rfl ?_); refine store_event (t := 24) (p := 12) (v := ?vo_w117) (w1 := ((w113.setCell ⟨gb193, 0, none⟩ (.bool false)).setCell ⟨gb193, 1, none⟩ (.slice Ao112 y190.length co112))) ?hg ?ho ?hn ?hr ?_; (case ho => rfl); (case hg => rfl); (case hn => rfl); (case hr => first | (go_simp; done) | (go_simp; rfl)); intro w117 hw; have n0_ : Aside0 (Kd.R k28 28 w117 w.heap.size (fun k_ => some k_ ≠ (.slice Ao112 y190.length co112 : Value).ownBlock) (.slice Ao68 x179001_2.length co68) x179001_2) := ⟨(by rw [hw]; exact (by (with_reducible repeat (first | apply Kd.R_alloc | apply Kd.R_drewN | apply Kd.R_drew)); exact Kd.R_mono (Kd.R_far (p := ⟨gb193, 1, none⟩) (Kd.R_far (p := ⟨gb193, 0, none⟩) (Kd.R_types HO_179001.out BK193.out (by decide)) (fun _ hk => hk.2) (.bool false)) (fun _ hk => hk.2) (.slice Ao112 y190.length co112)) (fun _ hk => hk.1.2)))⟩; have n1_ : Aside0 (Kd.R k28 28 w117 w.heap.size (fun k_ => some k_ ≠ (.slice Ao68 x179001_2.length co68 : Value).ownBlock) (.slice Ao112 y190.length co112) y190) := ⟨(by rw [hw]; exact (by (with_reducible repeat (first | apply Kd.R_alloc | apply Kd.R_drewN | apply Kd.R_drew)); exact Kd.R_mono (Kd.R_far (p := ⟨gb193, 1, none⟩) (Kd.R_far (p := ⟨gb193, 0, none⟩) (Kd.R_types HO192.out BK193.out (by decide)) (fun _ hk => hk.2) (.bool false)) (fun _ hk => hk.2) (.slice Ao112 y190.length co112)) (fun _ hk => hk.1)))⟩; have n2_ : Aside0 (w117.heap[gb175]? = some (.cells #[.bool a0_0, .slice A0_1 l0_1.length c0_1] 24 (0, 0))) := ⟨(by rw [hw]; exact (by (with_reducible repeat (first | refine blk_drewN ?_ _ | refine blk_drew ?_ | refine blk_alloc ?_ _)); refine blk_far ?_ NB175_193.out _; (with_reducible repeat (first | refine blk_drewN ?_ _ | refine blk_drew ?_ | refine blk_alloc ?_ _)); refine blk_far ?_ NB175_193.out _; (with_reducible repeat (first | refine blk_drewN ?_ _ | refine blk_drew ?_ | refine blk_alloc ?_ _)); exact BK175.out))⟩; have n3_ : Aside0 (w117.heap[gb178]? = some (.cells #[.bool false, .slice Ao68 x179001_2.length co68] 24 (0, 0))) := ⟨(by rw [hw]; exact (by (with_reducible repeat (first | refine blk_drewN ?_ _ | refine blk_drew ?_ | refine blk_alloc ?_ _)); refine blk_far ?_ NB178_193.out _; (with_reducible repeat (first | refine blk_drewN ?_ _ | refine blk_drew ?_ | refine blk_alloc ?_ _)); refine blk_far ?_ NB178_193.out _; (with_reducible repeat (first | refine blk_drewN ?_ _ | refine blk_drew ?_ | refine blk_alloc ?_ _)); exact BK178.out))⟩; have n4_ : Aside0 (w117.heap[gb193]? = some (.cells #[.bool false, .slice Ao112 y190.length co112] 24 (0, 0))) := ⟨(by rw [hw]; exact (by (with_reducible repeat (first | refine blk_drewN ?_ _ | refine blk_drew ?_ | refine blk_alloc ?_ _)); refine blk_put (cs := #[.bool false, .slice none 0 0]) ?_ 1 _ rfl; (with_reducible repeat (first | refine blk_drewN ?_ _ | refine blk_drew ?_ | refine blk_alloc ?_ _)); refine blk_put (cs := #[.bool false, .slice none 0 0]) ?_ 0 _ rfl; (with_reducible repeat (first | refine blk_drewN ?_ _ | refine blk_drew ?_ | refine blk_alloc ?_ _)); exact BK193.out))⟩; have n5_ : Aside0 (Below w.heap.size w w117) := ⟨(by rw [hw]; exact (by repeat (first | (with_reducible first | exact HB.out | apply below_alloc | apply pw_below_drewN | apply below_drew1 | refine below_set ?_ GE175.out | refine below_set ?_ GE178.out | refine below_set ?_ GE193.out) | exact HB.out)))⟩; clear hw; clear HO_179001; clear HO192; clear BK175; clear BK178; clear BK193; clear HB; have HO_179001 := n0_; have HO192 := n1_; have BK175 := n2_; have BK178 := n3_; have BK193 := n4_; have HB := n5_; clear n0_ n1_ n2_ n3_ n4_ n5_; have hcz118_0 : w117.cell? ⟨gb193, 0, none⟩ = some (.bool false) := (blk_cell BK193.out 0).trans rfl; have hcz118_1 : w117.cell? ⟨gb193, 1, none⟩ = some (.slice Ao112 y190.length co112) := (blk_cell BK193.out 1).trans rfl; have hfz118_0 := blk_frozen BK193.out 0; have hfz118_1 := blk_frozen BK193.out 1; have p85 : 0 ≤ (a2 : Int) := of_decide_eq_true (by first | (with_reducible assumption) | assumption); have q85 : (a2 : Int) < ((y190.length : Int) : Int) := of_decide_eq_true (by first | (with_reducible assumption) | assumption); obtain ⟨go85, co85, eo85, gb85, gl85, cl85, HG85⟩ := Kd.R_form HO192.out (by omega); (first | cases eo85 | (injection eo85 with ea_ en_ ec_; (first | subst ea_ | (injection ea_ with ea_; subst ea_)); subst ec_; clear en_)); have GB85 := Aside0.mk gb85; have GG85 := Aside0.mk HG85; clear gb85 gl85 HG85; obtain ⟨ce85, hcl85, hM85, hcc85, hfr85⟩ := Kd.R_elem HO192.out z28 (a2 : Int) p85 q85; obtain rfl := k28_openM hM85; have hx85_0 : w117.cell? ⟨go85, (a2 : Int).toNat * 2, none⟩ = some (.string ((rd_T28 y190 a2).f0)) := hcc85 0 _ rfl; have hx85_1 : w117.cell? ⟨go85, (a2 : Int).toNat * 2 + 1, none⟩ = some (.bool ((rd_T28 y190 a2).f1)) := hcc85 1 _ rfl; have hf85_0 : w117.frozen? ⟨go85, (a2 : Int).toNat * 2, none⟩ = false := hfr85 0; have hf85_1 : w117.frozen? ⟨go85, (a2 : Int).toNat * 2 + 1, none⟩ = false := hfr85 1; clear hcl85 hcc85 hfr85 hM85; replace p85 := eq_true p85; replace q85 := eq_true q85; have HX119 := Aside0.mk (show Kd.R k28 28 w117 w.heap.size (fun k_ => some k_ ≠ (.slice Ao68 x179001_2.length co68 : Value).ownBlock) (.slice (some ⟨go85, 0, none⟩) y190.length co112) y190 from (by (with_reducible repeat (first | apply Kd.R_alloc | apply Kd.R_drewN | apply Kd.R_drew)); exact HO192.out)); obtain ⟨ce119, hcl119, hM119, hcc119, hfr119⟩ := Kd.R_elem HX119.out z28 (a2 : Int) (of_decide_eq_true (by first | (with_reducible assumption) | assumption)) (by have h_ : (a2 : Int) < ((y190.length : Int) : Int) := of_decide_eq_true (by first | (with_reducible assumption) | assumption); first | exact h_ | (have e_ := (Kd.R_reads' HO192.out).1; omega) | simpa using h_); obtain rfl := k28_openM hM119; have HP119 := Kd.R_seg HX119.out (a2 : Int) (of_decide_eq_true (by first | (with_reducible assumption) | assumption)) (by have h_ : (a2 : Int) < ((y190.length : Int) : Int) := of_decide_eq_true (by first | (with_reducible assumption) | assumption); first | exact h_ | (have e_ := (Kd.R_reads' HO192.out).1; omega) | simpa using h_) (seg := [.bool true]) (j := 1) hcl119 hcc119 (show 2 ≤ 2 from by decide) (x' := (⟨(rd_T28 y190 a2).f0, true⟩ : S28)) (k28_mkM _ _ _ (⟨(rd_T28 y190 a2).f0, true⟩ : S28) ) (fun _ hk => hk); have hx119_1 := hcc119 1 _ rfl; (try simp only [show (k28).sz = 2 from rfl, Nat.mul_one, Nat.add_zero] at hx119_1); have hf119_1 := hfr119 1; (try simp only [show (k28).sz = 2 from rfl, Nat.mul_one, Nat.add_zero] at hf119_1); clear hcl119 hcc119 hfr119 hM119) | ((with_reducible refine gate_store (t := 4) (p := 119) rfl ?_); refine store_event (t := 4) (p := 119) (v := ?vo_w120) (w1 := (w117.setCell ⟨go85, (a2 : Int).toNat * 2 + 1, none⟩ (.bool true))) ?hg ?ho ?hn ?hr ?_; (case ho => rfl); (case hg => rfl); (case hn => rfl); (case hr => first | (go_simp; done) | (go_simp; rfl)); intro w120 hw; have hg : w117.grownBy w120 (some go85) := (by rw [hw]; exact HP119.2); have hp_ : Kd.R k28 28 w120 w.heap.size (fun k_ => some k_ ≠ (.slice Ao68 x179001_2.length co68 : Value).ownBlock) (.slice (some ⟨go85, 0, none⟩) y190.length co112) y194 := (by rw [hw, Ny194.out]; exact HP119.1); clear HP119; have n0_ := Aside0.mk (Kd.R_after (v := (.slice (some ⟨go85, 0, none⟩) y190.length co112)) (v1 := (.slice (some ⟨go85, 0, none⟩) y190.length co112)) (ok := (fun _ => True)) (by (with_reducible repeat (first | apply Kd.R_alloc | apply Kd.R_drewN | apply Kd.R_drew)); exact Kd.R_mono HO_179001.out (fun _ hk => ⟨trivial, hk⟩)) hg (.inl rfl)); have n1_ := Aside0.mk (blk_grown (g := gb175) (o := .cells #[.bool a0_0, .slice A0_1 l0_1.length c0_1] 24 (0, 0)) (by (with_reducible repeat (first | refine blk_drewN ?_ _ | refine blk_drew ?_ | refine blk_alloc ?_ _)); exact BK175.out) hg (Kd.R_ne HO192.out BK175.out (by decide))); have n2_ := Aside0.mk (blk_grown (g := gb178) (o := .cells #[.bool false, .slice Ao68 x179001_2.length co68] 24 (0, 0)) (by (with_reducible repeat (first | refine blk_drewN ?_ _ | refine blk_drew ?_ | refine blk_alloc ?_ _)); exact BK178.out) hg (Kd.R_ne HO192.out BK178.out (by decide))); have n3_ := Aside0.mk (hp_); have n4_ := Aside0.mk (blk_grown (g := gb193) (o := .cells #[.bool false, .slice (some ⟨go85, 0, none⟩) y190.length co112] 24 (0, 0)) (by (with_reducible repeat (first | refine blk_drewN ?_ _ | refine blk_drew ?_ | refine blk_alloc ?_ _)); exact BK193.out) hg (Kd.R_ne HO192.out BK193.out (by decide))); have n5_ := Aside0.mk ((by rw [hw]; exact below_set (HB.out) GB85.out : Below w.heap.size w w120)); clear HO_179001; clear BK175; clear BK178; clear HO192; clear BK193; clear HB; have HO_179001 := n0_; have BK175 := n1_; have BK178 := n2_; have HO192 := n3_; have BK193 := n4_; have HB := n5_; clear n0_ n1_ n2_ n3_ n4_ n5_; clear hg hw hp_; have hcz121_0 : w120.cell? ⟨gb175, 0, none⟩ = some (.bool a0_0) := (blk_cell BK175.out 0).trans rfl; have hcz121_1 : w120.cell? ⟨gb175, 1, none⟩ = some (.slice A0_1 l0_1.length c0_1) := (blk_cell BK175.out 1).trans rfl; have hfz121_0 := blk_frozen BK175.out 0; have hfz121_1 := blk_frozen BK175.out 1) | ((with_reducible refine gate_callee (f := 9) rfl ?_); refine goesL_ (some 122) rfl rfl Tryd.func9 (by kernel_rfl) rfl #[.agg #[.bool a0_0, .slice A0_1 l0_1.length c0_1], .string a1] rfl (by (try simp only [List.map_toArray, List.map_cons, List.map_nil]); first | done | rfl | (simp only [List.length_drop, List.length_take]; rfl)) ?_; (with_reducible refine (match_Means.calls kj63 a0_0 _ _ l0_1 a1 false _ ?side3 ?side1 ?side2 A86.out).mono ?_); (case side1 => repeat (first | exact (Kd.C_below HR0_1.out HB.out) | (with_reducible refine Kd.C_alloc ?_ _) | (with_reducible refine Kd.C_drewN ?_ _) | (with_reducible refine Kd.C_drew ?_))); (case side2 => exact HC0_1.out); (case side3 => first | exact hG | exact GInv.drewN hG _ | exact GInv.below hG (by repeat (first | (with_reducible first | exact HB.out | apply below_alloc | apply pw_below_drewN | apply below_drew1 | refine below_set ?_ GE175.out | refine below_set ?_ GE178.out | refine below_set ?_ GE193.out) | exact HB.out))); rintro e w122 ⟨rfl, hb⟩; refine ⟨_, rfl, ?_⟩; have n0_ := Aside0.mk (Kd.R_below (by (with_reducible repeat (first | apply Kd.R_alloc | apply Kd.R_drewN | apply Kd.R_drew)); exact HO_179001.out) hb); have n1_ := Aside0.mk (Kd.R_below (by (with_reducible repeat (first | apply Kd.R_alloc | apply Kd.R_drewN | apply Kd.R_drew)); exact HO192.out) hb); have n2_ := Aside0.mk (blk_below (g := gb175) (o := .cells #[.bool a0_0, .slice A0_1 l0_1.length c0_1] 24 (0, 0)) (by (with_reducible repeat (first | refine blk_drewN ?_ _ | refine blk_drew ?_ | refine blk_alloc ?_ _)); exact BK175.out) hb); have n3_ := Aside0.mk (blk_below (g := gb178) (o := .cells #[.bool false, .slice Ao68 x179001_2.length co68] 24 (0, 0)) (by (with_reducible repeat (first | refine blk_drewN ?_ _ | refine blk_drew ?_ | refine blk_alloc ?_ _)); exact BK178.out) hb); have n4_ := Aside0.mk (blk_below (g := gb193) (o := .cells #[.bool false, .slice (some ⟨go85, 0, none⟩) y190.length co112] 24 (0, 0)) (by (with_reducible repeat (first | refine blk_drewN ?_ _ | refine blk_drew ?_ | refine blk_alloc ?_ _)); exact BK193.out) hb); have n5_ := Aside0.mk (below_step (by repeat (first | (with_reducible first | exact HB.out | apply below_alloc | apply pw_below_drewN | apply below_drew1 | refine below_set ?_ GE175.out | refine below_set ?_ GE178.out | refine below_set ?_ GE193.out) | exact HB.out)) hb); clear HO_179001; clear HO192; clear BK175; clear BK178; clear BK193; clear HB; have HO_179001 := n0_; have HO192 := n1_; have BK175 := n2_; have BK178 := n3_; have BK193 := n4_; have HB := n5_; clear n0_ n1_ n2_ n3_ n4_ n5_; (try clear hb); (try clear hb2); (try clear hk); (try clear hi)))
                              go_ret
                              exact ⟨by first | rfl | (simp [errW_none, errW_some] <;> rfl) | (simp [*, errW_none, errW_some] <;> rfl), by repeat (first | (with_reducible first | exact HB.out | apply below_alloc | apply pw_below_drewN | apply below_drew1 | refine below_set ?_ GE175.out | refine below_set ?_ GE178.out | refine below_set ?_ GE193.out) | exact HB.out)⟩
                          · rw [if_neg c84] at H
                            exact absurd H (by simp)
                        · rw [if_neg c83] at H
                          exact absurd H (by simp)
                      · rw [if_neg c82] at H
                        exact absurd H (by simp)
  · replace c5 := Bool.eq_false_iff.mpr c5
    subst c5
    have H1 : (some false) = some r := by rw [if_neg (show ¬ (false = true) by decide)] at H; exact H
    clear H
    have H := H1
    clear H1
    obtain rfl := Option.some.inj H
    go_enter Tryd.func5, Tryd.ntmps5
    go_wp2_with (first | ((with_reducible refine gate_dst (N := 3) rfl ?_); (try (refine gate_guard (by rfl) ?_; dsimp only)); refine box_event ?hg (N := 3) ?hd (cs := #[.bool a0_0, .slice A0_1 l0_1.length c0_1]) (t := 24) ?hr ?_; (case hd => rfl); (case hg => rfl); (case hr => first | (go_simp; done) | (go_simp; rfl)); intro gb175 hg w123 hbox hb; have n0_ := Aside0.mk (below_step (by repeat (first | (with_reducible first | exact HB.out | apply below_alloc | apply pw_below_drewN | apply below_drew1) | exact HB.out)) hb); have n1_ := Aside0.mk (hbox); have n2_ := Aside0.mk ((by rw [hg]; exact (below_size (by repeat (first | (with_reducible first | exact HB.out | apply below_alloc | apply pw_below_drewN | apply below_drew1) | exact HB.out))) : w.heap.size ≤ gb175)); have n3_ := Aside0.mk ((by rw [hg]; exact (below_size (by repeat (first | (with_reducible first | exact HB.out | apply below_alloc | apply pw_below_drewN | apply below_drew1) | exact HB.out))) : w.heap.size ≤ gb175)); clear HB; have HB := n0_; have BK175 := n1_; have GW175 := n2_; have GE175 := n3_; clear n0_ n1_ n2_ n3_; clear hb hbox hg) | ((with_reducible refine gate_callee (f := 6) rfl ?_); refine goesL_ (some 13) rfl rfl Tryd.func6 (by kernel_rfl) rfl #[] rfl (by (try simp only [List.map_toArray, List.map_cons, List.map_nil]); first | done | rfl | (simp only [List.length_drop, List.length_take]; rfl)) ?_; (with_reducible refine (eponymlaw18_awake.calls k  false _ ?side1 A4.out).mono ?_); (case side1 => first | exact hG | exact GInv.drewN hG _ | exact GInv.below hG (by repeat (first | (with_reducible first | exact HB.out | apply below_alloc | apply pw_below_drewN | apply below_drew1 | refine below_set ?_ GE175.out) | exact HB.out))); rintro e w124 ⟨rfl, hb⟩; refine ⟨_, rfl, ?_⟩; have n0_ := Aside0.mk (blk_below (g := gb175) (o := .cells #[.bool a0_0, .slice A0_1 l0_1.length c0_1] 24 (0, 0)) (by (with_reducible repeat (first | refine blk_drewN ?_ _ | refine blk_drew ?_ | refine blk_alloc ?_ _)); exact BK175.out) hb); have n1_ := Aside0.mk (below_step (by repeat (first | (with_reducible first | exact HB.out | apply below_alloc | apply pw_below_drewN | apply below_drew1 | refine below_set ?_ GE175.out) | exact HB.out)) hb); clear BK175; clear HB; have BK175 := n0_; have HB := n1_; clear n0_ n1_; (try clear hb); (try clear hb2); (try clear hk); (try clear hi)))
    go_ret
    exact ⟨by first | rfl | (simp [errW_none, errW_some] <;> rfl) | (simp [*, errW_none, errW_some] <;> rfl), by repeat (first | (with_reducible first | exact HB.out | apply below_alloc | apply pw_below_drewN | apply below_drew1 | refine below_set ?_ GE175.out) | exact HB.out)⟩

end Go.Proofs.YtgdnagncjlajnaaDoor.PAll
