import Derived.Test.YtlgdenihddkjaaaDoorXd
import Derived.Deep.CutRange
namespace Go.Proofs.YtlgdenihddkjaaaDoor
set_option linter.unusedSimpArgs false
set_option linter.unusedVariables false
open Go.RowKit Go.Lib
set_option maxHeartbeats 2000000 in
set_option maxRecDepth 20000 in
theorem y_enter (s : ByteArray) (w : World) (r : RR) (H : Yat 1 w r (fun y0 y2 _ _ _ _ _ _ _ _ _ => y0 = .string s ∧ y2 = .pointer (some ⟨w.heap.size, 0, none⟩))) : Calls Tryd.prog 11 #[.string s] w (RQ w r) := by
  obtain ⟨c, hc, H⟩ := H
  go_enter Tryd.func11, Tryd.ntmps11
  refine wp_stop (fun a w' => Code.wp Tryd.prog c (bodyPost Tryd.prog Tryd.f11 (RQ w r)) a w') (fun a w h => wp_code hc rfl h) ?_
  clear hc
  intro K Q' hK
  go_wp2_with (fail)
  refine Met.intro ?_; unfold YH at H; apply H; all_goals first | exact (St.new w) | exact ⟨by first | rfl | go_num, by first | rfl | go_num⟩

set_option maxHeartbeats 2000000 in
set_option maxRecDepth 20000 in
theorem y_1 (s : ByteArray) (w : World) (hs : s.size ≤ 60) (r : RR)  (H : Yat 2 w r (fun y0 y2 y5 _ _ _ _ _ _ _ _ => y0 = .string s ∧ y2 = .pointer (some ⟨w.heap.size, 0, none⟩) ∧ y5 = .string ⟨#[48, 48, 48, 48, 45, 48, 48, 45, 48, 48, 84, 48, 48, 58, 48, 48, 58, 48, 48]⟩)) : Yat 1 w r (fun y0 y2 _ _ _ _ _ _ _ _ _ => y0 = .string s ∧ y2 = .pointer (some ⟨w.heap.size, 0, none⟩)) := by
  obtain ⟨c, hc, H⟩ := H
  refine ⟨_, rfl, ?_⟩
  unfold YH
  intros
  rename_i wc hR nS
  obtain ⟨rfl, rfl⟩ := hR
  refine wp_stop (fun a w' => Code.wp Tryd.prog c (bodyPost Tryd.prog Tryd.f11 (RQ w r)) a w') (fun a w h => wp_code hc rfl h) ?_
  clear hc
  intro K Q' hK
  go_wp2_with (fail)
  refine Met.intro ?_; unfold YH at H; apply H; all_goals first | exact nS | exact ⟨by first | rfl | go_num, by first | rfl | go_num, by first | rfl | go_num⟩

set_option maxHeartbeats 2000000 in
set_option maxRecDepth 20000 in
theorem y_2 (s : ByteArray) (w : World) (hs : s.size ≤ 60) (r : RR)  (H : Yat 3 w r (fun y0 y2 y5 y6 _ _ _ _ _ _ _ => y0 = .string s ∧ y2 = .pointer (some ⟨w.heap.size, 0, none⟩) ∧ y5 = .string ⟨#[48, 48, 48, 48, 45, 48, 48, 45, 48, 48, 84, 48, 48, 58, 48, 48, 58, 48, 48]⟩ ∧ y6 = .int .i64 (0))) : Yat 2 w r (fun y0 y2 y5 _ _ _ _ _ _ _ _ => y0 = .string s ∧ y2 = .pointer (some ⟨w.heap.size, 0, none⟩) ∧ y5 = .string ⟨#[48, 48, 48, 48, 45, 48, 48, 45, 48, 48, 84, 48, 48, 58, 48, 48, 58, 48, 48]⟩) := by
  obtain ⟨c, hc, H⟩ := H
  refine ⟨_, rfl, ?_⟩
  unfold YH
  intros
  rename_i wc hR nS
  obtain ⟨rfl, rfl, rfl⟩ := hR
  refine wp_stop (fun a w' => Code.wp Tryd.prog c (bodyPost Tryd.prog Tryd.f11 (RQ w r)) a w') (fun a w h => wp_code hc rfl h) ?_
  clear hc
  intro K Q' hK
  go_wp2_with (fail)
  refine Met.intro ?_; unfold YH at H; apply H; all_goals first | exact nS | exact ⟨by first | rfl | go_num, by first | rfl | go_num, by first | rfl | go_num, by first | rfl | go_num⟩

set_option maxHeartbeats 2000000 in
set_option maxRecDepth 20000 in
theorem y_3 (s : ByteArray) (w : World) (hs : s.size ≤ 60) (r : RR) (i : Nat) (hi : 19 ≤ i) (hi2 : i ≤ 19) (his : i ≤ s.size) (HF : Hid (∀ j, j < i → fitAt s j)) (H : Yat 4 w r (fun y0 y2 _ y6 _ _ _ _ _ _ _ => y0 = .string s ∧ y2 = .pointer (some ⟨w.heap.size, 0, none⟩) ∧ y6 = .int .i64 (19))) : Yat 3 w r (fun y0 y2 y5 y6 _ _ _ _ _ _ _ => y0 = .string s ∧ y2 = .pointer (some ⟨w.heap.size, 0, none⟩) ∧ y5 = .string ⟨#[48, 48, 48, 48, 45, 48, 48, 45, 48, 48, 84, 48, 48, 58, 48, 48, 58, 48, 48]⟩ ∧ y6 = .int .i64 (0)) := by
  obtain ⟨c, hc, H⟩ := H
  refine ⟨_, rfl, ?_⟩
  unfold YH
  intros
  rename_i wc hR nS
  obtain ⟨rfl, rfl, rfl, rfl⟩ := hR
  refine wp_stop (fun a w' => Code.wp Tryd.prog c (bodyPost Tryd.prog Tryd.f11 (RQ w r)) a w') (fun a w h => wp_code hc rfl h) ?_
  clear hc
  intro K Q' hK
  go_wp2_with (fail)
  go_loopw [6] (fun n wr => ∃ k : Nat, k ≤ i ∧ n = .int .i64 k ∧ St w wr) (fun n _ => 19 - (RowKit.intOf n).toNat)
  case atStart => exact ⟨0, by omega, rfl, nS⟩
  case round =>
    obtain ⟨k, hk, rfl, nS⟩ := hrel
    by_cases hk2 : k < i
    · have hk3 : k < s.size := by omega
      have hk4 : k < 19 := by omega
      have HFk := Lib.hid (HF.out k hk2 hk4 hk3)
      go_wp2_with (fail)
      go_region_held3 (St w) (first | assumption | exact St.drew (by assumption)) (first
        | (go_at_call 33; have kS := ‹St w _›; refine Calls.mono (fits_st true _ _ _ _ HFk.out kS) ?_; rintro e w' ⟨rfl, nS⟩; clear kS))
      all_goals
        go_wp2_with (fail)
        go_roundw
        case rel => (try ((repeat apply Exists.intro); refine ⟨?_, rfl⟩)); exact ⟨k + 1, by omega, by go_num, by assumption⟩
        case measure => simp [RowKit.intOf]; omega
    · obtain rfl : k = i := by omega
      have hk19 : ¬ (k : Int) < 19 := by omega
      go_wp2_with (fail)
      refine Met.intro ?_; unfold YH at H; apply H; all_goals first | exact nS | exact ⟨by first | rfl | go_num | (congr 1; omega), by first | rfl | go_num | (congr 1; omega), by first | rfl | go_num | (congr 1; omega)⟩

set_option maxHeartbeats 2000000 in
set_option maxRecDepth 20000 in
theorem y_4 (s : ByteArray) (w : World) (hs : s.size ≤ 60) (r : RR)  (H : Yat 5 w r (fun y0 y2 _ y6 y7 _ _ _ _ _ _ => y0 = .string s ∧ y2 = .pointer (some ⟨w.heap.size, 0, none⟩) ∧ y6 = .int .i64 (19) ∧ y7 = .int .i64 (0))) : Yat 4 w r (fun y0 y2 _ y6 _ _ _ _ _ _ _ => y0 = .string s ∧ y2 = .pointer (some ⟨w.heap.size, 0, none⟩) ∧ y6 = .int .i64 (19)) := by
  obtain ⟨c, hc, H⟩ := H
  refine ⟨_, rfl, ?_⟩
  unfold YH
  intros
  rename_i wc hR nS
  obtain ⟨rfl, rfl, rfl⟩ := hR
  refine wp_stop (fun a w' => Code.wp Tryd.prog c (bodyPost Tryd.prog Tryd.f11 (RQ w r)) a w') (fun a w h => wp_code hc rfl h) ?_
  clear hc
  intro K Q' hK
  go_wp2_with (fail)
  refine Met.intro ?_; unfold YH at H; apply H; all_goals first | exact nS | exact ⟨by first | rfl | go_num, by first | rfl | go_num, by first | rfl | go_num, by first | rfl | go_num⟩
end Go.Proofs.YtlgdenihddkjaaaDoor
