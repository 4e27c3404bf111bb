import Derived.Test.YtlgdenihddkjaaaDoorXd
import Derived.Deep.CutRange
namespace Go.Proofs.YtlgdenihddkjaaaDoor
set_option linter.unusedSimpArgs false
set_option linter.unusedVariables false
open Go.RowKit Go.Lib
set_option maxHeartbeats 2000000 in
set_option maxRecDepth 20000 in
theorem y_13 (s : ByteArray) (w : World) (hs : s.size ≤ 60) (r : RR) (p : Nat) (hlt : p < s.size) (v : Int) (t0 t2 : Int) (b0 : 0 ≤ t0 ∧ t0 ≤ 99) (b2 : 0 ≤ t2 ∧ t2 ≤ 99) (h0 : Tells 34 #[.string s, .int .i64 0] (.int .i64 t0)) (h2 : Tells 34 #[.string s, .int .i64 2] (.int .i64 t2))  (H : Yat 14 w r (fun y0 y2 _ _ y7 y10 y11 y13 _ _ _ => y0 = .string s ∧ y2 = .pointer (some ⟨w.heap.size, 0, none⟩) ∧ y7 = .int .i64 (v) ∧ y10 = .int .u8 (s[p].toNat : Int) ∧ y11 = .int .i64 ((p : Int) + 1) ∧ y13 = .int .i64 (100 * t0 + t2))) : Yat 13 w r (fun y0 y2 _ _ y7 y10 y11 _ _ _ _ => y0 = .string s ∧ y2 = .pointer (some ⟨w.heap.size, 0, none⟩) ∧ y7 = .int .i64 (v) ∧ y10 = .int .u8 (s[p].toNat : Int) ∧ y11 = .int .i64 ((p : Int) + 1)) := by
  obtain ⟨c, hc, H⟩ := H
  refine ⟨_, rfl, ?_⟩
  unfold YH
  intros
  rename_i wc hR nS
  obtain ⟨rfl, rfl, rfl, rfl, rfl⟩ := hR
  refine wp_stop (fun a w' => Code.wp Tryd.prog c (bodyPost Tryd.prog Tryd.f11 (RQ w r)) a w') (fun a w h => wp_code hc rfl h) ?_
  clear hc
  intro K Q' hK
  have H0 := Lib.hid (h0.st w)
  clear h0
  have H2 := Lib.hid (h2.st w)
  clear h2
  have y0 : IntKind.i64.wrap (100 * t0) = 100 * t0 := IntWalk.i64_in _ (by omega)
  have y1 : IntKind.i64.wrap (100 * t0 + t2) = 100 * t0 + t2 := IntWalk.i64_in _ (by omega)
  go_wp2_with (first
    | (go_at_call 34; with_reducible refine Calls.mono (H2.out _ (by assumption)) ?_; rintro e w' ⟨rfl, nS, c0, c1, f0, f1⟩)
    | (go_at_call 34; with_reducible refine Calls.mono (H0.out _ (by assumption)) ?_; rintro e w' ⟨rfl, nS, c0, c1, f0, f1⟩))
  refine Met.intro ?_; unfold YH at H; apply H; all_goals first | exact (by assumption) | exact ⟨by first | rfl | go_num, by first | rfl | go_num, by first | rfl | go_num, by first | rfl | go_num, by first | rfl | go_num, by first | rfl | go_num⟩

set_option maxHeartbeats 2000000 in
set_option maxRecDepth 20000 in
theorem y_14 (s : ByteArray) (w : World) (hs : s.size ≤ 60) (r : RR) (p : Nat) (hlt : p < s.size) (v : Int) (t0 t2 t5 : Int) (h5 : Tells 34 #[.string s, .int .i64 5] (.int .i64 t5))  (H : Yat 15 w r (fun y0 y2 _ _ y7 y10 y11 y13 y14 _ _ => y0 = .string s ∧ y2 = .pointer (some ⟨w.heap.size, 0, none⟩) ∧ y7 = .int .i64 (v) ∧ y10 = .int .u8 (s[p].toNat : Int) ∧ y11 = .int .i64 ((p : Int) + 1) ∧ y13 = .int .i64 (100 * t0 + t2) ∧ y14 = .int .i64 (t5))) : Yat 14 w r (fun y0 y2 _ _ y7 y10 y11 y13 _ _ _ => y0 = .string s ∧ y2 = .pointer (some ⟨w.heap.size, 0, none⟩) ∧ y7 = .int .i64 (v) ∧ y10 = .int .u8 (s[p].toNat : Int) ∧ y11 = .int .i64 ((p : Int) + 1) ∧ y13 = .int .i64 (100 * t0 + t2)) := by
  obtain ⟨c, hc, H⟩ := H
  refine ⟨_, rfl, ?_⟩
  unfold YH
  intros
  rename_i wc hR nS
  obtain ⟨rfl, rfl, rfl, rfl, rfl, rfl⟩ := hR
  refine wp_stop (fun a w' => Code.wp Tryd.prog c (bodyPost Tryd.prog Tryd.f11 (RQ w r)) a w') (fun a w h => wp_code hc rfl h) ?_
  clear hc
  intro K Q' hK
  have H5 := Lib.hid (h5.st w)
  clear h5
  go_wp2_with (first
    | (go_at_call 34; with_reducible refine Calls.mono (H5.out _ (by assumption)) ?_; rintro e w' ⟨rfl, nS, c0, c1, f0, f1⟩))
  refine Met.intro ?_; unfold YH at H; apply H; all_goals first | exact (by assumption) | exact ⟨by first | rfl | go_num, by first | rfl | go_num, by first | rfl | go_num, by first | rfl | go_num, by first | rfl | go_num, by first | rfl | go_num, by first | rfl | go_num⟩

set_option maxHeartbeats 2000000 in
set_option maxRecDepth 20000 in
theorem y_15 (s : ByteArray) (w : World) (hs : s.size ≤ 60) (r : RR) (p : Nat) (hlt : p < s.size) (v : Int) (t0 t2 t5 : Int) (g1 : 1 ≤ t5) (g2 : t5 ≤ 12) (H : Yat 16 w r (fun y0 y2 _ _ y7 y10 y11 y13 y14 _ _ => y0 = .string s ∧ y2 = .pointer (some ⟨w.heap.size, 0, none⟩) ∧ y7 = .int .i64 (v) ∧ y10 = .int .u8 (s[p].toNat : Int) ∧ y11 = .int .i64 ((p : Int) + 1) ∧ y13 = .int .i64 (100 * t0 + t2) ∧ y14 = .int .i64 (t5))) : Yat 15 w r (fun y0 y2 _ _ y7 y10 y11 y13 y14 _ _ => y0 = .string s ∧ y2 = .pointer (some ⟨w.heap.size, 0, none⟩) ∧ y7 = .int .i64 (v) ∧ y10 = .int .u8 (s[p].toNat : Int) ∧ y11 = .int .i64 ((p : Int) + 1) ∧ y13 = .int .i64 (100 * t0 + t2) ∧ y14 = .int .i64 (t5)) := by
  obtain ⟨c, hc, H⟩ := H
  refine ⟨_, rfl, ?_⟩
  unfold YH
  intros
  rename_i wc hR nS
  obtain ⟨rfl, rfl, rfl, rfl, rfl, rfl, rfl⟩ := hR
  refine wp_stop (fun a w' => Code.wp Tryd.prog c (bodyPost Tryd.prog Tryd.f11 (RQ w r)) a w') (fun a w h => wp_code hc rfl h) ?_
  clear hc
  intro K Q' hK
  have g1' : ¬ t5 < 1 := by omega
  go_wp2_with (fail)
  refine Met.intro ?_; unfold YH at H; apply H; all_goals first | exact nS | exact ⟨by first | rfl | go_num, by first | rfl | go_num, by first | rfl | go_num, by first | rfl | go_num, by first | rfl | go_num, by first | rfl | go_num, by first | rfl | go_num⟩

set_option maxHeartbeats 2000000 in
set_option maxRecDepth 20000 in
theorem y_15b (s : ByteArray) (w : World) (hs : s.size ≤ 60) (p : Nat) (hlt : p < s.size) (v : Int) (t0 t2 t5 : Int) (g : t5 < 1 ∨ 12 < t5) : Yat 15 w (0, 0, 5, 4) (fun y0 y2 _ _ y7 y10 y11 y13 y14 _ _ => y0 = .string s ∧ y2 = .pointer (some ⟨w.heap.size, 0, none⟩) ∧ y7 = .int .i64 (v) ∧ y10 = .int .u8 (s[p].toNat : Int) ∧ y11 = .int .i64 ((p : Int) + 1) ∧ y13 = .int .i64 (100 * t0 + t2) ∧ y14 = .int .i64 (t5)) := by
  refine ⟨_, rfl, ?_⟩
  unfold YH
  intros
  rename_i wc hR nS
  obtain ⟨rfl, rfl, rfl, rfl, rfl, rfl, rfl⟩ := hR
  obtain ⟨nS, c0, c1, f0, f1⟩ := nS.sc
  rcases g with g | g
  all_goals
    go_wp2
    all_goals refine bodyPost_ret (v := .tuple #[.agg #[.int .i64 (0), .int .i64 (0)], .int .i64 (5), .int .i64 4]) (by simp [results, Tryd.results11, go_sem, set2_c0 nS.2, set2_c1 nS.2]) rfl ⟨rfl, nS.fin _ _⟩

set_option maxHeartbeats 2000000 in
set_option maxRecDepth 20000 in
theorem y_16 (s : ByteArray) (w : World) (hs : s.size ≤ 60) (r : RR) (p : Nat) (hlt : p < s.size) (v : Int) (t0 t2 t5 : Int) (t8 L : Int) (h8 : Tells 34 #[.string s, .int .i64 8] (.int .i64 t8)) (hL : Tells 35 #[.int .i64 (100 * t0 + t2), .int .i64 t5] (.int .i64 L)) (g1 : 1 ≤ t8) (g2 : t8 ≤ L) (H : Yat 17 w r (fun y0 y2 _ _ y7 y10 y11 y13 y14 _ _ => y0 = .string s ∧ y2 = .pointer (some ⟨w.heap.size, 0, none⟩) ∧ y7 = .int .i64 (v) ∧ y10 = .int .u8 (s[p].toNat : Int) ∧ y11 = .int .i64 ((p : Int) + 1) ∧ y13 = .int .i64 (100 * t0 + t2) ∧ y14 = .int .i64 (t5))) : Yat 16 w r (fun y0 y2 _ _ y7 y10 y11 y13 y14 _ _ => y0 = .string s ∧ y2 = .pointer (some ⟨w.heap.size, 0, none⟩) ∧ y7 = .int .i64 (v) ∧ y10 = .int .u8 (s[p].toNat : Int) ∧ y11 = .int .i64 ((p : Int) + 1) ∧ y13 = .int .i64 (100 * t0 + t2) ∧ y14 = .int .i64 (t5)) := by
  obtain ⟨c, hc, H⟩ := H
  refine ⟨_, rfl, ?_⟩
  unfold YH
  intros
  rename_i wc hR nS
  obtain ⟨rfl, rfl, rfl, rfl, rfl, rfl, rfl⟩ := hR
  refine wp_stop (fun a w' => Code.wp Tryd.prog c (bodyPost Tryd.prog Tryd.f11 (RQ w r)) a w') (fun a w h => wp_code hc rfl h) ?_
  clear hc
  intro K Q' hK
  have H8 := Lib.hid (h8.st w)
  clear h8
  have HL := Lib.hid (hL.st w)
  clear hL
  have g1' : ¬ t8 < 1 := by omega
  go_wp2_with (first
    | (go_at_call 35; with_reducible refine Calls.mono (HL.out _ (by assumption)) ?_; rintro e w' ⟨rfl, nS, c0, c1, f0, f1⟩)
    | (go_at_call 34; with_reducible refine Calls.mono (H8.out _ (by assumption)) ?_; rintro e w' ⟨rfl, nS, c0, c1, f0, f1⟩))
  refine Met.intro ?_; unfold YH at H; apply H; all_goals first | exact (by assumption) | exact ⟨by first | rfl | go_num, by first | rfl | go_num, by first | rfl | go_num, by first | rfl | go_num, by first | rfl | go_num, by first | rfl | go_num, by first | rfl | go_num⟩

set_option maxHeartbeats 2000000 in
set_option maxRecDepth 20000 in
theorem y_16b (s : ByteArray) (w : World) (hs : s.size ≤ 60) (p : Nat) (hlt : p < s.size) (v : Int) (t0 t2 t5 : Int) (t8 L : Int) (h8 : Tells 34 #[.string s, .int .i64 8] (.int .i64 t8)) (hL : Tells 35 #[.int .i64 (100 * t0 + t2), .int .i64 t5] (.int .i64 L)) (g : t8 < 1 ∨ L < t8) : Yat 16 w (0, 0, 8, 4) (fun y0 y2 _ _ y7 y10 y11 y13 y14 _ _ => y0 = .string s ∧ y2 = .pointer (some ⟨w.heap.size, 0, none⟩) ∧ y7 = .int .i64 (v) ∧ y10 = .int .u8 (s[p].toNat : Int) ∧ y11 = .int .i64 ((p : Int) + 1) ∧ y13 = .int .i64 (100 * t0 + t2) ∧ y14 = .int .i64 (t5)) := by
  refine ⟨_, rfl, ?_⟩
  unfold YH
  intros
  rename_i wc hR nS
  obtain ⟨rfl, rfl, rfl, rfl, rfl, rfl, rfl⟩ := hR
  have H8 := Lib.hid (h8.st w)
  clear h8
  have HL := Lib.hid (hL.st w)
  clear hL
  rcases g with g | g
  all_goals
    go_wp2_with (first
      | (go_at_call 35; with_reducible refine Calls.mono (HL.out _ (by assumption)) ?_; rintro e w' ⟨rfl, nS, c0, c1, f0, f1⟩)
      | (go_at_call 34; with_reducible refine Calls.mono (H8.out _ (by assumption)) ?_; rintro e w' ⟨rfl, nS, c0, c1, f0, f1⟩))
    all_goals refine bodyPost_ret (v := .tuple #[.agg #[.int .i64 (0), .int .i64 (0)], .int .i64 (8), .int .i64 4]) (by simp [results, Tryd.results11, go_sem, set2_c0 nS.2, set2_c1 nS.2]) rfl ⟨rfl, nS.fin _ _⟩

set_option maxHeartbeats 2000000 in
set_option maxRecDepth 20000 in
theorem y_17 (s : ByteArray) (w : World) (hs : s.size ≤ 60) (r : RR) (p : Nat) (hlt : p < s.size) (v : Int) (t0 t2 t5 : Int) (t11 : Int) (h11 : Tells 34 #[.string s, .int .i64 11] (.int .i64 t11)) (g : t11 ≤ 23) (H : Yat 18 w r (fun y0 y2 _ _ y7 y10 y11 y13 y14 _ _ => y0 = .string s ∧ y2 = .pointer (some ⟨w.heap.size, 0, none⟩) ∧ y7 = .int .i64 (v) ∧ y10 = .int .u8 (s[p].toNat : Int) ∧ y11 = .int .i64 ((p : Int) + 1) ∧ y13 = .int .i64 (100 * t0 + t2) ∧ y14 = .int .i64 (t5))) : Yat 17 w r (fun y0 y2 _ _ y7 y10 y11 y13 y14 _ _ => y0 = .string s ∧ y2 = .pointer (some ⟨w.heap.size, 0, none⟩) ∧ y7 = .int .i64 (v) ∧ y10 = .int .u8 (s[p].toNat : Int) ∧ y11 = .int .i64 ((p : Int) + 1) ∧ y13 = .int .i64 (100 * t0 + t2) ∧ y14 = .int .i64 (t5)) := by
  obtain ⟨c, hc, H⟩ := H
  refine ⟨_, rfl, ?_⟩
  unfold YH
  intros
  rename_i wc hR nS
  obtain ⟨rfl, rfl, rfl, rfl, rfl, rfl, rfl⟩ := hR
  refine wp_stop (fun a w' => Code.wp Tryd.prog c (bodyPost Tryd.prog Tryd.f11 (RQ w r)) a w') (fun a w h => wp_code hc rfl h) ?_
  clear hc
  intro K Q' hK
  have H11 := Lib.hid (h11.st w)
  clear h11
  go_wp2_with (first
    | (go_at_call 34; with_reducible refine Calls.mono (H11.out _ (by assumption)) ?_; rintro e w' ⟨rfl, nS, c0, c1, f0, f1⟩))
  refine Met.intro ?_; unfold YH at H; apply H; all_goals first | exact (by assumption) | exact ⟨by first | rfl | go_num, by first | rfl | go_num, by first | rfl | go_num, by first | rfl | go_num, by first | rfl | go_num, by first | rfl | go_num, by first | rfl | go_num⟩

set_option maxHeartbeats 2000000 in
set_option maxRecDepth 20000 in
theorem y_17b (s : ByteArray) (w : World) (hs : s.size ≤ 60) (p : Nat) (hlt : p < s.size) (v : Int) (t0 t2 t5 : Int) (t11 : Int) (h11 : Tells 34 #[.string s, .int .i64 11] (.int .i64 t11)) (g : 23 < t11) : Yat 17 w (0, 0, 11, 4) (fun y0 y2 _ _ y7 y10 y11 y13 y14 _ _ => y0 = .string s ∧ y2 = .pointer (some ⟨w.heap.size, 0, none⟩) ∧ y7 = .int .i64 (v) ∧ y10 = .int .u8 (s[p].toNat : Int) ∧ y11 = .int .i64 ((p : Int) + 1) ∧ y13 = .int .i64 (100 * t0 + t2) ∧ y14 = .int .i64 (t5)) := by
  refine ⟨_, rfl, ?_⟩
  unfold YH
  intros
  rename_i wc hR nS
  obtain ⟨rfl, rfl, rfl, rfl, rfl, rfl, rfl⟩ := hR
  have H11 := Lib.hid (h11.st w)
  clear h11
  go_wp2_with (first
    | (go_at_call 34; with_reducible refine Calls.mono (H11.out _ (by assumption)) ?_; rintro e w' ⟨rfl, nS, c0, c1, f0, f1⟩))
  all_goals refine bodyPost_ret (v := .tuple #[.agg #[.int .i64 (0), .int .i64 (0)], .int .i64 (11), .int .i64 4]) (by simp [results, Tryd.results11, go_sem, set2_c0 nS.2, set2_c1 nS.2]) rfl ⟨rfl, nS.fin _ _⟩

set_option maxHeartbeats 2000000 in
set_option maxRecDepth 20000 in
theorem y_18 (s : ByteArray) (w : World) (hs : s.size ≤ 60) (r : RR) (p : Nat) (hlt : p < s.size) (v : Int) (t0 t2 t5 : Int) (t14 : Int) (h14 : Tells 34 #[.string s, .int .i64 14] (.int .i64 t14)) (g : t14 ≤ 59) (H : Yat 19 w r (fun y0 y2 _ _ y7 y10 y11 y13 y14 _ _ => y0 = .string s ∧ y2 = .pointer (some ⟨w.heap.size, 0, none⟩) ∧ y7 = .int .i64 (v) ∧ y10 = .int .u8 (s[p].toNat : Int) ∧ y11 = .int .i64 ((p : Int) + 1) ∧ y13 = .int .i64 (100 * t0 + t2) ∧ y14 = .int .i64 (t5))) : Yat 18 w r (fun y0 y2 _ _ y7 y10 y11 y13 y14 _ _ => y0 = .string s ∧ y2 = .pointer (some ⟨w.heap.size, 0, none⟩) ∧ y7 = .int .i64 (v) ∧ y10 = .int .u8 (s[p].toNat : Int) ∧ y11 = .int .i64 ((p : Int) + 1) ∧ y13 = .int .i64 (100 * t0 + t2) ∧ y14 = .int .i64 (t5)) := by
  obtain ⟨c, hc, H⟩ := H
  refine ⟨_, rfl, ?_⟩
  unfold YH
  intros
  rename_i wc hR nS
  obtain ⟨rfl, rfl, rfl, rfl, rfl, rfl, rfl⟩ := hR
  refine wp_stop (fun a w' => Code.wp Tryd.prog c (bodyPost Tryd.prog Tryd.f11 (RQ w r)) a w') (fun a w h => wp_code hc rfl h) ?_
  clear hc
  intro K Q' hK
  have H14 := Lib.hid (h14.st w)
  clear h14
  go_wp2_with (first
    | (go_at_call 34; with_reducible refine Calls.mono (H14.out _ (by assumption)) ?_; rintro e w' ⟨rfl, nS, c0, c1, f0, f1⟩))
  refine Met.intro ?_; unfold YH at H; apply H; all_goals first | exact (by assumption) | exact ⟨by first | rfl | go_num, by first | rfl | go_num, by first | rfl | go_num, by first | rfl | go_num, by first | rfl | go_num, by first | rfl | go_num, by first | rfl | go_num⟩

set_option maxHeartbeats 2000000 in
set_option maxRecDepth 20000 in
theorem y_18b (s : ByteArray) (w : World) (hs : s.size ≤ 60) (p : Nat) (hlt : p < s.size) (v : Int) (t0 t2 t5 : Int) (t14 : Int) (h14 : Tells 34 #[.string s, .int .i64 14] (.int .i64 t14)) (g : 59 < t14) : Yat 18 w (0, 0, 14, 4) (fun y0 y2 _ _ y7 y10 y11 y13 y14 _ _ => y0 = .string s ∧ y2 = .pointer (some ⟨w.heap.size, 0, none⟩) ∧ y7 = .int .i64 (v) ∧ y10 = .int .u8 (s[p].toNat : Int) ∧ y11 = .int .i64 ((p : Int) + 1) ∧ y13 = .int .i64 (100 * t0 + t2) ∧ y14 = .int .i64 (t5)) := by
  refine ⟨_, rfl, ?_⟩
  unfold YH
  intros
  rename_i wc hR nS
  obtain ⟨rfl, rfl, rfl, rfl, rfl, rfl, rfl⟩ := hR
  have H14 := Lib.hid (h14.st w)
  clear h14
  go_wp2_with (first
    | (go_at_call 34; with_reducible refine Calls.mono (H14.out _ (by assumption)) ?_; rintro e w' ⟨rfl, nS, c0, c1, f0, f1⟩))
  all_goals refine bodyPost_ret (v := .tuple #[.agg #[.int .i64 (0), .int .i64 (0)], .int .i64 (14), .int .i64 4]) (by simp [results, Tryd.results11, go_sem, set2_c0 nS.2, set2_c1 nS.2]) rfl ⟨rfl, nS.fin _ _⟩

set_option maxHeartbeats 2000000 in
set_option maxRecDepth 20000 in
theorem y_19 (s : ByteArray) (w : World) (hs : s.size ≤ 60) (r : RR) (p : Nat) (hlt : p < s.size) (v : Int) (t0 t2 t5 : Int) (t17 : Int) (h17 : Tells 34 #[.string s, .int .i64 17] (.int .i64 t17)) (g : t17 ≤ 59) (H : Yat 20 w r (fun y0 y2 _ _ y7 y10 y11 y13 y14 _ _ => y0 = .string s ∧ y2 = .pointer (some ⟨w.heap.size, 0, none⟩) ∧ y7 = .int .i64 (v) ∧ y10 = .int .u8 (s[p].toNat : Int) ∧ y11 = .int .i64 ((p : Int) + 1) ∧ y13 = .int .i64 (100 * t0 + t2) ∧ y14 = .int .i64 (t5))) : Yat 19 w r (fun y0 y2 _ _ y7 y10 y11 y13 y14 _ _ => y0 = .string s ∧ y2 = .pointer (some ⟨w.heap.size, 0, none⟩) ∧ y7 = .int .i64 (v) ∧ y10 = .int .u8 (s[p].toNat : Int) ∧ y11 = .int .i64 ((p : Int) + 1) ∧ y13 = .int .i64 (100 * t0 + t2) ∧ y14 = .int .i64 (t5)) := by
  obtain ⟨c, hc, H⟩ := H
  refine ⟨_, rfl, ?_⟩
  unfold YH
  intros
  rename_i wc hR nS
  obtain ⟨rfl, rfl, rfl, rfl, rfl, rfl, rfl⟩ := hR
  refine wp_stop (fun a w' => Code.wp Tryd.prog c (bodyPost Tryd.prog Tryd.f11 (RQ w r)) a w') (fun a w h => wp_code hc rfl h) ?_
  clear hc
  intro K Q' hK
  have H17 := Lib.hid (h17.st w)
  clear h17
  go_wp2_with (first
    | (go_at_call 34; with_reducible refine Calls.mono (H17.out _ (by assumption)) ?_; rintro e w' ⟨rfl, nS, c0, c1, f0, f1⟩))
  refine Met.intro ?_; unfold YH at H; apply H; all_goals first | exact (by assumption) | exact ⟨by first | rfl | go_num, by first | rfl | go_num, by first | rfl | go_num, by first | rfl | go_num, by first | rfl | go_num, by first | rfl | go_num, by first | rfl | go_num⟩

set_option maxHeartbeats 2000000 in
set_option maxRecDepth 20000 in
theorem y_19b (s : ByteArray) (w : World) (hs : s.size ≤ 60) (p : Nat) (hlt : p < s.size) (v : Int) (t0 t2 t5 : Int) (t17 : Int) (h17 : Tells 34 #[.string s, .int .i64 17] (.int .i64 t17)) (g : 59 < t17) : Yat 19 w (0, 0, 17, 4) (fun y0 y2 _ _ y7 y10 y11 y13 y14 _ _ => y0 = .string s ∧ y2 = .pointer (some ⟨w.heap.size, 0, none⟩) ∧ y7 = .int .i64 (v) ∧ y10 = .int .u8 (s[p].toNat : Int) ∧ y11 = .int .i64 ((p : Int) + 1) ∧ y13 = .int .i64 (100 * t0 + t2) ∧ y14 = .int .i64 (t5)) := by
  refine ⟨_, rfl, ?_⟩
  unfold YH
  intros
  rename_i wc hR nS
  obtain ⟨rfl, rfl, rfl, rfl, rfl, rfl, rfl⟩ := hR
  have H17 := Lib.hid (h17.st w)
  clear h17
  go_wp2_with (first
    | (go_at_call 34; with_reducible refine Calls.mono (H17.out _ (by assumption)) ?_; rintro e w' ⟨rfl, nS, c0, c1, f0, f1⟩))
  all_goals refine bodyPost_ret (v := .tuple #[.agg #[.int .i64 (0), .int .i64 (0)], .int .i64 (17), .int .i64 4]) (by simp [results, Tryd.results11, go_sem, set2_c0 nS.2, set2_c1 nS.2]) rfl ⟨rfl, nS.fin _ _⟩

set_option maxHeartbeats 2000000 in
set_option maxRecDepth 20000 in
theorem y_20 (s : ByteArray) (w : World) (hs : s.size ≤ 60) (r : RR) (p : Nat) (hlt : p < s.size) (v : Int) (t0 t2 t5 : Int) (t8 D : Int) (h8 : Tells 34 #[.string s, .int .i64 8] (.int .i64 t8)) (hD : Tells 19 #[.int .i64 (100 * t0 + t2), .int .i64 t5, .int .i64 t8] (.tuple #[.int .i64 D, .int .i64 0, .int .i64 0]))  (H : Yat 21 w r (fun y0 y2 _ _ y7 y10 y11 _ _ y15 _ => y0 = .string s ∧ y2 = .pointer (some ⟨w.heap.size, 0, none⟩) ∧ y7 = .int .i64 (v) ∧ y10 = .int .u8 (s[p].toNat : Int) ∧ y11 = .int .i64 ((p : Int) + 1) ∧ y15 = .int .i64 (D))) : Yat 20 w r (fun y0 y2 _ _ y7 y10 y11 y13 y14 _ _ => y0 = .string s ∧ y2 = .pointer (some ⟨w.heap.size, 0, none⟩) ∧ y7 = .int .i64 (v) ∧ y10 = .int .u8 (s[p].toNat : Int) ∧ y11 = .int .i64 ((p : Int) + 1) ∧ y13 = .int .i64 (100 * t0 + t2) ∧ y14 = .int .i64 (t5)) := by
  obtain ⟨c, hc, H⟩ := H
  refine ⟨_, rfl, ?_⟩
  unfold YH
  intros
  rename_i wc hR nS
  obtain ⟨rfl, rfl, rfl, rfl, rfl, rfl, rfl⟩ := hR
  refine wp_stop (fun a w' => Code.wp Tryd.prog c (bodyPost Tryd.prog Tryd.f11 (RQ w r)) a w') (fun a w h => wp_code hc rfl h) ?_
  clear hc
  intro K Q' hK
  have H8 := Lib.hid (h8.st w)
  clear h8
  have HD := Lib.hid (hD.st w)
  clear hD
  go_wp2_with (first
    | (go_at_call 19; with_reducible refine Calls.mono (HD.out _ (by assumption)) ?_; rintro e w' ⟨rfl, nS, c0, c1, f0, f1⟩)
    | (go_at_call 34; with_reducible refine Calls.mono (H8.out _ (by assumption)) ?_; rintro e w' ⟨rfl, nS, c0, c1, f0, f1⟩))
  refine Met.intro ?_; unfold YH at H; apply H; all_goals first | exact (by assumption) | exact ⟨by first | rfl | go_num, by first | rfl | go_num, by first | rfl | go_num, by first | rfl | go_num, by first | rfl | go_num, by first | rfl | go_num⟩

set_option maxHeartbeats 2000000 in
set_option maxRecDepth 20000 in
theorem y_21 (s : ByteArray) (w : World) (hs : s.size ≤ 60) (r : RR) (p : Nat) (hlt : p < s.size) (v : Int) (t11 t14 t17 D S : Int) (b1 : 0 ≤ t11 ∧ t11 ≤ 99) (b2 : 0 ≤ t14 ∧ t14 ≤ 99) (b3 : 0 ≤ t17 ∧ t17 ≤ 99) (bD : -10000000 ≤ D ∧ D ≤ 10000000) (hS : S = secR D t11 t14 t17) (h11 : Tells 34 #[.string s, .int .i64 11] (.int .i64 t11)) (h14 : Tells 34 #[.string s, .int .i64 14] (.int .i64 t14)) (h17 : Tells 34 #[.string s, .int .i64 17] (.int .i64 t17))  (H : Yat 22 w r (fun y0 y2 _ _ y7 y10 y11 _ _ _ y18 => y0 = .string s ∧ y2 = .pointer (some ⟨w.heap.size, 0, none⟩) ∧ y7 = .int .i64 (v) ∧ y10 = .int .u8 (s[p].toNat : Int) ∧ y11 = .int .i64 ((p : Int) + 1) ∧ y18 = .int .i64 (S))) : Yat 21 w r (fun y0 y2 _ _ y7 y10 y11 _ _ y15 _ => y0 = .string s ∧ y2 = .pointer (some ⟨w.heap.size, 0, none⟩) ∧ y7 = .int .i64 (v) ∧ y10 = .int .u8 (s[p].toNat : Int) ∧ y11 = .int .i64 ((p : Int) + 1) ∧ y15 = .int .i64 (D)) := by
  obtain ⟨c, hc, H⟩ := H
  refine ⟨_, rfl, ?_⟩
  unfold YH
  intros
  rename_i wc hR nS
  obtain ⟨rfl, rfl, rfl, rfl, rfl, rfl⟩ := hR
  unfold secR at hS
  refine wp_stop (fun a w' => Code.wp Tryd.prog c (bodyPost Tryd.prog Tryd.f11 (RQ w r)) a w') (fun a w h => wp_code hc rfl h) ?_
  clear hc
  intro K Q' hK
  have H11 := Lib.hid (h11.st w)
  clear h11
  have H14 := Lib.hid (h14.st w)
  clear h14
  have H17 := Lib.hid (h17.st w)
  clear h17
  have y0 : IntKind.i64.wrap (86400 * D) = 86400 * D := IntWalk.i64_in _ (by omega)
  have y1 : IntKind.i64.wrap (3600 * t11) = 3600 * t11 := IntWalk.i64_in _ (by omega)
  have y2 : IntKind.i64.wrap (86400 * D + 3600 * t11) = 86400 * D + 3600 * t11 := IntWalk.i64_in _ (by omega)
  have y3 : IntKind.i64.wrap (60 * t14) = 60 * t14 := IntWalk.i64_in _ (by omega)
  have y4 : IntKind.i64.wrap (86400 * D + 3600 * t11 + 60 * t14) = 86400 * D + 3600 * t11 + 60 * t14 := IntWalk.i64_in _ (by omega)
  have y5 : IntKind.i64.wrap (86400 * D + 3600 * t11 + 60 * t14 + t17) = S := by rw [IntWalk.i64_in _ (by omega)]; omega
  go_wp2_with (first
    | (go_at_call 34; with_reducible refine Calls.mono (H17.out _ (by assumption)) ?_; rintro e w' ⟨rfl, nS, c0, c1, f0, f1⟩)
    | (go_at_call 34; with_reducible refine Calls.mono (H14.out _ (by assumption)) ?_; rintro e w' ⟨rfl, nS, c0, c1, f0, f1⟩)
    | (go_at_call 34; with_reducible refine Calls.mono (H11.out _ (by assumption)) ?_; rintro e w' ⟨rfl, nS, c0, c1, f0, f1⟩))
  refine Met.intro ?_; unfold YH at H; apply H; all_goals first | exact (by assumption) | exact ⟨by first | rfl | go_num, by first | rfl | go_num, by first | rfl | go_num, by first | rfl | go_num, by first | rfl | go_num, by first | rfl | go_num⟩

set_option maxHeartbeats 2000000 in
set_option maxRecDepth 20000 in
theorem y_22z (s : ByteArray) (w : World) (hs : s.size ≤ 60) (r : RR) (p : Nat) (hlt : p < s.size) (v : Int) (S : Int) (hc : (s[p].toNat : Int) = 90 ∨ (s[p].toNat : Int) = 122) (H : Yat 23 w r (fun y0 y2 _ _ y7 y10 y11 _ _ _ y18 => y0 = .string s ∧ y2 = .pointer (some ⟨w.heap.size, 0, none⟩) ∧ y7 = .int .i64 (v) ∧ y10 = .int .u8 (s[p].toNat : Int) ∧ y11 = .int .i64 ((p : Int) + 1) ∧ y18 = .int .i64 (S))) : Yat 22 w r (fun y0 y2 _ _ y7 y10 y11 _ _ _ y18 => y0 = .string s ∧ y2 = .pointer (some ⟨w.heap.size, 0, none⟩) ∧ y7 = .int .i64 (v) ∧ y10 = .int .u8 (s[p].toNat : Int) ∧ y11 = .int .i64 ((p : Int) + 1) ∧ y18 = .int .i64 (S)) := by
  obtain ⟨c, hc, H⟩ := H
  refine ⟨_, rfl, ?_⟩
  unfold YH
  intros
  rename_i wc hR nS
  obtain ⟨rfl, rfl, rfl, rfl, rfl, rfl⟩ := hR
  refine wp_stop (fun a w' => Code.wp Tryd.prog c (bodyPost Tryd.prog Tryd.f11 (RQ w r)) a w') (fun a w h => wp_code hc rfl h) ?_
  clear hc
  intro K Q' hK
  have n43 : ((s[p].toNat : Int) == 43) = false := by rw [beq_eq_false_iff_ne]; omega
  have n45 : ((s[p].toNat : Int) == 45) = false := by rw [beq_eq_false_iff_ne]; omega
  clear hc
  go_wp2_with (fail)
  refine Met.intro ?_; unfold YH at H; apply H; all_goals first | exact nS | exact ⟨by first | rfl | go_num, by first | rfl | go_num, by first | rfl | go_num, by first | rfl | go_num, by first | rfl | go_num, by first | rfl | go_num⟩

set_option maxHeartbeats 2000000 in
set_option maxRecDepth 20000 in
theorem y_22b (s : ByteArray) (w : World) (hs : s.size ≤ 60) (p : Nat) (hlt : p < s.size) (v : Int) (S : Int) (hc : (s[p].toNat : Int) = 43 ∨ (s[p].toNat : Int) = 45) (tz : Int) (hz : Tells 34 #[.string s, .int .i64 ((p : Int) + 1)] (.int .i64 tz)) (g : 23 < tz) : Yat 22 w (0, 0, (p : Int) + 1, 4) (fun y0 y2 _ _ y7 y10 y11 _ _ _ y18 => y0 = .string s ∧ y2 = .pointer (some ⟨w.heap.size, 0, none⟩) ∧ y7 = .int .i64 (v) ∧ y10 = .int .u8 (s[p].toNat : Int) ∧ y11 = .int .i64 ((p : Int) + 1) ∧ y18 = .int .i64 (S)) := by
  refine ⟨_, rfl, ?_⟩
  unfold YH
  intros
  rename_i wc hR nS
  obtain ⟨rfl, rfl, rfl, rfl, rfl, rfl⟩ := hR
  have Hz := Lib.hid (hz.st w)
  clear hz
  have hb : ((s[p].toNat : Int) == 43) = true ∨ (((s[p].toNat : Int) == 43) = false ∧ ((s[p].toNat : Int) == 45) = true) := by simp only [beq_iff_eq, beq_eq_false_iff_ne]; omega
  clear hc
  rcases hb with hb | ⟨hb1, hb2⟩
  all_goals
    go_wp2_with (first
      | (go_at_call 34; with_reducible refine Calls.mono (Hz.out _ (by assumption)) ?_; rintro e w' ⟨rfl, nS, c0, c1, f0, f1⟩))
    all_goals refine bodyPost_ret (v := .tuple #[.agg #[.int .i64 (0), .int .i64 (0)], .int .i64 ((p : Int) + 1), .int .i64 4]) (by simp [results, Tryd.results11, go_sem, set2_c0 nS.2, set2_c1 nS.2]) rfl ⟨rfl, nS.fin _ _⟩

set_option maxHeartbeats 2000000 in
set_option maxRecDepth 20000 in
theorem y_22c (s : ByteArray) (w : World) (hs : s.size ≤ 60) (p : Nat) (hlt : p < s.size) (v : Int) (S : Int) (hc : (s[p].toNat : Int) = 43 ∨ (s[p].toNat : Int) = 45) (tz : Int) (hz : Tells 34 #[.string s, .int .i64 ((p : Int) + 1)] (.int .i64 tz)) (tz3 : Int) (hz3 : Tells 34 #[.string s, .int .i64 ((p : Int) + 4)] (.int .i64 tz3)) (g : tz ≤ 23) (g2 : 59 < tz3) : Yat 22 w (0, 0, (p : Int) + 4, 4) (fun y0 y2 _ _ y7 y10 y11 _ _ _ y18 => y0 = .string s ∧ y2 = .pointer (some ⟨w.heap.size, 0, none⟩) ∧ y7 = .int .i64 (v) ∧ y10 = .int .u8 (s[p].toNat : Int) ∧ y11 = .int .i64 ((p : Int) + 1) ∧ y18 = .int .i64 (S)) := by
  refine ⟨_, rfl, ?_⟩
  unfold YH
  intros
  rename_i wc hR nS
  obtain ⟨rfl, rfl, rfl, rfl, rfl, rfl⟩ := hR
  have Hz := Lib.hid (hz.st w)
  clear hz
  have Hz3 := Lib.hid (hz3.st w)
  clear hz3
  have hb : ((s[p].toNat : Int) == 43) = true ∨ (((s[p].toNat : Int) == 43) = false ∧ ((s[p].toNat : Int) == 45) = true) := by simp only [beq_iff_eq, beq_eq_false_iff_ne]; omega
  clear hc
  have x4 : IntKind.i64.wrap ((p : Int) + 1 + 3) = (p : Int) + 4 := by rw [IntWalk.i64_in _ (by omega)]; omega
  rcases hb with hb | ⟨hb1, hb2⟩
  all_goals
    go_wp2_with (first
      | (go_at_call 34; with_reducible refine Calls.mono (Hz3.out _ (by assumption)) ?_; rintro e w' ⟨rfl, nS, c0, c1, f0, f1⟩)
      | (go_at_call 34; with_reducible refine Calls.mono (Hz.out _ (by assumption)) ?_; rintro e w' ⟨rfl, nS, c0, c1, f0, f1⟩))
    all_goals refine bodyPost_ret (v := .tuple #[.agg #[.int .i64 (0), .int .i64 (0)], .int .i64 ((p : Int) + 4), .int .i64 4]) (by simp [results, Tryd.results11, go_sem, set2_c0 nS.2, set2_c1 nS.2]) rfl ⟨rfl, nS.fin _ _⟩

set_option maxHeartbeats 2000000 in
set_option maxRecDepth 20000 in
theorem y_22p43 (s : ByteArray) (w : World) (hs : s.size ≤ 60) (r : RR) (p : Nat) (hlt : p < s.size) (v : Int) (S S2 : Int) (bS : -2000000000000 ≤ S ∧ S ≤ 2000000000000) (hc : (s[p].toNat : Int) = 43) (tz : Int) (hz : Tells 34 #[.string s, .int .i64 ((p : Int) + 1)] (.int .i64 tz)) (tz3 : Int) (hz3 : Tells 34 #[.string s, .int .i64 ((p : Int) + 4)] (.int .i64 tz3)) (bz : 0 ≤ tz ∧ tz ≤ 99) (bz3 : 0 ≤ tz3 ∧ tz3 ≤ 99) (g : tz ≤ 23) (g2 : tz3 ≤ 59) (h2 : S2 = S - (3600 * tz + 60 * tz3)) (H : Yat 23 w r (fun y0 y2 _ _ y7 y10 y11 _ _ _ y18 => y0 = .string s ∧ y2 = .pointer (some ⟨w.heap.size, 0, none⟩) ∧ y7 = .int .i64 (v) ∧ y10 = .int .u8 (s[p].toNat : Int) ∧ y11 = .int .i64 ((p : Int) + 1) ∧ y18 = .int .i64 (S2))) : Yat 22 w r (fun y0 y2 _ _ y7 y10 y11 _ _ _ y18 => y0 = .string s ∧ y2 = .pointer (some ⟨w.heap.size, 0, none⟩) ∧ y7 = .int .i64 (v) ∧ y10 = .int .u8 (s[p].toNat : Int) ∧ y11 = .int .i64 ((p : Int) + 1) ∧ y18 = .int .i64 (S)) := by
  obtain ⟨c, hc, H⟩ := H
  refine ⟨_, rfl, ?_⟩
  unfold YH
  intros
  rename_i wc hR nS
  obtain ⟨rfl, rfl, rfl, rfl, rfl, rfl⟩ := hR
  refine wp_stop (fun a w' => Code.wp Tryd.prog c (bodyPost Tryd.prog Tryd.f11 (RQ w r)) a w') (fun a w h => wp_code hc rfl h) ?_
  clear hc
  intro K Q' hK
  have Hz := Lib.hid (hz.st w)
  clear hz
  have Hz3 := Lib.hid (hz3.st w)
  clear hz3
  have x4 : IntKind.i64.wrap ((p : Int) + 1 + 3) = (p : Int) + 4 := by rw [IntWalk.i64_in _ (by omega)]; omega
  have n43 : ((s[p].toNat : Int) == 43) = true := by rw [beq_iff_eq]; omega
  have w0 : IntKind.i64.wrap (3600 * tz) = 3600 * tz := IntWalk.i64_in _ (by omega)
  have w1 : IntKind.i64.wrap (60 * tz3) = 60 * tz3 := IntWalk.i64_in _ (by omega)
  have w2 : IntKind.i64.wrap (3600 * tz + 60 * tz3) = 3600 * tz + 60 * tz3 := IntWalk.i64_in _ (by omega)
  have w3 : IntKind.i64.wrap (S - (3600 * tz + 60 * tz3)) = S2 := by rw [IntWalk.i64_in _ (by omega)]; omega
  clear hc
  go_wp2_with (first
    | (go_at_call 34; with_reducible refine Calls.mono (Hz3.out _ (by assumption)) ?_; rintro e w' ⟨rfl, nS, c0, c1, f0, f1⟩)
    | (go_at_call 34; with_reducible refine Calls.mono (Hz.out _ (by assumption)) ?_; rintro e w' ⟨rfl, nS, c0, c1, f0, f1⟩))
  refine Met.intro ?_; unfold YH at H; apply H; all_goals first | exact (by assumption) | exact ⟨by first | rfl | go_num, by first | rfl | go_num, by first | rfl | go_num, by first | rfl | go_num, by first | rfl | go_num, by first | rfl | go_num⟩

set_option maxHeartbeats 2000000 in
set_option maxRecDepth 20000 in
theorem y_22p45 (s : ByteArray) (w : World) (hs : s.size ≤ 60) (r : RR) (p : Nat) (hlt : p < s.size) (v : Int) (S S2 : Int) (bS : -2000000000000 ≤ S ∧ S ≤ 2000000000000) (hc : (s[p].toNat : Int) = 45) (tz : Int) (hz : Tells 34 #[.string s, .int .i64 ((p : Int) + 1)] (.int .i64 tz)) (tz3 : Int) (hz3 : Tells 34 #[.string s, .int .i64 ((p : Int) + 4)] (.int .i64 tz3)) (bz : 0 ≤ tz ∧ tz ≤ 99) (bz3 : 0 ≤ tz3 ∧ tz3 ≤ 99) (g : tz ≤ 23) (g2 : tz3 ≤ 59) (h2 : S2 = S + (3600 * tz + 60 * tz3)) (H : Yat 23 w r (fun y0 y2 _ _ y7 y10 y11 _ _ _ y18 => y0 = .string s ∧ y2 = .pointer (some ⟨w.heap.size, 0, none⟩) ∧ y7 = .int .i64 (v) ∧ y10 = .int .u8 (s[p].toNat : Int) ∧ y11 = .int .i64 ((p : Int) + 1) ∧ y18 = .int .i64 (S2))) : Yat 22 w r (fun y0 y2 _ _ y7 y10 y11 _ _ _ y18 => y0 = .string s ∧ y2 = .pointer (some ⟨w.heap.size, 0, none⟩) ∧ y7 = .int .i64 (v) ∧ y10 = .int .u8 (s[p].toNat : Int) ∧ y11 = .int .i64 ((p : Int) + 1) ∧ y18 = .int .i64 (S)) := by
  obtain ⟨c, hc, H⟩ := H
  refine ⟨_, rfl, ?_⟩
  unfold YH
  intros
  rename_i wc hR nS
  obtain ⟨rfl, rfl, rfl, rfl, rfl, rfl⟩ := hR
  refine wp_stop (fun a w' => Code.wp Tryd.prog c (bodyPost Tryd.prog Tryd.f11 (RQ w r)) a w') (fun a w h => wp_code hc rfl h) ?_
  clear hc
  intro K Q' hK
  have Hz := Lib.hid (hz.st w)
  clear hz
  have Hz3 := Lib.hid (hz3.st w)
  clear hz3
  have x4 : IntKind.i64.wrap ((p : Int) + 1 + 3) = (p : Int) + 4 := by rw [IntWalk.i64_in _ (by omega)]; omega
  have n43 : ((s[p].toNat : Int) == 43) = false := by rw [beq_eq_false_iff_ne]; omega
  have n45 : ((s[p].toNat : Int) == 45) = true := by rw [beq_iff_eq]; omega
  have w0 : IntKind.i64.wrap (3600 * tz) = 3600 * tz := IntWalk.i64_in _ (by omega)
  have w1 : IntKind.i64.wrap (60 * tz3) = 60 * tz3 := IntWalk.i64_in _ (by omega)
  have w2 : IntKind.i64.wrap (3600 * tz + 60 * tz3) = 3600 * tz + 60 * tz3 := IntWalk.i64_in _ (by omega)
  have w3 : IntKind.i64.wrap (S + (3600 * tz + 60 * tz3)) = S2 := by rw [IntWalk.i64_in _ (by omega)]; omega
  clear hc
  go_wp2_with (first
    | (go_at_call 34; with_reducible refine Calls.mono (Hz3.out _ (by assumption)) ?_; rintro e w' ⟨rfl, nS, c0, c1, f0, f1⟩)
    | (go_at_call 34; with_reducible refine Calls.mono (Hz.out _ (by assumption)) ?_; rintro e w' ⟨rfl, nS, c0, c1, f0, f1⟩))
  refine Met.intro ?_; unfold YH at H; apply H; all_goals first | exact (by assumption) | exact ⟨by first | rfl | go_num, by first | rfl | go_num, by first | rfl | go_num, by first | rfl | go_num, by first | rfl | go_num, by first | rfl | go_num⟩

set_option maxHeartbeats 2000000 in
set_option maxRecDepth 20000 in
theorem y_23t (s : ByteArray) (w : World) (hs : s.size ≤ 60) (p : Nat) (hlt : p < s.size) (v : Int) (S : Int) (hG : Tells 14 #[.agg #[.int .i64 S, .int .i64 v]] (.bool true)) : Yat 23 w (S, v, 0, 0) (fun y0 y2 _ _ y7 y10 y11 _ _ _ y18 => y0 = .string s ∧ y2 = .pointer (some ⟨w.heap.size, 0, none⟩) ∧ y7 = .int .i64 (v) ∧ y10 = .int .u8 (s[p].toNat : Int) ∧ y11 = .int .i64 ((p : Int) + 1) ∧ y18 = .int .i64 (S)) := by
  refine ⟨_, rfl, ?_⟩
  unfold YH
  intros
  rename_i wc hR nS
  obtain ⟨rfl, rfl, rfl, rfl, rfl, rfl⟩ := hR
  have HG := Lib.hid (hG.new w (.int .i64 S) (.int .i64 v))
  clear hG
  go_wp2_with (first
    | (go_at_call 14; with_reducible refine Calls.mono (HG.out _ (by assumption)) ?_; rintro e w' ⟨rfl, ⟨nS, c0, c1, f0, f1⟩, e0, e1⟩))
  all_goals refine bodyPost_ret (v := .tuple #[.agg #[.int .i64 (S), .int .i64 (v)], .int .i64 (0), .int .i64 0]) (by simp [results, Tryd.results11, go_sem, set2_c0 nS.2, set2_c1 nS.2]) rfl ⟨rfl, nS.fin _ _⟩

set_option maxHeartbeats 2000000 in
set_option maxRecDepth 20000 in
theorem y_23f (s : ByteArray) (w : World) (hs : s.size ≤ 60) (p : Nat) (hlt : p < s.size) (v : Int) (S : Int) (hG : Tells 14 #[.agg #[.int .i64 S, .int .i64 v]] (.bool false)) : Yat 23 w (0, 0, 0, 4) (fun y0 y2 _ _ y7 y10 y11 _ _ _ y18 => y0 = .string s ∧ y2 = .pointer (some ⟨w.heap.size, 0, none⟩) ∧ y7 = .int .i64 (v) ∧ y10 = .int .u8 (s[p].toNat : Int) ∧ y11 = .int .i64 ((p : Int) + 1) ∧ y18 = .int .i64 (S)) := by
  refine ⟨_, rfl, ?_⟩
  unfold YH
  intros
  rename_i wc hR nS
  obtain ⟨rfl, rfl, rfl, rfl, rfl, rfl⟩ := hR
  have HG := Lib.hid (hG.new w (.int .i64 S) (.int .i64 v))
  clear hG
  go_wp2_with (first
    | (go_at_call 14; with_reducible refine Calls.mono (HG.out _ (by assumption)) ?_; rintro e w' ⟨rfl, ⟨nS, c0, c1, f0, f1⟩, e0, e1⟩))
  all_goals refine bodyPost_ret (v := .tuple #[.agg #[.int .i64 (0), .int .i64 (0)], .int .i64 (0), .int .i64 4]) (by simp [results, Tryd.results11, go_sem, set2_c0 nS.2, set2_c1 nS.2]) rfl ⟨rfl, nS.fin _ _⟩
end Go.Proofs.YtlgdenihddkjaaaDoor
