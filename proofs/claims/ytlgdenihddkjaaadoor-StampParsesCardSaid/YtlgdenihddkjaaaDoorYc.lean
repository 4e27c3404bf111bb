import Derived.Test.YtlgdenihddkjaaaDoorXd
import Derived.Deep.CutRange
namespace Go.Proofs.YtlgdenihddkjaaaDoor
set_option linter.unusedSimpArgs false
set_option linter.unusedVariables false
open Go.RowKit Go.Lib
set_option maxHeartbeats 2000000 in
set_option maxRecDepth 20000 in
theorem y_6 (s : ByteArray) (w : World) (hs : s.size ≤ 60) (r : RR) (p : Nat) (hlt : p < s.size) (v : Int)  (H : Yat 7 w r (fun y0 y2 _ y6 y7 _ _ _ _ _ _ => y0 = .string s ∧ y2 = .pointer (some ⟨w.heap.size, 0, none⟩) ∧ y6 = .int .i64 (p) ∧ y7 = .int .i64 (v))) : Yat 6 w r (fun y0 y2 _ y6 y7 _ _ _ _ _ _ => y0 = .string s ∧ y2 = .pointer (some ⟨w.heap.size, 0, none⟩) ∧ y6 = .int .i64 (p) ∧ y7 = .int .i64 (v)) := by
  obtain ⟨c, hc, H⟩ := H
  refine ⟨_, rfl, ?_⟩
  unfold YH
  intros
  rename_i wc hR nS
  obtain ⟨rfl, rfl, rfl, rfl⟩ := hR
  refine wp_stop (fun a w' => Code.wp Tryd.prog c (bodyPost Tryd.prog Tryd.f11 (RQ w r)) a w') (fun a w h => wp_code hc rfl h) ?_
  clear hc
  intro K Q' hK
  have hlt' : (p : Int) < (s.size : Int) := by omega
  have hle : ¬ s.size ≤ p := by omega
  go_wp2_with (fail)
  refine Met.intro ?_; unfold YH at H; apply H; all_goals first | exact nS | exact ⟨by first | rfl | go_num, by first | rfl | go_num, by first | rfl | go_num, by first | rfl | go_num⟩

set_option maxHeartbeats 2000000 in
set_option maxRecDepth 20000 in
theorem y_6e (s : ByteArray) (w : World) (hs : s.size ≤ 60) (p : Nat) (hp : p = s.size) (v : Int) : Yat 6 w (0, 0, (s.size : Int), 2) (fun y0 y2 _ y6 y7 _ _ _ _ _ _ => y0 = .string s ∧ y2 = .pointer (some ⟨w.heap.size, 0, none⟩) ∧ y6 = .int .i64 (p) ∧ y7 = .int .i64 (v)) := by
  refine ⟨_, rfl, ?_⟩
  unfold YH
  intros
  rename_i wc hR nS
  obtain ⟨rfl, rfl, rfl, rfl⟩ := hR
  have hle : ¬ (p : Int) < (s.size : Int) := by omega
  have hle' : s.size ≤ p := by omega
  obtain ⟨nS, c0, c1, f0, f1⟩ := nS.sc
  go_wp2
  all_goals refine bodyPost_ret (v := .tuple #[.agg #[.int .i64 (0), .int .i64 (0)], .int .i64 ((s.size : Int)), .int .i64 2]) (by simp [results, Tryd.results11, go_sem, set2_c0 nS.2, set2_c1 nS.2]) rfl ⟨rfl, nS.fin _ _⟩

set_option maxHeartbeats 2000000 in
set_option maxRecDepth 20000 in
theorem y_7 (s : ByteArray) (w : World) (hs : s.size ≤ 60) (r : RR) (p : Nat) (hlt : p < s.size) (v : Int)  (H : Yat 8 w r (fun y0 y2 _ y6 y7 y10 _ _ _ _ _ => y0 = .string s ∧ y2 = .pointer (some ⟨w.heap.size, 0, none⟩) ∧ y6 = .int .i64 (p) ∧ y7 = .int .i64 (v) ∧ y10 = .int .u8 (s[p].toNat : Int))) : Yat 7 w r (fun y0 y2 _ y6 y7 _ _ _ _ _ _ => y0 = .string s ∧ y2 = .pointer (some ⟨w.heap.size, 0, none⟩) ∧ y6 = .int .i64 (p) ∧ y7 = .int .i64 (v)) := by
  obtain ⟨c, hc, H⟩ := H
  refine ⟨_, rfl, ?_⟩
  unfold YH
  intros
  rename_i wc hR nS
  obtain ⟨rfl, rfl, rfl, rfl⟩ := hR
  refine wp_stop (fun a w' => Code.wp Tryd.prog c (bodyPost Tryd.prog Tryd.f11 (RQ w r)) a w') (fun a w h => wp_code hc rfl h) ?_
  clear hc
  intro K Q' hK
  have hlt' : (p : Int) < (s.size : Int) := by omega
  go_wp2_with (fail)
  refine Met.intro ?_; unfold YH at H; apply H; all_goals first | exact nS | exact ⟨by first | rfl | go_num, by first | rfl | go_num, by first | rfl | go_num, by first | rfl | go_num, by first | rfl | go_num⟩

set_option maxHeartbeats 2000000 in
set_option maxRecDepth 20000 in
theorem y_8 (s : ByteArray) (w : World) (hs : s.size ≤ 60) (r : RR) (p : Nat) (hlt : p < s.size) (v : Int)  (H : Yat 9 w r (fun y0 y2 _ y6 y7 y10 _ _ _ _ _ => y0 = .string s ∧ y2 = .pointer (some ⟨w.heap.size, 0, none⟩) ∧ y6 = .int .i64 ((p : Int) + 1) ∧ y7 = .int .i64 (v) ∧ y10 = .int .u8 (s[p].toNat : Int))) : Yat 8 w r (fun y0 y2 _ y6 y7 y10 _ _ _ _ _ => y0 = .string s ∧ y2 = .pointer (some ⟨w.heap.size, 0, none⟩) ∧ y6 = .int .i64 (p) ∧ y7 = .int .i64 (v) ∧ y10 = .int .u8 (s[p].toNat : Int)) := by
  obtain ⟨c, hc, H⟩ := H
  refine ⟨_, rfl, ?_⟩
  unfold YH
  intros
  rename_i wc hR nS
  obtain ⟨rfl, rfl, rfl, rfl, rfl⟩ := hR
  refine wp_stop (fun a w' => Code.wp Tryd.prog c (bodyPost Tryd.prog Tryd.f11 (RQ w r)) a w') (fun a w h => wp_code hc rfl h) ?_
  clear hc
  intro K Q' hK
  have e1 : IntKind.i64.wrap ((p : Int) + 1) = (p : Int) + 1 := IntWalk.i64_in _ (by omega)
  go_wp2_with (fail)
  refine Met.intro ?_; unfold YH at H; apply H; all_goals first | exact nS | exact ⟨by first | rfl | go_num, by first | rfl | go_num, by first | rfl | go_num, by first | rfl | go_num, by first | rfl | go_num⟩

set_option maxHeartbeats 2000000 in
set_option maxRecDepth 20000 in
theorem y_9 (s : ByteArray) (w : World) (hs : s.size ≤ 60) (r : RR) (p : Nat) (hlt : p < s.size) (v : Int)  (H : Yat 10 w r (fun y0 y2 _ y6 y7 y10 y11 _ _ _ _ => y0 = .string s ∧ y2 = .pointer (some ⟨w.heap.size, 0, none⟩) ∧ y6 = .int .i64 ((p : Int) + 1) ∧ y7 = .int .i64 (v) ∧ y10 = .int .u8 (s[p].toNat : Int) ∧ y11 = .int .i64 ((p : Int) + 1))) : Yat 9 w r (fun y0 y2 _ y6 y7 y10 _ _ _ _ _ => y0 = .string s ∧ y2 = .pointer (some ⟨w.heap.size, 0, none⟩) ∧ y6 = .int .i64 ((p : Int) + 1) ∧ y7 = .int .i64 (v) ∧ y10 = .int .u8 (s[p].toNat : Int)) := by
  obtain ⟨c, hc, H⟩ := H
  refine ⟨_, rfl, ?_⟩
  unfold YH
  intros
  rename_i wc hR nS
  obtain ⟨rfl, rfl, rfl, rfl, rfl⟩ := hR
  refine wp_stop (fun a w' => Code.wp Tryd.prog c (bodyPost Tryd.prog Tryd.f11 (RQ w r)) a w') (fun a w h => wp_code hc rfl h) ?_
  clear hc
  intro K Q' hK
  go_wp2_with (fail)
  refine Met.intro ?_; unfold YH at H; apply H; all_goals first | exact nS | exact ⟨by first | rfl | go_num, by first | rfl | go_num, by first | rfl | go_num, by first | rfl | go_num, by first | rfl | go_num, by first | rfl | go_num⟩

set_option maxHeartbeats 2000000 in
set_option maxRecDepth 20000 in
theorem y_10 (s : ByteArray) (w : World) (hs : s.size ≤ 60) (r : RR) (p : Nat) (hlt : p < s.size) (v : Int) (hc : (s[p].toNat : Int) = 90 ∨ (s[p].toNat : Int) = 122 ∨ (s[p].toNat : Int) = 43 ∨ (s[p].toNat : Int) = 45) (H : Yat 11 w r (fun y0 y2 _ y6 y7 y10 y11 _ _ _ _ => y0 = .string s ∧ y2 = .pointer (some ⟨w.heap.size, 0, none⟩) ∧ y6 = .int .i64 ((p : Int) + 1) ∧ y7 = .int .i64 (v) ∧ y10 = .int .u8 (s[p].toNat : Int) ∧ y11 = .int .i64 ((p : Int) + 1))) : Yat 10 w r (fun y0 y2 _ y6 y7 y10 y11 _ _ _ _ => y0 = .string s ∧ y2 = .pointer (some ⟨w.heap.size, 0, none⟩) ∧ y6 = .int .i64 ((p : Int) + 1) ∧ y7 = .int .i64 (v) ∧ y10 = .int .u8 (s[p].toNat : Int) ∧ y11 = .int .i64 ((p : Int) + 1)) := by
  obtain ⟨c, hc, H⟩ := H
  refine ⟨_, rfl, ?_⟩
  unfold YH
  intros
  rename_i wc hR nS
  obtain ⟨rfl, rfl, rfl, rfl, rfl, rfl⟩ := hR
  refine wp_stop (fun a w' => Code.wp Tryd.prog c (bodyPost Tryd.prog Tryd.f11 (RQ w r)) a w') (fun a w h => wp_code hc rfl h) ?_
  clear hc
  intro K Q' hK
  rcases hc with hc | hc | hc | hc
  · have n122 : ¬ (s[p].toNat : Int) = 122 := by omega
    have n43 : ¬ (s[p].toNat : Int) = 43 := by omega
    have n45 : ¬ (s[p].toNat : Int) = 45 := by omega
    go_wp2_with (fail)
    refine Met.intro ?_; unfold YH at H; apply H; all_goals first | exact nS | exact ⟨by first | rfl | go_num, by first | rfl | go_num, by first | rfl | go_num, by first | rfl | go_num, by first | rfl | go_num, by first | rfl | go_num⟩
  · have n90 : ¬ (s[p].toNat : Int) = 90 := by omega
    have n43 : ¬ (s[p].toNat : Int) = 43 := by omega
    have n45 : ¬ (s[p].toNat : Int) = 45 := by omega
    go_wp2_with (fail)
    refine Met.intro ?_; unfold YH at H; apply H; all_goals first | exact nS | exact ⟨by first | rfl | go_num, by first | rfl | go_num, by first | rfl | go_num, by first | rfl | go_num, by first | rfl | go_num, by first | rfl | go_num⟩
  · have n90 : ¬ (s[p].toNat : Int) = 90 := by omega
    have n122 : ¬ (s[p].toNat : Int) = 122 := by omega
    have n45 : ¬ (s[p].toNat : Int) = 45 := by omega
    go_wp2_with (fail)
    refine Met.intro ?_; unfold YH at H; apply H; all_goals first | exact nS | exact ⟨by first | rfl | go_num, by first | rfl | go_num, by first | rfl | go_num, by first | rfl | go_num, by first | rfl | go_num, by first | rfl | go_num⟩
  · have n90 : ¬ (s[p].toNat : Int) = 90 := by omega
    have n122 : ¬ (s[p].toNat : Int) = 122 := by omega
    have n43 : ¬ (s[p].toNat : Int) = 43 := by omega
    go_wp2_with (fail)
    refine Met.intro ?_; unfold YH at H; apply H; all_goals first | exact nS | exact ⟨by first | rfl | go_num, by first | rfl | go_num, by first | rfl | go_num, by first | rfl | go_num, by first | rfl | go_num, by first | rfl | go_num⟩

set_option maxHeartbeats 2000000 in
set_option maxRecDepth 20000 in
theorem y_10b (s : ByteArray) (w : World) (hs : s.size ≤ 60) (p : Nat) (hlt : p < s.size) (v : Int) (n90 : ¬ (s[p].toNat : Int) = 90) (n122 : ¬ (s[p].toNat : Int) = 122) (n43 : ¬ (s[p].toNat : Int) = 43) (n45 : ¬ (s[p].toNat : Int) = 45) : Yat 10 w (0, 0, (p : Int), 1) (fun y0 y2 _ y6 y7 y10 y11 _ _ _ _ => y0 = .string s ∧ y2 = .pointer (some ⟨w.heap.size, 0, none⟩) ∧ y6 = .int .i64 ((p : Int) + 1) ∧ y7 = .int .i64 (v) ∧ y10 = .int .u8 (s[p].toNat : Int) ∧ y11 = .int .i64 ((p : Int) + 1)) := by
  refine ⟨_, rfl, ?_⟩
  unfold YH
  intros
  rename_i wc hR nS
  obtain ⟨rfl, rfl, rfl, rfl, rfl, rfl⟩ := hR
  have e1 : IntKind.i64.wrap ((p : Int) + 1) = (p : Int) + 1 := IntWalk.i64_in _ (by omega)
  have e2 : IntKind.i64.wrap ((p : Int) + 1 - 1) = (p : Int) := by rw [IntWalk.i64_in _ (by omega)]; omega
  have e3 : IntKind.i64.wrap (p : Int) = (p : Int) := IntWalk.i64_in _ (by omega)
  have m90 : ((s[p].toNat : Int) != 90) = true := by simpa using n90
  have m122 : ((s[p].toNat : Int) != 122) = true := by simpa using n122
  have m43 : ((s[p].toNat : Int) != 43) = true := by simpa using n43
  have m45 : ((s[p].toNat : Int) != 45) = true := by simpa using n45
  obtain ⟨nS, c0, c1, f0, f1⟩ := nS.sc
  go_wp2
  all_goals refine bodyPost_ret (v := .tuple #[.agg #[.int .i64 (0), .int .i64 (0)], .int .i64 ((p : Int)), .int .i64 1]) (by simp [results, Tryd.results11, go_sem, set2_c0 nS.2, set2_c1 nS.2]) rfl ⟨rfl, nS.fin _ _⟩

set_option maxHeartbeats 2000000 in
set_option maxRecDepth 20000 in
theorem y_11z (s : ByteArray) (w : World) (hs : s.size ≤ 60) (r : RR) (p : Nat) (hlt : p < s.size) (v : Int) (q : Nat) (hq : q = p + 1) (hc : (s[p].toNat : Int) = 90 ∨ (s[p].toNat : Int) = 122) (H : Yat 12 w r (fun y0 y2 _ y6 y7 y10 y11 _ _ _ _ => y0 = .string s ∧ y2 = .pointer (some ⟨w.heap.size, 0, none⟩) ∧ y6 = .int .i64 (q) ∧ y7 = .int .i64 (v) ∧ y10 = .int .u8 (s[p].toNat : Int) ∧ y11 = .int .i64 ((p : Int) + 1))) : Yat 11 w r (fun y0 y2 _ y6 y7 y10 y11 _ _ _ _ => y0 = .string s ∧ y2 = .pointer (some ⟨w.heap.size, 0, none⟩) ∧ y6 = .int .i64 ((p : Int) + 1) ∧ y7 = .int .i64 (v) ∧ y10 = .int .u8 (s[p].toNat : Int) ∧ y11 = .int .i64 ((p : Int) + 1)) := by
  obtain ⟨c, hc, H⟩ := H
  refine ⟨_, rfl, ?_⟩
  unfold YH
  intros
  rename_i wc hR nS
  obtain ⟨rfl, rfl, rfl, rfl, rfl, rfl⟩ := hR
  subst hq
  refine wp_stop (fun a w' => Code.wp Tryd.prog c (bodyPost Tryd.prog Tryd.f11 (RQ w r)) a w') (fun a w h => wp_code hc rfl h) ?_
  clear hc
  intro K Q' hK
  have n43 : ((s[p].toNat : Int) == 43) = false := by rw [beq_eq_false_iff_ne]; omega
  have n45 : ((s[p].toNat : Int) == 45) = false := by rw [beq_eq_false_iff_ne]; omega
  clear hc
  go_wp2_with (fail)
  refine Met.intro ?_; unfold YH at H; apply H; all_goals first | exact nS | exact ⟨by first | rfl | go_num, by first | rfl | go_num, by first | rfl | go_num, by first | rfl | go_num, by first | rfl | go_num, by first | rfl | go_num⟩

set_option maxHeartbeats 2000000 in
set_option maxRecDepth 20000 in
theorem y_11p (s : ByteArray) (w : World) (hs : s.size ≤ 60) (r : RR) (p : Nat) (hlt : p < s.size) (v : Int) (q0 : Nat) (hq0 : q0 = p + 6) (hq1 : q0 ≤ s.size) (hc : (s[p].toNat : Int) = 43 ∨ (s[p].toNat : Int) = 45) (i : Nat) (hi : i ≤ 5) (hi2 : 5 ≤ i) (HFZ : Hid (∀ j, j < i → fitZ s (p + 1) j))  (H : Yat 12 w r (fun y0 y2 _ y6 y7 y10 y11 _ _ _ _ => y0 = .string s ∧ y2 = .pointer (some ⟨w.heap.size, 0, none⟩) ∧ y6 = .int .i64 (q0) ∧ y7 = .int .i64 (v) ∧ y10 = .int .u8 (s[p].toNat : Int) ∧ y11 = .int .i64 ((p : Int) + 1))) : Yat 11 w r (fun y0 y2 _ y6 y7 y10 y11 _ _ _ _ => y0 = .string s ∧ y2 = .pointer (some ⟨w.heap.size, 0, none⟩) ∧ y6 = .int .i64 ((p : Int) + 1) ∧ y7 = .int .i64 (v) ∧ y10 = .int .u8 (s[p].toNat : Int) ∧ y11 = .int .i64 ((p : Int) + 1)) := by
  obtain ⟨c, hc, H⟩ := H
  refine ⟨_, rfl, ?_⟩
  unfold YH
  intros
  rename_i wc hR nS
  obtain ⟨rfl, rfl, rfl, rfl, rfl, rfl⟩ := hR
  refine wp_stop (fun a w' => Code.wp Tryd.prog c (bodyPost Tryd.prog Tryd.f11 (RQ w r)) a w') (fun a w h => wp_code hc rfl h) ?_
  clear hc
  intro K Q' hK
  have hb : ((s[p].toNat : Int) == 43) = true ∨ (((s[p].toNat : Int) == 43) = false ∧ ((s[p].toNat : Int) == 45) = true) := by simp only [beq_iff_eq, beq_eq_false_iff_ne]; omega
  clear hc
  rcases hb with hb | ⟨hb1, hb2⟩
  all_goals
    go_wp2_with (fail)
    go_loopw [6, 12] (fun a n wz => ∃ jj q : Nat, jj ≤ i ∧ q ≤ p + 1 + jj ∧ p + 1 + jj ≤ q ∧ a = .int .i64 q ∧ n = .int .i64 jj ∧ St w wz) (fun _ n _ => 5 - (RowKit.intOf n).toNat)
    case atStart => exact ⟨0, p + 1, by omega, by omega, by omega, by go_num, rfl, nS⟩
    case round =>
      clear nS
      obtain ⟨jj, q, hjm, hq1, hq2, rfl, rfl, nS⟩ := hrel
      by_cases hjj : jj < i
      · have hq3 : q < s.size := by omega
        have hj5 : jj < 5 := by omega
        have HFj : Hid (fitS (patZ[jj].toNat : Int) (s[q].toNat : Int) = true) := (by have h := HFZ.out jj hjj hj5 (by omega); have e : p + 1 + jj = q := (by omega); subst e; exact h)
        go_wp2_with (fail)
        go_region_held3 (St w) (first | assumption | exact St.drew (by assumption)) (first
          | (go_at_call 33; have kS := ‹St w _›; refine Calls.mono (fits_st true _ _ _ _ HFj.out kS) ?_; rintro e w' ⟨rfl, nS⟩; clear kS))
        all_goals
          go_wp2_with (fail)
          go_roundw
          case rel => (try ((repeat apply Exists.intro); refine ⟨?_, rfl⟩)); exact ⟨jj + 1, q + 1, by omega, by omega, by omega, by go_num, by go_num, by assumption⟩
          case measure => simp [RowKit.intOf]; omega
      · obtain rfl : jj = i := by omega
        have hj5 : ¬ (jj : Int) < 5 := by omega
        go_wp2_with (fail)
        refine Met.intro ?_; unfold YH at H; apply H; all_goals first | exact (by assumption) | exact ⟨by first | rfl | go_num | (congr 1; omega), by first | rfl | go_num | (congr 1; omega), by first | rfl | go_num | (congr 1; omega), by first | rfl | go_num | (congr 1; omega), by first | rfl | go_num | (congr 1; omega), by first | rfl | go_num | (congr 1; omega)⟩

set_option maxHeartbeats 2000000 in
set_option maxRecDepth 20000 in
theorem y_11e (s : ByteArray) (w : World) (hs : s.size ≤ 60) (p : Nat) (hlt : p < s.size) (v : Int) (hc : (s[p].toNat : Int) = 43 ∨ (s[p].toNat : Int) = 45) (m : Nat) (hm : m < 5) (q0 : Nat) (hqx : q0 ≤ p + 1 + m) (hqy : p + 1 + m ≤ q0) (hq0 : q0 ≤ s.size) (HFZ : Hid (∀ j, j < m → fitZ s (p + 1) j)) (r : RR) (HO : Hid ((m < 5 ∧ q0 = s.size ∧ ((0, 0, (s.size : Int), 2) : RR) = r) ∨ (m < 5 ∧ q0 < s.size ∧ (∀ (h1 : m < patZ.size) (h2 : q0 < s.size), fitS (patZ[m].toNat : Int) (s[q0].toNat : Int) = false) ∧ ((0, 0, (q0 : Int), 1) : RR) = r))) : Yat 11 w r (fun y0 y2 _ y6 y7 y10 y11 _ _ _ _ => y0 = .string s ∧ y2 = .pointer (some ⟨w.heap.size, 0, none⟩) ∧ y6 = .int .i64 ((p : Int) + 1) ∧ y7 = .int .i64 (v) ∧ y10 = .int .u8 (s[p].toNat : Int) ∧ y11 = .int .i64 ((p : Int) + 1)) := by
  refine ⟨_, rfl, ?_⟩
  unfold YH
  intros
  rename_i wc hR nS
  obtain ⟨rfl, rfl, rfl, rfl, rfl, rfl⟩ := hR
  have hb : ((s[p].toNat : Int) == 43) = true ∨ (((s[p].toNat : Int) == 43) = false ∧ ((s[p].toNat : Int) == 45) = true) := by simp only [beq_iff_eq, beq_eq_false_iff_ne]; omega
  clear hc
  rcases hb with hb | ⟨hb1, hb2⟩
  all_goals
    go_wp2_with (fail)
    go_loopw [6, 12] (fun a n wz => ∃ jj q : Nat, jj ≤ m ∧ q ≤ p + 1 + jj ∧ p + 1 + jj ≤ q ∧ a = .int .i64 q ∧ n = .int .i64 jj ∧ St w wz) (fun _ n _ => 5 - (RowKit.intOf n).toNat)
    case atStart => exact ⟨0, p + 1, by omega, by omega, by omega, by go_num, rfl, nS⟩
    case round =>
      clear nS
      obtain ⟨jj, q, hjm, hq1, hq2, rfl, rfl, nS⟩ := hrel
      by_cases hjj : jj < m
      · have hq3 : q < s.size := by omega
        have hj5 : jj < 5 := by omega
        have HFj : Hid (fitS (patZ[jj].toNat : Int) (s[q].toNat : Int) = true) := (by have h := HFZ.out jj hjj hj5 (by omega); have e : p + 1 + jj = q := (by omega); subst e; exact h)
        go_wp2_with (fail)
        go_region_held3 (St w) (first | assumption | exact St.drew (by assumption)) (first
          | (go_at_call 33; have kS := ‹St w _›; refine Calls.mono (fits_st true _ _ _ _ HFj.out kS) ?_; rintro e w' ⟨rfl, nS⟩; clear kS))
        all_goals
          go_wp2_with (fail)
          go_roundw
          case rel => (try ((repeat apply Exists.intro); refine ⟨?_, rfl⟩)); exact ⟨jj + 1, q + 1, by omega, by omega, by omega, by go_num, by go_num, by assumption⟩
          case measure => simp [RowKit.intOf]; omega
      · obtain rfl : jj = m := by omega
        obtain rfl : q = q0 := by omega
        rcases HO.out with ⟨hm5, hend, rfl⟩ | ⟨hm5, hend, hn, rfl⟩
        · obtain ⟨nS, c0, c1, f0, f1⟩ := nS.sc
          have hend' : ¬ (q : Int) < (s.size : Int) := by omega
          have hend2 : s.size ≤ q := by omega
          have hj5 : (jj : Int) < 5 := by omega
          clear HO
          go_wp2
          all_goals refine bodyPost_ret (v := .tuple #[.agg #[.int .i64 (0), .int .i64 (0)], .int .i64 ((s.size : Int)), .int .i64 2]) (by simp [results, Tryd.results11, go_sem, set2_c0 nS.2, set2_c1 nS.2]) rfl ⟨rfl, nS.fin _ _⟩
        · have hq3 : q < s.size := by omega
          have hj5 : jj < 5 := by omega
          have HFn := Lib.hid (hn hj5 hq3)
          clear hn HO
          go_wp2
          go_region_held3 (St w) (first | assumption | exact St.drew (by assumption)) (first
            | (go_at_call 33; have kS := ‹St w _›; refine Calls.mono (fits_st false _ _ _ _ HFn.out kS) ?_; rintro e w' ⟨rfl, nS⟩; clear kS))
          all_goals
            have nS := ‹St w _›
            obtain ⟨nS, c0, c1, f0, f1⟩ := nS.sc
            go_wp2
            all_goals refine bodyPost_ret (v := .tuple #[.agg #[.int .i64 (0), .int .i64 (0)], .int .i64 ((q : Int)), .int .i64 1]) (by simp [results, Tryd.results11, go_sem, set2_c0 nS.2, set2_c1 nS.2]) rfl ⟨rfl, nS.fin _ _⟩

set_option maxHeartbeats 2000000 in
set_option maxRecDepth 20000 in
theorem y_12 (s : ByteArray) (w : World) (hs : s.size ≤ 60) (r : RR) (p : Nat) (hlt : p < s.size) (v : Int) (q : Nat) (hq : q = s.size) (H : Yat 13 w r (fun y0 y2 _ _ y7 y10 y11 _ _ _ _ => y0 = .string s ∧ y2 = .pointer (some ⟨w.heap.size, 0, none⟩) ∧ y7 = .int .i64 (v) ∧ y10 = .int .u8 (s[p].toNat : Int) ∧ y11 = .int .i64 ((p : Int) + 1))) : Yat 12 w r (fun y0 y2 _ y6 y7 y10 y11 _ _ _ _ => y0 = .string s ∧ y2 = .pointer (some ⟨w.heap.size, 0, none⟩) ∧ y6 = .int .i64 (q) ∧ y7 = .int .i64 (v) ∧ y10 = .int .u8 (s[p].toNat : Int) ∧ y11 = .int .i64 ((p : Int) + 1)) := by
  obtain ⟨c, hc, H⟩ := H
  refine ⟨_, rfl, ?_⟩
  unfold YH
  intros
  rename_i wc hR nS
  obtain ⟨rfl, rfl, rfl, rfl, rfl, rfl⟩ := hR
  refine wp_stop (fun a w' => Code.wp Tryd.prog c (bodyPost Tryd.prog Tryd.f11 (RQ w r)) a w') (fun a w h => wp_code hc rfl h) ?_
  clear hc
  intro K Q' hK
  have hq' : ¬ (q : Int) < (s.size : Int) := by omega
  go_wp2_with (fail)
  refine Met.intro ?_; unfold YH at H; apply H; all_goals first | exact nS | exact ⟨by first | rfl | go_num, by first | rfl | go_num, by first | rfl | go_num, by first | rfl | go_num, by first | rfl | go_num⟩

set_option maxHeartbeats 2000000 in
set_option maxRecDepth 20000 in
theorem y_12t (s : ByteArray) (w : World) (hs : s.size ≤ 60) (p : Nat) (hlt : p < s.size) (v : Int) (q : Nat) (hq : q < s.size) : Yat 12 w (0, 0, (q : Int), 1) (fun y0 y2 _ y6 y7 y10 y11 _ _ _ _ => y0 = .string s ∧ y2 = .pointer (some ⟨w.heap.size, 0, none⟩) ∧ y6 = .int .i64 (q) ∧ y7 = .int .i64 (v) ∧ y10 = .int .u8 (s[p].toNat : Int) ∧ y11 = .int .i64 ((p : Int) + 1)) := by
  refine ⟨_, rfl, ?_⟩
  unfold YH
  intros
  rename_i wc hR nS
  obtain ⟨rfl, rfl, rfl, rfl, rfl, rfl⟩ := hR
  have hq' : (q : Int) < (s.size : Int) := by omega
  obtain ⟨nS, c0, c1, f0, f1⟩ := nS.sc
  go_wp2
  all_goals refine bodyPost_ret (v := .tuple #[.agg #[.int .i64 (0), .int .i64 (0)], .int .i64 ((q : Int)), .int .i64 1]) (by simp [results, Tryd.results11, go_sem, set2_c0 nS.2, set2_c1 nS.2]) rfl ⟨rfl, nS.fin _ _⟩
end Go.Proofs.YtlgdenihddkjaaaDoor
