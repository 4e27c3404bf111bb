import Derived.Test.YtlgdenihddkjaaaDoorYa
import Derived.Deep.CutRange
namespace Go.Proofs.YtlgdenihddkjaaaDoor
set_option linter.unusedSimpArgs false
set_option linter.unusedVariables false
open Go.RowKit Go.Lib
set_option maxHeartbeats 2000000 in
set_option maxRecDepth 20000 in
theorem y_5e (s : ByteArray) (w : World) (hs : s.size ≤ 60) (r : RR) (hsz : s.size = 19) (p : Nat) (hp : p = 19) (v : Int) (hv : v = 0) (H : Yat 6 w r (fun y0 y2 _ y6 y7 _ _ _ _ _ _ => y0 = .string s ∧ y2 = .pointer (some ⟨w.heap.size, 0, none⟩) ∧ y6 = .int .i64 (p) ∧ y7 = .int .i64 (v))) : Yat 5 w r (fun y0 y2 _ y6 y7 _ _ _ _ _ _ => y0 = .string s ∧ y2 = .pointer (some ⟨w.heap.size, 0, none⟩) ∧ y6 = .int .i64 (19) ∧ y7 = .int .i64 (0)) := by
  obtain ⟨c, hc, H⟩ := H
  refine ⟨_, rfl, ?_⟩
  unfold YH
  intros
  rename_i wc hR nS
  obtain ⟨rfl, rfl, rfl, rfl⟩ := hR
  subst hp hv
  refine wp_stop (fun a w' => Code.wp Tryd.prog c (bodyPost Tryd.prog Tryd.f11 (RQ w r)) a w') (fun a w h => wp_code hc rfl h) ?_
  clear hc
  intro K Q' hK
  have h19 : ¬ (19 : Int) < (s.size : Int) := by omega
  go_wp2_with (fail)
  refine Met.intro ?_; unfold YH at H; apply H; all_goals first | exact nS | exact ⟨by first | rfl | go_num, by first | rfl | go_num, by first | rfl | go_num, by first | rfl | go_num⟩

set_option maxHeartbeats 2000000 in
set_option maxRecDepth 20000 in
theorem y_5n (s : ByteArray) (w : World) (hs : s.size ≤ 60) (r : RR) (hlt : 19 < s.size) (hno : ¬ (s[19].toNat : Int) = 46) (p : Nat) (hp : p = 19) (v : Int) (hv : v = 0) (H : Yat 6 w r (fun y0 y2 _ y6 y7 _ _ _ _ _ _ => y0 = .string s ∧ y2 = .pointer (some ⟨w.heap.size, 0, none⟩) ∧ y6 = .int .i64 (p) ∧ y7 = .int .i64 (v))) : Yat 5 w r (fun y0 y2 _ y6 y7 _ _ _ _ _ _ => y0 = .string s ∧ y2 = .pointer (some ⟨w.heap.size, 0, none⟩) ∧ y6 = .int .i64 (19) ∧ y7 = .int .i64 (0)) := by
  obtain ⟨c, hc, H⟩ := H
  refine ⟨_, rfl, ?_⟩
  unfold YH
  intros
  rename_i wc hR nS
  obtain ⟨rfl, rfl, rfl, rfl⟩ := hR
  subst hp hv
  refine wp_stop (fun a w' => Code.wp Tryd.prog c (bodyPost Tryd.prog Tryd.f11 (RQ w r)) a w') (fun a w h => wp_code hc rfl h) ?_
  clear hc
  intro K Q' hK
  have h19 : (19 : Int) < (s.size : Int) := by omega
  have n46 : ((s[19].toNat : Int) == 46) = false := by rw [beq_eq_false_iff_ne]; exact hno
  go_wp2_with (fail)
  refine Met.intro ?_; unfold YH at H; apply H; all_goals first | exact nS | exact ⟨by first | rfl | go_num, by first | rfl | go_num, by first | rfl | go_num, by first | rfl | go_num⟩

set_option maxHeartbeats 2000000 in
set_option maxRecDepth 20000 in
theorem y_5f (s : ByteArray) (w : World) (hs : s.size ≤ 60) (r : RR) (hlt : 19 < s.size) (h46 : (s[19].toNat : Int) = 46) (n : Nat) (d : Nat → Int) (hn1 : 1 ≤ n) (hn9 : n ≤ 9) (hd : ∀ j, 0 ≤ d j ∧ d j ≤ 9) (hds : ∀ j, j < n → 20 + j < s.size ∧ ∀ h : 20 + j < s.size, (s[20 + j].toNat : Int) = d j + 48) (p : Nat) (hpn : p = 20 + n) (v : Int) (hvn : v = fV d n) (hend : 9 ≤ n ∨ (20 + n < s.size ∧ ∀ h : 20 + n < s.size, fitS 48 (s[20 + n].toNat : Int) = false)) (H : Yat 6 w r (fun y0 y2 _ y6 y7 _ _ _ _ _ _ => y0 = .string s ∧ y2 = .pointer (some ⟨w.heap.size, 0, none⟩) ∧ y6 = .int .i64 (p) ∧ y7 = .int .i64 (v))) : Yat 5 w r (fun y0 y2 _ y6 y7 _ _ _ _ _ _ => y0 = .string s ∧ y2 = .pointer (some ⟨w.heap.size, 0, none⟩) ∧ y6 = .int .i64 (19) ∧ y7 = .int .i64 (0)) := by
  obtain ⟨c, hc, H⟩ := H
  refine ⟨_, rfl, ?_⟩
  unfold YH
  intros
  rename_i wc hR nS
  obtain ⟨rfl, rfl, rfl, rfl⟩ := hR
  subst hpn hvn
  refine wp_stop (fun a w' => Code.wp Tryd.prog c (bodyPost Tryd.prog Tryd.f11 (RQ w r)) a w') (fun a w h => wp_code hc rfl h) ?_
  clear hc
  intro K Q' hK
  have h19 : (19 : Int) < (s.size : Int) := by omega
  have HE := Lib.hid hend
  have HDS := Lib.hid hds
  clear hend hds
  go_wp2_with (fail)
  go_loopw [6, 7, 8, 9] (fun p v u m wz => ∃ jj q : Nat, jj ≤ n ∧ (jj < 9 → q ≤ 19 + jj ∧ 19 + jj ≤ q) ∧ (9 ≤ jj → q ≤ 29 ∧ 29 ≤ q) ∧ p = .int .i64 q ∧ v = .int .i64 (fV d jj) ∧ u = .int .i64 (fP jj) ∧ m = .int .i64 jj ∧ St w wz) (fun _ _ _ m _ => 9 - (RowKit.intOf m).toNat)
  case atStart => exact ⟨0, 19, by omega, fun _ => ⟨by omega, by omega⟩, fun _ => by omega, rfl, rfl, rfl, rfl, nS⟩
  case round =>
    clear nS
    obtain ⟨jj, q, hjn, hqa, hqb, rfl, rfl, rfl, rfl, nS⟩ := hrel
    by_cases hjj : jj < n
    · have hj9 : jj < 9 := by omega
      obtain ⟨hq1, hq2⟩ := hqa hj9
      obtain ⟨z, hz⟩ : ∃ z : Nat, z = q + 1 := ⟨_, rfl⟩
      have hzs : z < s.size := by have := HDS.out jj hjj; omega
      have hz1 : IntKind.i64.wrap ((q : Int) + 1) = (z : Int) := by rw [IntWalk.i64_in _ (by omega)]; omega
      have hdig : (s[z].toNat : Int) = d jj + 48 := (by have h := (HDS.out jj hjj).2 (by omega); have e : 20 + jj = z := (by omega); subst e; exact h)
      have HDj := Lib.hid (hd jj)
      have hdj := hd jj
      have hp := fP_le jj
      have hv := fV_le d hd jj
      have hm1 : 0 ≤ fP jj * d jj := Int.mul_nonneg hp.1 hdj.1
      have hm2 : fP jj * d jj ≤ 100000000 * 9 := Int.mul_le_mul hp.2 hdj.2 hdj.1 (by decide)
      have HFj : Hid (fitS 48 (s[z].toNat : Int) = true) := (by show fitS 48 _ = true; unfold fitS; rw [if_pos rfl, decide_eq_true]; omega)
      have w1 : IntKind.i64.wrap ((s[z].toNat : Int) - 48) = d jj := by rw [IntWalk.i64_in _ (by omega)]; omega
      have w0 : IntKind.i64.wrap (s[z].toNat : Int) = (s[z].toNat : Int) := IntWalk.i64_in _ (by omega)
      have w2 : IntKind.i64.wrap (fP jj * d jj) = fP jj * d jj := IntWalk.i64_in _ (by omega)
      have w3 : IntKind.i64.wrap (fV d jj + fP jj * d jj) = fV d jj + fP jj * d jj := IntWalk.i64_in _ (by omega)
      have w4 : IntKind.i64.wrap (Int.tdiv (fP jj) 10) = Int.tdiv (fP jj) 10 := IntWalk.i64_in _ (by have := fP_le (jj + 1); simp only [fP] at this; omega)
      have hza : z ≤ q + 1 := by omega
      have hzb : q + 1 ≤ z := by omega
      clear hz hdig hdj hp hv hm1 hm2
      have hj9' : (jj : Int) < 9 := by omega
      have z1 : IntKind.i64.wrap ((z : Int) + 1) = (z : Int) + 1 := IntWalk.i64_in _ (by omega)
      by_cases h8 : jj = 8
      · have h8a : ((jj : Int) == 8) = true := by rw [h8]; decide
        have h8b : (jj : Int) = 8 := by omega
        have h8x : jj ≤ 8 := by omega
        have h8y : 8 ≤ jj := by omega
        clear h8a h8
        go_wp2_with (go_at_call 33; have kS := ‹St w _›; refine Calls.mono (fits_st true _ _ _ _ HFj.out kS) ?_; rintro e w' ⟨rfl, nS⟩; clear kS)
        all_goals
          go_roundw
          case rel => (try ((repeat apply Exists.intro); refine ⟨?_, rfl⟩)); exact ⟨jj + 1, z + 1, by omega, fun _ => by omega, fun _ => ⟨by omega, by omega⟩, rfl, rfl, rfl, by go_num, by assumption⟩
          case measure => simp [RowKit.intOf]; omega
      · have h8a : ((jj : Int) == 8) = false := by rw [beq_eq_false_iff_ne]; omega
        have h8b : ¬ (jj : Int) = 8 := by omega
        go_wp2_with (go_at_call 33; have kS := ‹St w _›; refine Calls.mono (fits_st true _ _ _ _ HFj.out kS) ?_; rintro e w' ⟨rfl, nS⟩; clear kS)
        all_goals
          go_roundw
          case rel => (try ((repeat apply Exists.intro); refine ⟨?_, rfl⟩)); exact ⟨jj + 1, z, by omega, fun _ => ⟨by omega, by omega⟩, fun _ => by omega, rfl, rfl, rfl, by go_num, by assumption⟩
          case measure => simp [RowKit.intOf]; omega
    · obtain rfl : jj = n := by omega
      by_cases h9 : 9 ≤ jj
      · have h9' : ¬ (jj : Int) < 9 := by omega
        obtain ⟨hq1, hq2⟩ := hqb h9
        go_wp2_with (fail)
        refine Met.intro ?_; unfold YH at H; apply H; all_goals first | exact (by assumption) | exact ⟨by first | rfl | go_num | (congr 1; omega), by first | rfl | go_num | (congr 1; omega), by first | rfl | go_num | (congr 1; omega), by first | rfl | go_num | (congr 1; omega)⟩
      · have h9' : (jj : Int) < 9 := by omega
        obtain ⟨hq1, hq2⟩ := hqa (by omega)
        obtain ⟨z, hza, hzb⟩ : ∃ z : Nat, z ≤ q + 1 ∧ q + 1 ≤ z := ⟨q + 1, by omega, by omega⟩
        have hz1 : IntKind.i64.wrap ((q : Int) + 1) = (z : Int) := by rw [IntWalk.i64_in _ (by omega)]; omega
        have hE := HE.out.resolve_left (by omega)
        have hzs : z < s.size := by have := hE.1; omega
        have HFn : Hid (fitS 48 (s[z].toNat : Int) = false) := (by have h := hE.2 hE.1; have e : 20 + jj = z := (by omega); subst e; exact h)
        have hj0 : ¬ (jj : Int) = 0 := by omega
        clear hE HE h9
        go_wp2_with (go_at_call 33; have kS := ‹St w _›; refine Calls.mono (fits_st false _ _ _ _ HFn.out kS) ?_; rintro e w' ⟨rfl, nS⟩; clear kS)
        refine Met.intro ?_; unfold YH at H; apply H; all_goals first | exact (by assumption) | exact ⟨by first | rfl | go_num | (congr 1; omega), by first | rfl | go_num | (congr 1; omega), by first | rfl | go_num | (congr 1; omega), by first | rfl | go_num | (congr 1; omega)⟩

theorem ref_pre (s : ByteArray) (w : World) (hs : s.size ≤ 60) (h19 : 19 ≤ s.size) (HF : ∀ j, j < 19 → fitAt s j) (p : Nat) (v : Int) (dot : Bool) (hP : FracP s p v dot) (r : RR) (H : Yat 6 w r (fun y0 y2 _ y6 y7 _ _ _ _ _ _ => y0 = .string s ∧ y2 = .pointer (some ⟨w.heap.size, 0, none⟩) ∧ y6 = .int .i64 (p) ∧ y7 = .int .i64 (v))) : Calls Tryd.prog 11 #[.string s] w (RQ w r) := by
  refine y_enter s w r (y_1 s w hs r (y_2 s w hs r (y_3 s w hs r 19 (by omega) (by omega) h19 (Lib.hid HF) (y_4 s w hs r ?_))))
  rcases hP with ⟨-, hp, hv, hno⟩ | ⟨-, ⟨hlt, h46⟩, n, d, hn1, hn9, hd, hds, hp, hv, hps, hend⟩
  · by_cases hlt : 19 < s.size
    · exact y_5n s w hs r hlt (hno hlt) p hp v hv H
    · exact y_5e s w hs r (by omega) p hp v hv H
  · exact y_5f s w hs r hlt h46 n d hn1 hn9 hd hds p hp v hv hend H
end Go.Proofs.YtlgdenihddkjaaaDoor
