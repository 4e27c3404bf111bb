import Derived.Test.YtlgdenihddkjaaaDoorXd
import Derived.Deep.CutRange
namespace Go.Proofs.YtlgdenihddkjaaaDoor
set_option linter.unusedSimpArgs false
set_option linter.unusedVariables false
open Go.RowKit Go.Lib

set_option maxHeartbeats 4000000 in
set_option maxRecDepth 20000 in
theorem rfrac_e (s : ByteArray) (w : World) (hs : s.size ≤ 60) (i : Nat) (hi : 19 ≤ i) (hi2 : i ≤ 19) (his : i ≤ s.size) (hf : ∀ j, j < i → fitAt s j) (hlt : i < s.size) (hc : (s[i].toNat : Int) = 46) (n : Nat) (hn : n ≤ 9) (d : Nat → Int) (hd : ∀ j, 0 ≤ d j ∧ d j ≤ 9) (hds : ∀ j, j < n → i + 1 + j < s.size ∧ ∀ h : i + 1 + j < s.size, (s[i + 1 + j].toNat : Int) = d j + 48) (hn9 : n < 9) (hend : i + 1 + n = s.size) :
    Calls Tryd.prog 11 #[.string s] w fun e w' => e = .returned (.tuple #[.agg #[.int .i64 0, .int .i64 0], .int .i64 s.size, .int .i64 2]) ∧ Below w.heap.size w w' := by
  have HF := Lib.hid hf
  clear hf
  go_enter Tryd.func11, Tryd.ntmps11
  go_wp2
  go_loopw [6] (fun n wr => ∃ k : Nat, k ≤ i ∧ n = .int .i64 k ∧ Below w.heap.size w wr ∧ wr.heap[w.heap.size]? = some (.cells #[.int .i64 0, .int .i64 0] 31 (0, 0))) (fun n _ => 19 - (RowKit.intOf n).toNat)
  case atStart => exact ⟨0, by omega, rfl, (Below.refl _ _).alloc (Nat.le_refl _) _, blk_new w _⟩
  case round =>
    obtain ⟨k, hk, rfl, hb, hx⟩ := hrel
    by_cases hk2 : k < i
    · have hk3 : k < s.size := by omega
      have hk4 : k < 19 := by omega
      have HFk := Lib.hid (HF.out k hk2 hk4 hk3)
      go_wp2
      go_region_held3 (fun x => Below w.heap.size w x ∧ x.heap[w.heap.size]? = some (.cells #[.int .i64 0, .int .i64 0] 31 (0, 0))) (first | (refine ⟨?_, ?_⟩ <;> assumption) | (refine ⟨Below.drew ?_, ?_⟩ <;> assumption)) (first
        | (go_at_call 33; obtain ⟨kB, kX⟩ := ‹Below w.heap.size w _ ∧ _›; refine Calls.mono (fits_is true _ _ _ HFk.out) ?_; rintro e w' ⟨rfl, hb⟩; have nB := below_to kB hb; have nX := below_blk hb kX; clear hb kB kX))
      all_goals
        go_wp2
        go_roundw
        case rel => exact ⟨k + 1, by omega, by go_num, by assumption, by assumption⟩
        case measure => simp [RowKit.intOf]; omega
    · obtain rfl : k = i := by omega
      have nB := hb
      have nX := hx
      have hk19 : ¬ (k : Int) < 19 := by omega
      have c0 : World.cell? _ ⟨w.heap.size, 0, none⟩ = some (.int .i64 0) := (blk_cell nX 0).trans rfl
      have c1 : World.cell? _ ⟨w.heap.size, 1, none⟩ = some (.int .i64 0) := (blk_cell nX 1).trans rfl
      have f0 : World.frozen? _ ⟨w.heap.size, 0, none⟩ = false := (blk_fz nX 0)
      have f1 : World.frozen? _ ⟨w.heap.size, 1, none⟩ = false := (blk_fz nX 1)
      have hlt' : (k : Int) < (s.size : Int) := by omega
      clear c0 c1 f0 f1
      go_wp2
      go_loopw [6, 7, 8, 9] (fun p v u m wz => ∃ jj q : Nat, jj ≤ n ∧ (jj < 9 → q ≤ k + jj ∧ k + jj ≤ q) ∧ (9 ≤ jj → q ≤ k + 10 ∧ k + 10 ≤ q) ∧ p = .int .i64 q ∧ v = .int .i64 (fV d jj) ∧ u = .int .i64 (fP jj) ∧ m = .int .i64 jj ∧ Below w.heap.size w wz ∧ wz.heap[w.heap.size]? = some (.cells #[.int .i64 0, .int .i64 0] 31 (0, 0))) (fun _ _ _ m _ => 9 - (RowKit.intOf m).toNat)
      case atStart => exact ⟨0, k, by omega, fun _ => ⟨by omega, by omega⟩, fun _ => by omega, rfl, rfl, rfl, rfl, nB, nX⟩
      case round =>
        clear nB nX hb hx
        obtain ⟨jj, q, hjn, hqa, hqb, rfl, rfl, rfl, rfl, nB, nX⟩ := hrel
        by_cases hjj : jj < n
        · have hj9 : jj < 9 := by omega
          obtain ⟨hq1, hq2⟩ := hqa hj9
          obtain ⟨z, hz⟩ : ∃ z : Nat, z = q + 1 := ⟨_, rfl⟩
          have hzs : z < s.size := by have := hds jj hjj; omega
          have hz1 : IntKind.i64.wrap ((q : Int) + 1) = (z : Int) := by rw [IntWalk.i64_in _ (by omega)]; omega
          have hdig : (s[z].toNat : Int) = d jj + 48 := (by have h := (hds jj hjj).2 (by omega); have e : k + 1 + jj = z := (by omega); subst e; exact h)
          have HDj := Lib.hid (hd jj)
          have hdj := hd jj
          have hp := fP_le jj
          have hv := fV_le d hd jj
          have hm1 : 0 ≤ fP jj * d jj := Int.mul_nonneg hp.1 hdj.1
          have hm2 : fP jj * d jj ≤ 100000000 * 9 := Int.mul_le_mul hp.2 hdj.2 hdj.1 (by decide)
          have HFj : Hid (fitS 48 (s[z].toNat : Int) = true) := (by show fitS 48 _ = true; unfold fitS; rw [if_pos rfl, decide_eq_true]; omega)
          have w1 : IntKind.i64.wrap ((s[z].toNat : Int) - 48) = d jj := by rw [IntWalk.i64_in _ (by omega)]; omega
          have w0 : IntKind.i64.wrap (s[z].toNat : Int) = (s[z].toNat : Int) := IntWalk.i64_in _ (by omega)
          have w2 : IntKind.i64.wrap (fP jj * d jj) = fP jj * d jj := IntWalk.i64_in _ (by omega)
          have w3 : IntKind.i64.wrap (fV d jj + fP jj * d jj) = fV d jj + fP jj * d jj := IntWalk.i64_in _ (by omega)
          have w4 : IntKind.i64.wrap (Int.tdiv (fP jj) 10) = Int.tdiv (fP jj) 10 := IntWalk.i64_in _ (by have := fP_le (jj + 1); simp only [fP] at this; omega)
          have hza : z ≤ q + 1 := by omega
          have hzb : q + 1 ≤ z := by omega
          clear hz hdig hdj hp hv hm1 hm2
          have hj9' : (jj : Int) < 9 := by omega
          have z1 : IntKind.i64.wrap ((z : Int) + 1) = (z : Int) + 1 := IntWalk.i64_in _ (by omega)
          by_cases h8 : jj = 8
          · have h8a : ((jj : Int) == 8) = true := by rw [h8]; decide
            have h8b : (jj : Int) = 8 := by omega
            have h8x : jj ≤ 8 := by omega
            have h8y : 8 ≤ jj := by omega
            clear h8a h8
            go_wp2_with (go_at_call 33; refine Calls.mono (fits_is true _ _ _ HFj.out) ?_; rintro e w' ⟨rfl, hb⟩; have nB := below_to nB hb; have nX := below_blk hb nX; clear hb)
            all_goals
              go_roundw
              case rel => exact ⟨jj + 1, z + 1, by omega, fun _ => by omega, fun _ => ⟨by omega, by omega⟩, rfl, rfl, rfl, by go_num, by assumption, by assumption⟩
              case measure => simp [RowKit.intOf]; omega
          · have h8a : ((jj : Int) == 8) = false := by rw [beq_eq_false_iff_ne]; omega
            have h8b : ¬ (jj : Int) = 8 := by omega
            go_wp2_with (go_at_call 33; refine Calls.mono (fits_is true _ _ _ HFj.out) ?_; rintro e w' ⟨rfl, hb⟩; have nB := below_to nB hb; have nX := below_blk hb nX; clear hb)
            all_goals
              go_roundw
              case rel => exact ⟨jj + 1, z, by omega, fun _ => ⟨by omega, by omega⟩, fun _ => by omega, rfl, rfl, rfl, by go_num, by assumption, by assumption⟩
              case measure => simp [RowKit.intOf]; omega
        · obtain rfl : jj = n := by omega
          have hj9 : jj < 9 := by omega
          have hj9' : (jj : Int) < 9 := by omega
          obtain ⟨hq1, hq2⟩ := hqa hj9
          obtain ⟨z, hza, hzb⟩ : ∃ z : Nat, z ≤ q + 1 ∧ q + 1 ≤ z := ⟨q + 1, by omega, by omega⟩
          have hz1 : IntKind.i64.wrap ((q : Int) + 1) = (z : Int) := by rw [IntWalk.i64_in _ (by omega)]; omega
          have c0 : World.cell? _ ⟨w.heap.size, 0, none⟩ = some (.int .i64 0) := (blk_cell nX 0).trans rfl
          have c1 : World.cell? _ ⟨w.heap.size, 1, none⟩ = some (.int .i64 0) := (blk_cell nX 1).trans rfl
          have f0 : World.frozen? _ ⟨w.heap.size, 0, none⟩ = false := (blk_fz nX 0)
          have f1 : World.frozen? _ ⟨w.heap.size, 1, none⟩ = false := (blk_fz nX 1)
          have hzs : ¬ (z : Int) < (s.size : Int) := by omega
          go_wp2
          all_goals refine bodyPost_ret (v := .tuple #[.agg #[.int .i64 0, .int .i64 0], .int .i64 (s.size), .int .i64 2]) (by simp [results, Tryd.results11, go_sem, set2_c0 nX, set2_c1 nX]) rfl ⟨rfl, (Below.setCell nB (Nat.le_refl _) _).setCell (Nat.le_refl _) _⟩

set_option maxHeartbeats 4000000 in
set_option maxRecDepth 20000 in
theorem rfrac_d (s : ByteArray) (w : World) (hs : s.size ≤ 60) (i : Nat) (hi : 19 ≤ i) (hi2 : i ≤ 19) (his : i ≤ s.size) (hf : ∀ j, j < i → fitAt s j) (hlt : i < s.size) (hc : (s[i].toNat : Int) = 46) (n : Nat) (hn : n ≤ 9) (d : Nat → Int) (hd : ∀ j, 0 ≤ d j ∧ d j ≤ 9) (hds : ∀ j, j < n → i + 1 + j < s.size ∧ ∀ h : i + 1 + j < s.size, (s[i + 1 + j].toNat : Int) = d j + 48) (hn0 : n ≤ 0) (q0 : Nat) (hqx : q0 ≤ i + 1) (hqy : i + 1 ≤ q0) (hend : q0 < s.size) (hbad : ∀ h : q0 < s.size, fitS 48 (s[q0].toNat : Int) = false) :
    Calls Tryd.prog 11 #[.string s] w fun e w' => e = .returned (.tuple #[.agg #[.int .i64 0, .int .i64 0], .int .i64 q0, .int .i64 1]) ∧ Below w.heap.size w w' := by
  have HF := Lib.hid hf
  clear hf
  go_enter Tryd.func11, Tryd.ntmps11
  go_wp2
  go_loopw [6] (fun n wr => ∃ k : Nat, k ≤ i ∧ n = .int .i64 k ∧ Below w.heap.size w wr ∧ wr.heap[w.heap.size]? = some (.cells #[.int .i64 0, .int .i64 0] 31 (0, 0))) (fun n _ => 19 - (RowKit.intOf n).toNat)
  case atStart => exact ⟨0, by omega, rfl, (Below.refl _ _).alloc (Nat.le_refl _) _, blk_new w _⟩
  case round =>
    obtain ⟨k, hk, rfl, hb, hx⟩ := hrel
    by_cases hk2 : k < i
    · have hk3 : k < s.size := by omega
      have hk4 : k < 19 := by omega
      have HFk := Lib.hid (HF.out k hk2 hk4 hk3)
      go_wp2
      go_region_held3 (fun x => Below w.heap.size w x ∧ x.heap[w.heap.size]? = some (.cells #[.int .i64 0, .int .i64 0] 31 (0, 0))) (first | (refine ⟨?_, ?_⟩ <;> assumption) | (refine ⟨Below.drew ?_, ?_⟩ <;> assumption)) (first
        | (go_at_call 33; obtain ⟨kB, kX⟩ := ‹Below w.heap.size w _ ∧ _›; refine Calls.mono (fits_is true _ _ _ HFk.out) ?_; rintro e w' ⟨rfl, hb⟩; have nB := below_to kB hb; have nX := below_blk hb kX; clear hb kB kX))
      all_goals
        go_wp2
        go_roundw
        case rel => exact ⟨k + 1, by omega, by go_num, by assumption, by assumption⟩
        case measure => simp [RowKit.intOf]; omega
    · obtain rfl : k = i := by omega
      have nB := hb
      have nX := hx
      have hk19 : ¬ (k : Int) < 19 := by omega
      have c0 : World.cell? _ ⟨w.heap.size, 0, none⟩ = some (.int .i64 0) := (blk_cell nX 0).trans rfl
      have c1 : World.cell? _ ⟨w.heap.size, 1, none⟩ = some (.int .i64 0) := (blk_cell nX 1).trans rfl
      have f0 : World.frozen? _ ⟨w.heap.size, 0, none⟩ = false := (blk_fz nX 0)
      have f1 : World.frozen? _ ⟨w.heap.size, 1, none⟩ = false := (blk_fz nX 1)
      have hlt' : (k : Int) < (s.size : Int) := by omega
      clear c0 c1 f0 f1
      go_wp2
      go_loopw [6, 7, 8, 9] (fun p v u m wz => ∃ jj q : Nat, jj ≤ n ∧ (jj < 9 → q ≤ k + jj ∧ k + jj ≤ q) ∧ (9 ≤ jj → q ≤ k + 10 ∧ k + 10 ≤ q) ∧ p = .int .i64 q ∧ v = .int .i64 (fV d jj) ∧ u = .int .i64 (fP jj) ∧ m = .int .i64 jj ∧ Below w.heap.size w wz ∧ wz.heap[w.heap.size]? = some (.cells #[.int .i64 0, .int .i64 0] 31 (0, 0))) (fun _ _ _ m _ => 9 - (RowKit.intOf m).toNat)
      case atStart => exact ⟨0, k, by omega, fun _ => ⟨by omega, by omega⟩, fun _ => by omega, rfl, rfl, rfl, rfl, nB, nX⟩
      case round =>
        clear nB nX hb hx
        obtain ⟨jj, q, hjn, hqa, hqb, rfl, rfl, rfl, rfl, nB, nX⟩ := hrel
        by_cases hjj : jj < n
        · have hj9 : jj < 9 := by omega
          obtain ⟨hq1, hq2⟩ := hqa hj9
          obtain ⟨z, hz⟩ : ∃ z : Nat, z = q + 1 := ⟨_, rfl⟩
          have hzs : z < s.size := by have := hds jj hjj; omega
          have hz1 : IntKind.i64.wrap ((q : Int) + 1) = (z : Int) := by rw [IntWalk.i64_in _ (by omega)]; omega
          have hdig : (s[z].toNat : Int) = d jj + 48 := (by have h := (hds jj hjj).2 (by omega); have e : k + 1 + jj = z := (by omega); subst e; exact h)
          have HDj := Lib.hid (hd jj)
          have hdj := hd jj
          have hp := fP_le jj
          have hv := fV_le d hd jj
          have hm1 : 0 ≤ fP jj * d jj := Int.mul_nonneg hp.1 hdj.1
          have hm2 : fP jj * d jj ≤ 100000000 * 9 := Int.mul_le_mul hp.2 hdj.2 hdj.1 (by decide)
          have HFj : Hid (fitS 48 (s[z].toNat : Int) = true) := (by show fitS 48 _ = true; unfold fitS; rw [if_pos rfl, decide_eq_true]; omega)
          have w1 : IntKind.i64.wrap ((s[z].toNat : Int) - 48) = d jj := by rw [IntWalk.i64_in _ (by omega)]; omega
          have w0 : IntKind.i64.wrap (s[z].toNat : Int) = (s[z].toNat : Int) := IntWalk.i64_in _ (by omega)
          have w2 : IntKind.i64.wrap (fP jj * d jj) = fP jj * d jj := IntWalk.i64_in _ (by omega)
          have w3 : IntKind.i64.wrap (fV d jj + fP jj * d jj) = fV d jj + fP jj * d jj := IntWalk.i64_in _ (by omega)
          have w4 : IntKind.i64.wrap (Int.tdiv (fP jj) 10) = Int.tdiv (fP jj) 10 := IntWalk.i64_in _ (by have := fP_le (jj + 1); simp only [fP] at this; omega)
          have hza : z ≤ q + 1 := by omega
          have hzb : q + 1 ≤ z := by omega
          clear hz hdig hdj hp hv hm1 hm2
          have hj9' : (jj : Int) < 9 := by omega
          have z1 : IntKind.i64.wrap ((z : Int) + 1) = (z : Int) + 1 := IntWalk.i64_in _ (by omega)
          by_cases h8 : jj = 8
          · have h8a : ((jj : Int) == 8) = true := by rw [h8]; decide
            have h8b : (jj : Int) = 8 := by omega
            have h8x : jj ≤ 8 := by omega
            have h8y : 8 ≤ jj := by omega
            clear h8a h8
            go_wp2_with (go_at_call 33; refine Calls.mono (fits_is true _ _ _ HFj.out) ?_; rintro e w' ⟨rfl, hb⟩; have nB := below_to nB hb; have nX := below_blk hb nX; clear hb)
            all_goals
              go_roundw
              case rel => exact ⟨jj + 1, z + 1, by omega, fun _ => by omega, fun _ => ⟨by omega, by omega⟩, rfl, rfl, rfl, by go_num, by assumption, by assumption⟩
              case measure => simp [RowKit.intOf]; omega
          · have h8a : ((jj : Int) == 8) = false := by rw [beq_eq_false_iff_ne]; omega
            have h8b : ¬ (jj : Int) = 8 := by omega
            go_wp2_with (go_at_call 33; refine Calls.mono (fits_is true _ _ _ HFj.out) ?_; rintro e w' ⟨rfl, hb⟩; have nB := below_to nB hb; have nX := below_blk hb nX; clear hb)
            all_goals
              go_roundw
              case rel => exact ⟨jj + 1, z, by omega, fun _ => ⟨by omega, by omega⟩, fun _ => by omega, rfl, rfl, rfl, by go_num, by assumption, by assumption⟩
              case measure => simp [RowKit.intOf]; omega
        · obtain rfl : jj = n := by omega
          have hj9 : jj < 9 := by omega
          have hj9' : (jj : Int) < 9 := by omega
          obtain ⟨hq1, hq2⟩ := hqa hj9
          obtain ⟨z, hza, hzb⟩ : ∃ z : Nat, z ≤ q + 1 ∧ q + 1 ≤ z := ⟨q + 1, by omega, by omega⟩
          have hz1 : IntKind.i64.wrap ((q : Int) + 1) = (z : Int) := by rw [IntWalk.i64_in _ (by omega)]; omega
          obtain rfl : z = q0 := by omega
          have hzs : z < s.size := by omega
          have HFn := Lib.hid (hbad hzs)
          clear hbad
          have hj0 : (jj : Int) = 0 := by omega
          go_wp2_with (first
            | (go_at_call 33; refine Calls.mono (fits_is false _ _ _ HFn.out) ?_; rintro e w' ⟨rfl, hb⟩; have nB := below_to nB hb; have nX := below_blk hb nX; clear hb; have c0 : World.cell? _ ⟨w.heap.size, 0, none⟩ = some (.int .i64 0) := (blk_cell nX 0).trans rfl; have c1 : World.cell? _ ⟨w.heap.size, 1, none⟩ = some (.int .i64 0) := (blk_cell nX 1).trans rfl; have f0 : World.frozen? _ ⟨w.heap.size, 0, none⟩ = false := (blk_fz nX 0); have f1 : World.frozen? _ ⟨w.heap.size, 1, none⟩ = false := (blk_fz nX 1)))
          all_goals refine bodyPost_ret (v := .tuple #[.agg #[.int .i64 0, .int .i64 0], .int .i64 (z), .int .i64 1]) (by simp [results, Tryd.results11, go_sem, set2_c0 nX, set2_c1 nX]) rfl ⟨rfl, (Below.setCell nB (Nat.le_refl _) _).setCell (Nat.le_refl _) _⟩

end Go.Proofs.YtlgdenihddkjaaaDoor

