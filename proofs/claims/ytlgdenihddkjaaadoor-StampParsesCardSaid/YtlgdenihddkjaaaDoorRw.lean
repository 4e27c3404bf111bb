import Derived.Test.YtlgdenihddkjaaaDoorDb
import Derived.Test.YtlgdenihddkjaaaDoorPStx2
import Derived.Deep.RegionHeld3
namespace Go.Proofs.YtlgdenihddkjaaaDoor
set_option linter.unusedSimpArgs false
set_option linter.unusedVariables false
open Go.RowKit Go.Lib
@[reducible] def patT : ByteArray := ⟨#[48, 48, 48, 48, 45, 48, 48, 45, 48, 48, 84, 48, 48, 58, 48, 48, 58, 48, 48]⟩
def fitS (p c : Int) : Bool := if p = 48 then decide (48 ≤ c ∧ c ≤ 57) else if c = p then true else if p = 84 then c == 116 else false
theorem fits_any (p c : Int) (w : World) : Calls Tryd.prog 33 #[.int .u8 p, .int .u8 c] w fun e w' => e = .returned (.bool (fitS p c)) ∧ Below w.heap.size w w' := by
  refine (PSt.eponymref16_fits.calls p c _ w (?_ : PSt.eponymref16_fits.f p c = some (fitS p c))).mono ?_
  · unfold PSt.eponymref16_fits.f fitS
    split
    · split
      · rename_i h; simp [h]
      · rename_i h; simp [h]
    · split
      · rfl
      · split <;> rfl
  · rintro e w' ⟨rfl, hd⟩
    exact ⟨rfl, Go.Proofs.YtlgdenihddkjaaaDoorW.PrintWords.Drawn0.below hd⟩
theorem fits_is (b : Bool) (p c : Int) (w : World) (h : fitS p c = b) : Calls Tryd.prog 33 #[.int .u8 p, .int .u8 c] w fun e w' => e = .returned (.bool b) ∧ Below w.heap.size w w' := by rw [← h]; exact fits_any p c w
theorem blk_new (w : World) (o : Obj) : (w.alloc o).heap[w.heap.size]? = some o := by
  show (w.heap.push _)[w.heap.size]? = _
  simp
theorem set_blk {w : World} {n : Nat} {cs : Array Value} {t : TypeId} (h : w.heap[n]? = some (.cells cs t (0, 0))) (i : Nat) (v : Value) : (w.setCell ⟨n, i, none⟩ v).heap[n]? = some (.cells (cs.setIfInBounds i v) t (0, 0)) := by
  have hl := heap_lt h
  simp only [World.setCell, Array.getElem?_modify, h]
  simp
theorem set2_blk {w : World} {n : Nat} {a b : Value} {t : TypeId} (h : w.heap[n]? = some (.cells #[a, b] t (0, 0))) (x y : Value) : ((w.setCell ⟨n, 0, none⟩ x).setCell ⟨n, 1, none⟩ y).heap[n]? = some (.cells #[x, y] t (0, 0)) := by
  have := set_blk (set_blk h 0 x) 1 y
  simpa using this
theorem set2_c0 {w : World} {n : Nat} {a b : Value} {t : TypeId} (h : w.heap[n]? = some (.cells #[a, b] t (0, 0))) (x : Value) : (w.setCell ⟨n, 0, none⟩ x).cell? ⟨n, 0, none⟩ = some x := (blk_cell (set_blk h 0 x) 0).trans rfl
theorem set2_c1 {w : World} {n : Nat} {a b : Value} {t : TypeId} (h : w.heap[n]? = some (.cells #[a, b] t (0, 0))) (x y : Value) : ((w.setCell ⟨n, 0, none⟩ x).setCell ⟨n, 1, none⟩ y).cell? ⟨n, 1, none⟩ = some y := (blk_cell (set2_blk h x y) 1).trans rfl
/-- Letter i fits the pattern. -/
def fitAt (s : ByteArray) (i : Nat) : Prop := ∀ (h1 : i < patT.size) (h2 : i < s.size), fitS (patT[i].toNat : Int) (s[i].toNat : Int) = true
set_option maxHeartbeats 2000000 in
set_option maxRecDepth 20000 in
theorem ref_end (s : ByteArray) (w : World) (hs : s.size ≤ 60) (i : Nat) (hi : i < 19) (his : i ≤ s.size) (hf : ∀ j, j < i → fitAt s j) (he : i = s.size) :
    Calls Tryd.prog 11 #[.string s] w fun e w' => e = .returned (.tuple #[.agg #[.int .i64 0, .int .i64 0], .int .i64 s.size, .int .i64 2]) ∧ Below w.heap.size w w' := by
  have HF := Lib.hid hf
  clear hf
  go_enter Tryd.func11, Tryd.ntmps11
  go_wp2
  go_loopw [6] (fun n wr => ∃ k : Nat, k ≤ i ∧ n = .int .i64 k ∧ Below w.heap.size w wr ∧ wr.heap[w.heap.size]? = some (.cells #[.int .i64 0, .int .i64 0] 31 (0, 0))) (fun n _ => 19 - (RowKit.intOf n).toNat)
  case atStart => exact ⟨0, by omega, rfl, (Below.refl _ _).alloc (Nat.le_refl _) _, blk_new w _⟩
  case round =>
    obtain ⟨k, hk, rfl, hb, hx⟩ := hrel
    by_cases hk2 : k < i
    · have hk3 : k < s.size := by omega
      have hk4 : k < 19 := by omega
      have HFk := Lib.hid (HF.out k hk2 hk4 hk3)
      go_wp2
      go_region_held3 (fun x => Below w.heap.size w x ∧ x.heap[w.heap.size]? = some (.cells #[.int .i64 0, .int .i64 0] 31 (0, 0))) (first
        | (refine ⟨?_, ?_⟩ <;> assumption)
        | (refine ⟨Below.drew ?_, ?_⟩ <;> assumption)) (first
        | (go_at_call 33; obtain ⟨kB, kX⟩ := ‹Below w.heap.size w _ ∧ _›; refine Calls.mono (fits_is true _ _ _ HFk.out) ?_; rintro e w' ⟨rfl, hb⟩; have nB := below_to kB hb; have nX := below_blk hb kX; clear hb kB kX))
      all_goals
        go_wp2
        go_roundw
        case rel => exact ⟨k + 1, by omega, by go_num, by assumption, by assumption⟩
        case measure => simp [RowKit.intOf]; omega
    · obtain rfl : k = i := by omega
      have c0 : wr.cell? ⟨w.heap.size, 0, none⟩ = some (.int .i64 0) := (blk_cell hx 0).trans rfl
      have c1 : wr.cell? ⟨w.heap.size, 1, none⟩ = some (.int .i64 0) := (blk_cell hx 1).trans rfl
      have f0 : wr.frozen? ⟨w.heap.size, 0, none⟩ = false := blk_fz hx 0
      have f1 : wr.frozen? ⟨w.heap.size, 1, none⟩ = false := blk_fz hx 1
      have HB := Lib.hid hb
      have HX := Lib.hid hx
      clear hb hx
      go_wp2
      refine bodyPost_ret (v := .tuple #[.agg #[.int .i64 0, .int .i64 0], .int .i64 s.size, .int .i64 2]) (by simp [results, Tryd.results11, go_sem, set2_c0 HX.out, set2_c1 HX.out]) rfl ⟨rfl, (Below.setCell HB.out (Nat.le_refl _) _).setCell (Nat.le_refl _) _⟩

set_option maxHeartbeats 2000000 in
set_option maxRecDepth 20000 in
theorem ref_bad (s : ByteArray) (w : World) (hs : s.size ≤ 60) (i : Nat) (hi : i < 19) (his : i ≤ s.size) (hf : ∀ j, j < i → fitAt s j) (hlt : i < s.size) (hn : ∀ (h1 : i < patT.size) (h2 : i < s.size), fitS (patT[i].toNat : Int) (s[i].toNat : Int) = false) :
    Calls Tryd.prog 11 #[.string s] w fun e w' => e = .returned (.tuple #[.agg #[.int .i64 0, .int .i64 0], .int .i64 i, .int .i64 1]) ∧ Below w.heap.size w w' := by
  have HF := Lib.hid hf
  clear hf
  go_enter Tryd.func11, Tryd.ntmps11
  go_wp2
  go_loopw [6] (fun n wr => ∃ k : Nat, k ≤ i ∧ n = .int .i64 k ∧ Below w.heap.size w wr ∧ wr.heap[w.heap.size]? = some (.cells #[.int .i64 0, .int .i64 0] 31 (0, 0))) (fun n _ => 19 - (RowKit.intOf n).toNat)
  case atStart => exact ⟨0, by omega, rfl, (Below.refl _ _).alloc (Nat.le_refl _) _, blk_new w _⟩
  case round =>
    obtain ⟨k, hk, rfl, hb, hx⟩ := hrel
    by_cases hk2 : k < i
    · have hk3 : k < s.size := by omega
      have hk4 : k < 19 := by omega
      have HFk := Lib.hid (HF.out k hk2 hk4 hk3)
      go_wp2
      go_region_held3 (fun x => Below w.heap.size w x ∧ x.heap[w.heap.size]? = some (.cells #[.int .i64 0, .int .i64 0] 31 (0, 0))) (first
        | (refine ⟨?_, ?_⟩ <;> assumption)
        | (refine ⟨Below.drew ?_, ?_⟩ <;> assumption)) (first
        | (go_at_call 33; obtain ⟨kB, kX⟩ := ‹Below w.heap.size w _ ∧ _›; refine Calls.mono (fits_is true _ _ _ HFk.out) ?_; rintro e w' ⟨rfl, hb⟩; have nB := below_to kB hb; have nX := below_blk hb kX; clear hb kB kX))
      all_goals
        go_wp2
        go_roundw
        case rel => exact ⟨k + 1, by omega, by go_num, by assumption, by assumption⟩
        case measure => simp [RowKit.intOf]; omega
    · obtain rfl : k = i := by omega
      have hk3 : k < s.size := by omega
      have hk4 : k < 19 := by omega
      have HFk := Lib.hid (hn hk4 hk3)
      go_wp2
      go_region_held3 (fun x => Below w.heap.size w x ∧ x.heap[w.heap.size]? = some (.cells #[.int .i64 0, .int .i64 0] 31 (0, 0))) (first
        | (refine ⟨?_, ?_⟩ <;> assumption)
        | (refine ⟨Below.drew ?_, ?_⟩ <;> assumption)) (first
        | (go_at_call 33; obtain ⟨kB, kX⟩ := ‹Below w.heap.size w _ ∧ _›; refine Calls.mono (fits_is false _ _ _ HFk.out) ?_; rintro e w' ⟨rfl, hb⟩; have nB := below_to kB hb; have nX := below_blk hb kX; clear hb kB kX))
      all_goals
        obtain ⟨nB, nX⟩ := ‹Below w.heap.size w _ ∧ _›
        have c0 : World.cell? _ ⟨w.heap.size, 0, none⟩ = some (.int .i64 0) := (blk_cell nX 0).trans rfl
        have c1 : World.cell? _ ⟨w.heap.size, 1, none⟩ = some (.int .i64 0) := (blk_cell nX 1).trans rfl
        have f0 : World.frozen? _ ⟨w.heap.size, 0, none⟩ = false := blk_fz nX 0
        have f1 : World.frozen? _ ⟨w.heap.size, 1, none⟩ = false := blk_fz nX 1
        have HB := Lib.hid nB
        have HX := Lib.hid nX
        clear nB nX
        go_wp2
        refine bodyPost_ret (v := .tuple #[.agg #[.int .i64 0, .int .i64 0], .int .i64 k, .int .i64 1]) (by simp [results, Tryd.results11, go_sem, set2_c0 HX.out, set2_c1 HX.out]) rfl ⟨rfl, (Below.setCell HB.out (Nat.le_refl _) _).setCell (Nat.le_refl _) _⟩

end Go.Proofs.YtlgdenihddkjaaaDoor
