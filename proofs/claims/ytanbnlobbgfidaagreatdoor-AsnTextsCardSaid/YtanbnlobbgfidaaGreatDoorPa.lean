/- asn.Parse: the span that a text writes, or its fault. -/
import Derived.Test.YtanbnlobbgfidaaGreatDoorNu
namespace Go.Proofs.YtanbnlobbgfidaaGreatDoor
set_option linter.unusedSimpArgs false
set_option linter.unusedVariables false
open Go.RowKit Go.Lib

/-- asn.Parse. -/
def parseS (l : List UInt8) : (Int × Int) × Option (Int × Nat) :=
  match numS (Lib.cut l [45]).1 with
  | (_, some x) => ((0, 0), some x)
  | (f, none) =>
    if (Lib.cut l [45]).2.2 = true then
      match numS (Lib.cut l [45]).2.1 with
      | (_, some (a, c)) => ((0, 0), some (a + (Lib.cut l [45]).1.length + 1, c))
      | (t, none) => if t ≤ f then ((0, 0), some (((Lib.cut l [45]).1.length : Int), 6)) else ((f, t), none)
    else ((f, f), none)
theorem cut_sizes (l sep : List UInt8) : (Lib.cut l sep).1.length ≤ l.length ∧ (Lib.cut l sep).2.1.length ≤ l.length := by
  unfold Lib.cut
  split
  · simp; omega
  · simp

set_option maxHeartbeats 1000000 in
theorem parse_low (s : ByteArray) (lo hi : List UInt8) (tw : Bool) (w : World) (hI : AInv w) (hs : s.size ≤ 4000000000) (hcut : Lib.cut s.data.toList [45] = (lo, hi, tw)) (f xa : Int) (xc : Nat) (hn : numS lo = (f, some (xa, xc))) :
    Calls Tryz.prog 16 #[.string s] w fun e w' => ∃ v, e = .returned (.tuple #[.agg #[.int .u32 0, .int .u32 0], v]) ∧ FltIs w' v (some (xa, xc)) ∧ Below w.heap.size w w' := by
  have z1 : lo.length ≤ s.size := by have := (cut_sizes s.data.toList [45]).1; rw [hcut] at this; rw [Lib.size_eq]; exact this
  have z2 : hi.length ≤ s.size := by have := (cut_sizes s.data.toList [45]).2; rw [hcut] at this; rw [Lib.size_eq]; exact this
  have HI := Lib.hid hI
  have HI0 := Lib.hid (hI.below ((Below.refl w.heap.size w).alloc (Nat.le_refl _) (.cells #[.int .u32 0, .int .u32 0] 28)))
  have HCUT := Lib.hid hcut
  have HN := Lib.hid hn
  clear hI hn hcut
  go_enter Tryz.func16, Tryz.ntmps16
  go_wp2_with (first
    | (go_at_call 27; have C := (number_any ⟨lo.toArray⟩ w1 (HI.out.below HBw1.out) (by rw [size_mk]; omega)); (with_reducible refine Calls.mono C ?_); clear C; rintro e w2 ⟨v, rfl, hf, hb⟩; have HBw2 := Lib.hid (below_to HBw1.out hb); have HXBw2 := Lib.hid (below_blk hb HXBw1.out); have cB_0_w2 : w2.cell? ⟨w.heap.size, 0, none⟩ = some (.int .u32 0) := (blk_cell HXBw2.out 0).trans rfl; have zB_0_w2 : w2.frozen? ⟨w.heap.size, 0, none⟩ = false := blk_fz HXBw2.out 0; have cB_1_w2 : w2.cell? ⟨w.heap.size, 1, none⟩ = some (.int .u32 0) := (blk_cell HXBw2.out 1).trans rfl; have zB_1_w2 : w2.frozen? ⟨w.heap.size, 1, none⟩ = false := blk_fz HXBw2.out 1; rw [show (⟨lo.toArray⟩ : ByteArray).data.toList = lo from rfl, HN.out] at hf ⊢; have HF : Hid (FltIs w2 v (some (xa, xc))) := hf; clear hf; obtain ⟨-, -, g, u, rfl, hg, hu⟩ := HF.out; have HGw2 := Lib.hid hg; have HUw2 := Lib.hid hu; clear hg hu; clear hb)
    | (go_at_call 26; obtain ⟨m, hm⟩ := HI0.out.ml; have C := Tryz.strings_Cut s ⟨#[45]⟩ m (w.alloc (.cells #[.int .u32 0, .int .u32 0] 28)) (by omega) hm; rw [show Lib.cut s.data.toList (⟨#[45]⟩ : ByteArray).data.toList = _ from HCUT.out] at C; refine Calls.mono C ?_; clear C hm; rintro e w' ⟨rfl, n, rfl⟩; have HBw1 : Hid (Below w.heap.size w ((w.alloc (.cells #[.int .u32 0, .int .u32 0] 28)).drewN n)) := below_drewN ((Below.refl _ _).alloc (Nat.le_refl _) _) n; have HXBw1 : Hid (((w.alloc (.cells #[.int .u32 0, .int .u32 0] 28)).drewN n).heap[w.heap.size]? = some (.cells #[.int .u32 0, .int .u32 0] 28 (0, 0))) := blk_new w _; generalize (w.alloc (.cells #[.int .u32 0, .int .u32 0] 28)).drewN n = w1 at HBw1 HXBw1 ⊢; have cB_0_w1 : w1.cell? ⟨w.heap.size, 0, none⟩ = some (.int .u32 0) := (blk_cell HXBw1.out 0).trans rfl; have zB_0_w1 : w1.frozen? ⟨w.heap.size, 0, none⟩ = false := blk_fz HXBw1.out 0; have cB_1_w1 : w1.cell? ⟨w.heap.size, 1, none⟩ = some (.int .u32 0) := (blk_cell HXBw1.out 1).trans rfl; have zB_1_w1 : w1.frozen? ⟨w.heap.size, 1, none⟩ = false := blk_fz HXBw1.out 1))
  refine bodyPost_ret (v := .tuple #[.agg #[.int .u32 0, .int .u32 0], .iface 54 (.pointer (some ⟨g, 0, none⟩))]) (by simp [results, Tryz.results16, go_sem, set2_c0 HXBw2.out, set2_c1 HXBw2.out]) rfl ⟨_, rfl, ?_, (HBw2.out.setCell (Nat.le_refl _) _).setCell (Nat.le_refl _) _⟩
  exact (HF.out.set HI.out.is (Nat.le_refl _) HXBw2.out (by decide) 0 _).set HI.out.is (Nat.le_refl _) (set_blk HXBw2.out 0 _) (by decide) 1 _

set_option maxHeartbeats 1000000 in
theorem parse_one (s : ByteArray) (lo hi : List UInt8) (tw : Bool) (w : World) (hI : AInv w) (hs : s.size ≤ 4000000000) (hcut : Lib.cut s.data.toList [45] = (lo, hi, tw)) (f : Int) (hn : numS lo = (f, none)) (ht : tw = false) :
    Calls Tryz.prog 16 #[.string s] w fun e w' => ∃ v, e = .returned (.tuple #[.agg #[.int .u32 f, .int .u32 f], v]) ∧ FltIs w' v none ∧ Below w.heap.size w w' := by
  have z1 : lo.length ≤ s.size := by have := (cut_sizes s.data.toList [45]).1; rw [hcut] at this; rw [Lib.size_eq]; exact this
  have z2 : hi.length ≤ s.size := by have := (cut_sizes s.data.toList [45]).2; rw [hcut] at this; rw [Lib.size_eq]; exact this
  have HI := Lib.hid hI
  have HI0 := Lib.hid (hI.below ((Below.refl w.heap.size w).alloc (Nat.le_refl _) (.cells #[.int .u32 0, .int .u32 0] 28)))
  have HCUT := Lib.hid hcut
  subst ht
  have HN := Lib.hid hn
  clear hI hn hcut
  go_enter Tryz.func16, Tryz.ntmps16
  go_wp2_with (first
    | (go_at_call 27; have C := (number_any ⟨lo.toArray⟩ w1 (HI.out.below HBw1.out) (by rw [size_mk]; omega)); (with_reducible refine Calls.mono C ?_); clear C; rintro e w2 ⟨v, rfl, hf, hb⟩; have HBw2 := Lib.hid (below_to HBw1.out hb); have HXBw2 := Lib.hid (below_blk hb HXBw1.out); have cB_0_w2 : w2.cell? ⟨w.heap.size, 0, none⟩ = some (.int .u32 0) := (blk_cell HXBw2.out 0).trans rfl; have zB_0_w2 : w2.frozen? ⟨w.heap.size, 0, none⟩ = false := blk_fz HXBw2.out 0; have cB_1_w2 : w2.cell? ⟨w.heap.size, 1, none⟩ = some (.int .u32 0) := (blk_cell HXBw2.out 1).trans rfl; have zB_1_w2 : w2.frozen? ⟨w.heap.size, 1, none⟩ = false := blk_fz HXBw2.out 1; rw [show (⟨lo.toArray⟩ : ByteArray).data.toList = lo from rfl, HN.out] at hf ⊢; have hv : v = .nilIface := hf; subst hv; clear hf; clear hb)
    | (go_at_call 26; obtain ⟨m, hm⟩ := HI0.out.ml; have C := Tryz.strings_Cut s ⟨#[45]⟩ m (w.alloc (.cells #[.int .u32 0, .int .u32 0] 28)) (by omega) hm; rw [show Lib.cut s.data.toList (⟨#[45]⟩ : ByteArray).data.toList = _ from HCUT.out] at C; refine Calls.mono C ?_; clear C hm; rintro e w' ⟨rfl, n, rfl⟩; have HBw1 : Hid (Below w.heap.size w ((w.alloc (.cells #[.int .u32 0, .int .u32 0] 28)).drewN n)) := below_drewN ((Below.refl _ _).alloc (Nat.le_refl _) _) n; have HXBw1 : Hid (((w.alloc (.cells #[.int .u32 0, .int .u32 0] 28)).drewN n).heap[w.heap.size]? = some (.cells #[.int .u32 0, .int .u32 0] 28 (0, 0))) := blk_new w _; generalize (w.alloc (.cells #[.int .u32 0, .int .u32 0] 28)).drewN n = w1 at HBw1 HXBw1 ⊢; have cB_0_w1 : w1.cell? ⟨w.heap.size, 0, none⟩ = some (.int .u32 0) := (blk_cell HXBw1.out 0).trans rfl; have zB_0_w1 : w1.frozen? ⟨w.heap.size, 0, none⟩ = false := blk_fz HXBw1.out 0; have cB_1_w1 : w1.cell? ⟨w.heap.size, 1, none⟩ = some (.int .u32 0) := (blk_cell HXBw1.out 1).trans rfl; have zB_1_w1 : w1.frozen? ⟨w.heap.size, 1, none⟩ = false := blk_fz HXBw1.out 1))
  refine bodyPost_ret (v := .tuple #[.agg #[.int .u32 f, .int .u32 f], .nilIface]) (by simp [results, Tryz.results16, go_sem, set2_c0 HXBw2.out, set2_c1 HXBw2.out]) rfl ⟨_, rfl, ?_, (HBw2.out.setCell (Nat.le_refl _) _).setCell (Nat.le_refl _) _⟩
  exact rfl

set_option maxHeartbeats 1000000 in
theorem parse_order (s : ByteArray) (lo hi : List UInt8) (tw : Bool) (w : World) (hI : AInv w) (hs : s.size ≤ 4000000000) (hcut : Lib.cut s.data.toList [45] = (lo, hi, tw)) (f t : Int) (hn : numS lo = (f, none)) (ht : tw = true) (hn2 : numS hi = (t, none)) (hft : t ≤ f) :
    Calls Tryz.prog 16 #[.string s] w fun e w' => ∃ v, e = .returned (.tuple #[.agg #[.int .u32 0, .int .u32 0], v]) ∧ FltIs w' v (some ((lo.length : Int), 6)) ∧ Below w.heap.size w w' := by
  have z1 : lo.length ≤ s.size := by have := (cut_sizes s.data.toList [45]).1; rw [hcut] at this; rw [Lib.size_eq]; exact this
  have z2 : hi.length ≤ s.size := by have := (cut_sizes s.data.toList [45]).2; rw [hcut] at this; rw [Lib.size_eq]; exact this
  have HI := Lib.hid hI
  have HI0 := Lib.hid (hI.below ((Below.refl w.heap.size w).alloc (Nat.le_refl _) (.cells #[.int .u32 0, .int .u32 0] 28)))
  have HCUT := Lib.hid hcut
  subst ht
  have HN := Lib.hid hn
  have HN2 := Lib.hid hn2
  clear hI hn hn2 hcut
  go_enter Tryz.func16, Tryz.ntmps16
  go_wp2_with (first
    | (go_at_call 29; have C := HC2.out; (with_reducible refine Calls.mono C ?_); clear C; rintro e w5 ⟨v, rfl, hf, hb⟩; have HBw5 := Lib.hid (below_to HBw4.out hb); have HXBw5 := Lib.hid (below_blk hb HXBw4.out); have cB_0_w5 : w5.cell? ⟨w.heap.size, 0, none⟩ = some (.int .u32 0) := (blk_cell HXBw5.out 0).trans rfl; have zB_0_w5 : w5.frozen? ⟨w.heap.size, 0, none⟩ = false := blk_fz HXBw5.out 0; have cB_1_w5 : w5.cell? ⟨w.heap.size, 1, none⟩ = some (.int .u32 0) := (blk_cell HXBw5.out 1).trans rfl; have zB_1_w5 : w5.frozen? ⟨w.heap.size, 1, none⟩ = false := blk_fz HXBw5.out 1; have HF5 := Lib.hid hf; clear hf; clear hb)
    | (go_at_call 28; have C := as_nil (.iface 56 (.pointer (some ⟨w3.heap.size, 0, none⟩))) (w3.alloc (.cells #[.pointer none] 54)); (with_reducible refine Calls.mono C ?_); clear C; rintro e w' ⟨rfl, rfl⟩; have HBw4 := Lib.hid (HBw3.out.alloc HBw3.out.size (.cells #[.pointer none] 54)); have HXBw4 := Lib.hid (below_blk ((Below.refl w3.heap.size w3).alloc (Nat.le_refl _) (.cells #[.pointer none] 54)) HXBw3.out); generalize w3.alloc (.cells #[.pointer none] 54) = w4 at HBw4 HXBw4 ⊢; have cB_0_w4 : w4.cell? ⟨w.heap.size, 0, none⟩ = some (.int .u32 0) := (blk_cell HXBw4.out 0).trans rfl; have zB_0_w4 : w4.frozen? ⟨w.heap.size, 0, none⟩ = false := blk_fz HXBw4.out 0; have cB_1_w4 : w4.cell? ⟨w.heap.size, 1, none⟩ = some (.int .u32 0) := (blk_cell HXBw4.out 1).trans rfl; have zB_1_w4 : w4.frozen? ⟨w.heap.size, 1, none⟩ = false := blk_fz HXBw4.out 1; obtain ⟨a, he, -⟩ := (HI.out.is.below HBw4.out).sent 6 (by omega) (by omega); have he' : w4.cell? ⟨0, 0, none⟩ = _ := he; have HC2 := Lib.hid (fault_any lo.length 6 _ w4 (by omega) (by omega) he _ _ rfl); clear he)
    | (go_at_call 27; have C := (number_any ⟨hi.toArray⟩ w2 (HI.out.below HBw2.out) (by rw [size_mk]; omega)); (with_reducible refine Calls.mono C ?_); clear C; rintro e w3 ⟨v, rfl, hf, hb⟩; have HBw3 := Lib.hid (below_to HBw2.out hb); have HXBw3 := Lib.hid (below_blk hb HXBw2.out); have cB_0_w3 : w3.cell? ⟨w.heap.size, 0, none⟩ = some (.int .u32 0) := (blk_cell HXBw3.out 0).trans rfl; have zB_0_w3 : w3.frozen? ⟨w.heap.size, 0, none⟩ = false := blk_fz HXBw3.out 0; have cB_1_w3 : w3.cell? ⟨w.heap.size, 1, none⟩ = some (.int .u32 0) := (blk_cell HXBw3.out 1).trans rfl; have zB_1_w3 : w3.frozen? ⟨w.heap.size, 1, none⟩ = false := blk_fz HXBw3.out 1; rw [show (⟨hi.toArray⟩ : ByteArray).data.toList = hi from rfl, HN2.out] at hf ⊢; have hv : v = .nilIface := hf; subst hv; clear hf; clear hb)
    | (go_at_call 27; have C := (number_any ⟨lo.toArray⟩ w1 (HI.out.below HBw1.out) (by rw [size_mk]; omega)); (with_reducible refine Calls.mono C ?_); clear C; rintro e w2 ⟨v, rfl, hf, hb⟩; have HBw2 := Lib.hid (below_to HBw1.out hb); have HXBw2 := Lib.hid (below_blk hb HXBw1.out); have cB_0_w2 : w2.cell? ⟨w.heap.size, 0, none⟩ = some (.int .u32 0) := (blk_cell HXBw2.out 0).trans rfl; have zB_0_w2 : w2.frozen? ⟨w.heap.size, 0, none⟩ = false := blk_fz HXBw2.out 0; have cB_1_w2 : w2.cell? ⟨w.heap.size, 1, none⟩ = some (.int .u32 0) := (blk_cell HXBw2.out 1).trans rfl; have zB_1_w2 : w2.frozen? ⟨w.heap.size, 1, none⟩ = false := blk_fz HXBw2.out 1; rw [show (⟨lo.toArray⟩ : ByteArray).data.toList = lo from rfl, HN.out] at hf ⊢; have hv : v = .nilIface := hf; subst hv; clear hf; clear hb)
    | (go_at_call 26; obtain ⟨m, hm⟩ := HI0.out.ml; have C := Tryz.strings_Cut s ⟨#[45]⟩ m (w.alloc (.cells #[.int .u32 0, .int .u32 0] 28)) (by omega) hm; rw [show Lib.cut s.data.toList (⟨#[45]⟩ : ByteArray).data.toList = _ from HCUT.out] at C; refine Calls.mono C ?_; clear C hm; rintro e w' ⟨rfl, n, rfl⟩; have HBw1 : Hid (Below w.heap.size w ((w.alloc (.cells #[.int .u32 0, .int .u32 0] 28)).drewN n)) := below_drewN ((Below.refl _ _).alloc (Nat.le_refl _) _) n; have HXBw1 : Hid (((w.alloc (.cells #[.int .u32 0, .int .u32 0] 28)).drewN n).heap[w.heap.size]? = some (.cells #[.int .u32 0, .int .u32 0] 28 (0, 0))) := blk_new w _; generalize (w.alloc (.cells #[.int .u32 0, .int .u32 0] 28)).drewN n = w1 at HBw1 HXBw1 ⊢; have cB_0_w1 : w1.cell? ⟨w.heap.size, 0, none⟩ = some (.int .u32 0) := (blk_cell HXBw1.out 0).trans rfl; have zB_0_w1 : w1.frozen? ⟨w.heap.size, 0, none⟩ = false := blk_fz HXBw1.out 0; have cB_1_w1 : w1.cell? ⟨w.heap.size, 1, none⟩ = some (.int .u32 0) := (blk_cell HXBw1.out 1).trans rfl; have zB_1_w1 : w1.frozen? ⟨w.heap.size, 1, none⟩ = false := blk_fz HXBw1.out 1))
  refine bodyPost_ret (v := .tuple #[.agg #[.int .u32 0, .int .u32 0], v]) (by simp [results, Tryz.results16, go_sem, set2_c0 HXBw5.out, set2_c1 HXBw5.out]) rfl ⟨_, rfl, ?_, (HBw5.out.setCell (Nat.le_refl _) _).setCell (Nat.le_refl _) _⟩
  exact (HF5.out.set HI.out.is (Nat.le_refl _) HXBw5.out (by decide) 0 _).set HI.out.is (Nat.le_refl _) (set_blk HXBw5.out 0 _) (by decide) 1 _

set_option maxHeartbeats 1000000 in
theorem parse_two (s : ByteArray) (lo hi : List UInt8) (tw : Bool) (w : World) (hI : AInv w) (hs : s.size ≤ 4000000000) (hcut : Lib.cut s.data.toList [45] = (lo, hi, tw)) (f t : Int) (hn : numS lo = (f, none)) (ht : tw = true) (hn2 : numS hi = (t, none)) (hft : ¬ t ≤ f) :
    Calls Tryz.prog 16 #[.string s] w fun e w' => ∃ v, e = .returned (.tuple #[.agg #[.int .u32 f, .int .u32 t], v]) ∧ FltIs w' v none ∧ Below w.heap.size w w' := by
  have z1 : lo.length ≤ s.size := by have := (cut_sizes s.data.toList [45]).1; rw [hcut] at this; rw [Lib.size_eq]; exact this
  have z2 : hi.length ≤ s.size := by have := (cut_sizes s.data.toList [45]).2; rw [hcut] at this; rw [Lib.size_eq]; exact this
  have HI := Lib.hid hI
  have HI0 := Lib.hid (hI.below ((Below.refl w.heap.size w).alloc (Nat.le_refl _) (.cells #[.int .u32 0, .int .u32 0] 28)))
  have HCUT := Lib.hid hcut
  subst ht
  have HN := Lib.hid hn
  have HN2 := Lib.hid hn2
  clear hI hn hn2 hcut
  go_enter Tryz.func16, Tryz.ntmps16
  go_wp2_with (first
    | (go_at_call 28; have C := as_nil (.iface 56 (.pointer (some ⟨w3.heap.size, 0, none⟩))) (w3.alloc (.cells #[.pointer none] 54)); (with_reducible refine Calls.mono C ?_); clear C; rintro e w' ⟨rfl, rfl⟩; have HBw4 := Lib.hid (HBw3.out.alloc HBw3.out.size (.cells #[.pointer none] 54)); have HXBw4 := Lib.hid (below_blk ((Below.refl w3.heap.size w3).alloc (Nat.le_refl _) (.cells #[.pointer none] 54)) HXBw3.out); generalize w3.alloc (.cells #[.pointer none] 54) = w4 at HBw4 HXBw4 ⊢; have cB_0_w4 : w4.cell? ⟨w.heap.size, 0, none⟩ = some (.int .u32 0) := (blk_cell HXBw4.out 0).trans rfl; have zB_0_w4 : w4.frozen? ⟨w.heap.size, 0, none⟩ = false := blk_fz HXBw4.out 0; have cB_1_w4 : w4.cell? ⟨w.heap.size, 1, none⟩ = some (.int .u32 0) := (blk_cell HXBw4.out 1).trans rfl; have zB_1_w4 : w4.frozen? ⟨w.heap.size, 1, none⟩ = false := blk_fz HXBw4.out 1; obtain ⟨a, he, -⟩ := (HI.out.is.below HBw4.out).sent 6 (by omega) (by omega); have he' : w4.cell? ⟨0, 0, none⟩ = _ := he; have HC2 := Lib.hid (fault_any lo.length 6 _ w4 (by omega) (by omega) he _ _ rfl); clear he)
    | (go_at_call 27; have C := (number_any ⟨hi.toArray⟩ w2 (HI.out.below HBw2.out) (by rw [size_mk]; omega)); (with_reducible refine Calls.mono C ?_); clear C; rintro e w3 ⟨v, rfl, hf, hb⟩; have HBw3 := Lib.hid (below_to HBw2.out hb); have HXBw3 := Lib.hid (below_blk hb HXBw2.out); have cB_0_w3 : w3.cell? ⟨w.heap.size, 0, none⟩ = some (.int .u32 0) := (blk_cell HXBw3.out 0).trans rfl; have zB_0_w3 : w3.frozen? ⟨w.heap.size, 0, none⟩ = false := blk_fz HXBw3.out 0; have cB_1_w3 : w3.cell? ⟨w.heap.size, 1, none⟩ = some (.int .u32 0) := (blk_cell HXBw3.out 1).trans rfl; have zB_1_w3 : w3.frozen? ⟨w.heap.size, 1, none⟩ = false := blk_fz HXBw3.out 1; rw [show (⟨hi.toArray⟩ : ByteArray).data.toList = hi from rfl, HN2.out] at hf ⊢; have hv : v = .nilIface := hf; subst hv; clear hf; clear hb)
    | (go_at_call 27; have C := (number_any ⟨lo.toArray⟩ w1 (HI.out.below HBw1.out) (by rw [size_mk]; omega)); (with_reducible refine Calls.mono C ?_); clear C; rintro e w2 ⟨v, rfl, hf, hb⟩; have HBw2 := Lib.hid (below_to HBw1.out hb); have HXBw2 := Lib.hid (below_blk hb HXBw1.out); have cB_0_w2 : w2.cell? ⟨w.heap.size, 0, none⟩ = some (.int .u32 0) := (blk_cell HXBw2.out 0).trans rfl; have zB_0_w2 : w2.frozen? ⟨w.heap.size, 0, none⟩ = false := blk_fz HXBw2.out 0; have cB_1_w2 : w2.cell? ⟨w.heap.size, 1, none⟩ = some (.int .u32 0) := (blk_cell HXBw2.out 1).trans rfl; have zB_1_w2 : w2.frozen? ⟨w.heap.size, 1, none⟩ = false := blk_fz HXBw2.out 1; rw [show (⟨lo.toArray⟩ : ByteArray).data.toList = lo from rfl, HN.out] at hf ⊢; have hv : v = .nilIface := hf; subst hv; clear hf; clear hb)
    | (go_at_call 26; obtain ⟨m, hm⟩ := HI0.out.ml; have C := Tryz.strings_Cut s ⟨#[45]⟩ m (w.alloc (.cells #[.int .u32 0, .int .u32 0] 28)) (by omega) hm; rw [show Lib.cut s.data.toList (⟨#[45]⟩ : ByteArray).data.toList = _ from HCUT.out] at C; refine Calls.mono C ?_; clear C hm; rintro e w' ⟨rfl, n, rfl⟩; have HBw1 : Hid (Below w.heap.size w ((w.alloc (.cells #[.int .u32 0, .int .u32 0] 28)).drewN n)) := below_drewN ((Below.refl _ _).alloc (Nat.le_refl _) _) n; have HXBw1 : Hid (((w.alloc (.cells #[.int .u32 0, .int .u32 0] 28)).drewN n).heap[w.heap.size]? = some (.cells #[.int .u32 0, .int .u32 0] 28 (0, 0))) := blk_new w _; generalize (w.alloc (.cells #[.int .u32 0, .int .u32 0] 28)).drewN n = w1 at HBw1 HXBw1 ⊢; have cB_0_w1 : w1.cell? ⟨w.heap.size, 0, none⟩ = some (.int .u32 0) := (blk_cell HXBw1.out 0).trans rfl; have zB_0_w1 : w1.frozen? ⟨w.heap.size, 0, none⟩ = false := blk_fz HXBw1.out 0; have cB_1_w1 : w1.cell? ⟨w.heap.size, 1, none⟩ = some (.int .u32 0) := (blk_cell HXBw1.out 1).trans rfl; have zB_1_w1 : w1.frozen? ⟨w.heap.size, 1, none⟩ = false := blk_fz HXBw1.out 1))
  refine bodyPost_ret (v := .tuple #[.agg #[.int .u32 f, .int .u32 t], .nilIface]) (by simp [results, Tryz.results16, go_sem, set2_c0 HXBw4.out, set2_c1 HXBw4.out]) rfl ⟨_, rfl, ?_, (HBw4.out.setCell (Nat.le_refl _) _).setCell (Nat.le_refl _) _⟩
  exact rfl

set_option maxHeartbeats 1000000 in
theorem parse_high (s : ByteArray) (lo hi : List UInt8) (tw : Bool) (w : World) (hI : AInv w) (hs : s.size ≤ 4000000000) (hcut : Lib.cut s.data.toList [45] = (lo, hi, tw)) (f t xa : Int) (xc : Nat) (hn : numS lo = (f, none)) (ht : tw = true) (hn2 : numS hi = (t, some (xa, xc))) (h0 : 0 ≤ xa) (h1 : xa ≤ hi.length) (hc1 : 1 ≤ xc) (hc2 : xc ≤ 18) :
    Calls Tryz.prog 16 #[.string s] w fun e w' => ∃ v, e = .returned (.tuple #[.agg #[.int .u32 0, .int .u32 0], v]) ∧ FltIs w' v (some (xa + lo.length + 1, xc)) ∧ Below w.heap.size w w' := by
  have z1 : lo.length ≤ s.size := by have := (cut_sizes s.data.toList [45]).1; rw [hcut] at this; rw [Lib.size_eq]; exact this
  have z2 : hi.length ≤ s.size := by have := (cut_sizes s.data.toList [45]).2; rw [hcut] at this; rw [Lib.size_eq]; exact this
  have HI := Lib.hid hI
  have HI0 := Lib.hid (hI.below ((Below.refl w.heap.size w).alloc (Nat.le_refl _) (.cells #[.int .u32 0, .int .u32 0] 28)))
  have HCUT := Lib.hid hcut
  subst ht
  have HN := Lib.hid hn
  have HN2 := Lib.hid hn2
  have HSV : Hid (∀ (x : World) (u : Value), Below w.heap.size w x → x.cell? ⟨gidx xc, 0, none⟩ = some u → ∀ n, Calls Tryz.prog 29 #[.int .i64 (xa + lo.length + 1), u] (x.drewN n) fun e w' => ∃ v, e = .returned v ∧ FltIs w' v (some (xa + lo.length + 1, xc)) ∧ Below (x.drewN n).heap.size (x.drewN n) w') := (fun x u hb hu n => by
    obtain ⟨a, he, -⟩ := (hI.is.below hb).sent xc hc1 hc2
    rw [hu] at he
    injection he with he
    exact fault_any _ xc u (x.drewN n) hc1 hc2 hu _ _ he)
  have HC12 := Lib.hid (And.intro hc1 hc2)
  clear hc1 hc2
  clear hI hn hn2 hcut
  go_enter Tryz.func16, Tryz.ntmps16
  go_wp2_with (first
    | (go_at_call 28; have C := as_fault ⟨g, 0, none⟩ w3 (HI.out.is.below HBw3.out).et; (with_reducible refine Calls.mono C ?_); clear C; rintro e w4 ⟨rfl, ht, hb⟩; have HBw4 := Lib.hid (below_to HBw3.out hb); have HXBw4 := Lib.hid (below_blk hb HXBw3.out); have cB_0_w4 : w4.cell? ⟨w.heap.size, 0, none⟩ = some (.int .u32 0) := (blk_cell HXBw4.out 0).trans rfl; have zB_0_w4 : w4.frozen? ⟨w.heap.size, 0, none⟩ = false := blk_fz HXBw4.out 0; have cB_1_w4 : w4.cell? ⟨w.heap.size, 1, none⟩ = some (.int .u32 0) := (blk_cell HXBw4.out 1).trans rfl; have zB_1_w4 : w4.frozen? ⟨w.heap.size, 1, none⟩ = false := blk_fz HXBw4.out 1; have HGw4 := Lib.hid (below_blk hb HGw3.out); have k0 : w4.cell? ⟨g, 0, none⟩ = some (.int .i64 xa) := (blk_cell HGw4.out 0).trans rfl; have k1 : w4.cell? ⟨g, 1, none⟩ = some u := (blk_cell HGw4.out 1).trans rfl; have HC2 : Hid (Calls Tryz.prog 29 #[.int .i64 (xa + lo.length + 1), u] w4.drew fun e w' => ∃ v, e = .returned v ∧ FltIs w' v (some (xa + lo.length + 1, xc)) ∧ Below w4.drew.heap.size w4.drew w') := (HSV.out w4 u (HBw4.out) (cell_in hb HUw3.out) 1); clear hb)
    | (go_at_call 27; have C := (number_any ⟨hi.toArray⟩ w2 (HI.out.below HBw2.out) (by rw [size_mk]; omega)); (with_reducible refine Calls.mono C ?_); clear C; rintro e w3 ⟨v, rfl, hf, hb⟩; have HBw3 := Lib.hid (below_to HBw2.out hb); have HXBw3 := Lib.hid (below_blk hb HXBw2.out); have cB_0_w3 : w3.cell? ⟨w.heap.size, 0, none⟩ = some (.int .u32 0) := (blk_cell HXBw3.out 0).trans rfl; have zB_0_w3 : w3.frozen? ⟨w.heap.size, 0, none⟩ = false := blk_fz HXBw3.out 0; have cB_1_w3 : w3.cell? ⟨w.heap.size, 1, none⟩ = some (.int .u32 0) := (blk_cell HXBw3.out 1).trans rfl; have zB_1_w3 : w3.frozen? ⟨w.heap.size, 1, none⟩ = false := blk_fz HXBw3.out 1; rw [show (⟨hi.toArray⟩ : ByteArray).data.toList = hi from rfl, HN2.out] at hf ⊢; have HF : Hid (FltIs w3 v (some (xa, xc))) := hf; clear hf; obtain ⟨-, -, g, u, rfl, hg, hu⟩ := HF.out; have HGw3 := Lib.hid hg; have HUw3 := Lib.hid hu; clear hg hu; clear hb)
    | (go_at_call 27; have C := (number_any ⟨lo.toArray⟩ w1 (HI.out.below HBw1.out) (by rw [size_mk]; omega)); (with_reducible refine Calls.mono C ?_); clear C; rintro e w2 ⟨v, rfl, hf, hb⟩; have HBw2 := Lib.hid (below_to HBw1.out hb); have HXBw2 := Lib.hid (below_blk hb HXBw1.out); have cB_0_w2 : w2.cell? ⟨w.heap.size, 0, none⟩ = some (.int .u32 0) := (blk_cell HXBw2.out 0).trans rfl; have zB_0_w2 : w2.frozen? ⟨w.heap.size, 0, none⟩ = false := blk_fz HXBw2.out 0; have cB_1_w2 : w2.cell? ⟨w.heap.size, 1, none⟩ = some (.int .u32 0) := (blk_cell HXBw2.out 1).trans rfl; have zB_1_w2 : w2.frozen? ⟨w.heap.size, 1, none⟩ = false := blk_fz HXBw2.out 1; rw [show (⟨lo.toArray⟩ : ByteArray).data.toList = lo from rfl, HN.out] at hf ⊢; have hv : v = .nilIface := hf; subst hv; clear hf; clear hb)
    | (go_at_call 26; obtain ⟨m, hm⟩ := HI0.out.ml; have C := Tryz.strings_Cut s ⟨#[45]⟩ m (w.alloc (.cells #[.int .u32 0, .int .u32 0] 28)) (by omega) hm; rw [show Lib.cut s.data.toList (⟨#[45]⟩ : ByteArray).data.toList = _ from HCUT.out] at C; refine Calls.mono C ?_; clear C hm; rintro e w' ⟨rfl, n, rfl⟩; have HBw1 : Hid (Below w.heap.size w ((w.alloc (.cells #[.int .u32 0, .int .u32 0] 28)).drewN n)) := below_drewN ((Below.refl _ _).alloc (Nat.le_refl _) _) n; have HXBw1 : Hid (((w.alloc (.cells #[.int .u32 0, .int .u32 0] 28)).drewN n).heap[w.heap.size]? = some (.cells #[.int .u32 0, .int .u32 0] 28 (0, 0))) := blk_new w _; generalize (w.alloc (.cells #[.int .u32 0, .int .u32 0] 28)).drewN n = w1 at HBw1 HXBw1 ⊢; have cB_0_w1 : w1.cell? ⟨w.heap.size, 0, none⟩ = some (.int .u32 0) := (blk_cell HXBw1.out 0).trans rfl; have zB_0_w1 : w1.frozen? ⟨w.heap.size, 0, none⟩ = false := blk_fz HXBw1.out 0; have cB_1_w1 : w1.cell? ⟨w.heap.size, 1, none⟩ = some (.int .u32 0) := (blk_cell HXBw1.out 1).trans rfl; have zB_1_w1 : w1.frozen? ⟨w.heap.size, 1, none⟩ = false := blk_fz HXBw1.out 1))
  have zl := size_mk lo
  have e1 : IntKind.i64.wrap (xa + (lo.length : Int)) = xa + lo.length := IntWalk.i64_in _ (by omega)
  have e2 : IntKind.i64.wrap (xa + (lo.length : Int) + 1) = xa + lo.length + 1 := IntWalk.i64_in _ (by omega)
  have HBd : Hid (Below w.heap.size w w4.drew) := HBw4.out.drew
  have HXBd : Hid (w4.drew.heap[w.heap.size]? = some (.cells #[.int .u32 0, .int .u32 0] 28 (0, 0))) := HXBw4.out
  go_region_with (first
    | (go_at_call 29; have C := HC2.out; (with_reducible refine Calls.mono C ?_); clear C; rintro e w5 ⟨v, rfl, hf, hb⟩; have HBw5 := Lib.hid (below_to HBd.out hb); have HXBw5 := Lib.hid (below_blk hb HXBd.out); have cB_0_w5 : w5.cell? ⟨w.heap.size, 0, none⟩ = some (.int .u32 0) := (blk_cell HXBw5.out 0).trans rfl; have zB_0_w5 : w5.frozen? ⟨w.heap.size, 0, none⟩ = false := blk_fz HXBw5.out 0; have cB_1_w5 : w5.cell? ⟨w.heap.size, 1, none⟩ = some (.int .u32 0) := (blk_cell HXBw5.out 1).trans rfl; have zB_1_w5 : w5.frozen? ⟨w.heap.size, 1, none⟩ = false := blk_fz HXBw5.out 1; have HF5 := Lib.hid hf; clear hf; clear hb))
  all_goals
    go_wp2
    simp only [Act.put, List.setIfInBounds_toArray, List.set_cons_zero, List.set_cons_succ]
    refine bodyPost_ret (v := .tuple #[.agg #[.int .u32 0, .int .u32 0], v]) (by simp [results, Tryz.results16, go_sem, set2_c0 HXBw5.out, set2_c1 HXBw5.out]) rfl ⟨_, rfl, ?_, (HBw5.out.setCell (Nat.le_refl _) _).setCell (Nat.le_refl _) _⟩
    exact (HF5.out.set HI.out.is (Nat.le_refl _) HXBw5.out (by decide) 0 _).set HI.out.is (Nat.le_refl _) (set_blk HXBw5.out 0 _) (by decide) 1 _

theorem numS_at (l : List UInt8) (t xa : Int) (xc : Nat) (h : numS l = (t, some (xa, xc))) : 0 ≤ xa ∧ xa ≤ l.length ∧ 1 ≤ xc ∧ xc ≤ 18 := by
  unfold numS at h
  split at h
  · injection h with _ h; injection h with h; injection h with h1 h2; subst h1; subst h2; omega
  · split at h
    · rename_i i hi
      obtain ⟨hl, -⟩ := List.findIdx?_eq_some_iff_getElem.1 hi
      injection h with _ h; injection h with h; injection h with h1 h2; subst h1; subst h2; omega
    · split at h
      · injection h with _ h; injection h with h; injection h with h1 h2; subst h1; subst h2; omega
      · split at h
        · injection h with _ h; cases h
        · injection h with _ h; injection h with h; injection h with h1 h2; subst h1; subst h2; omega
/-- asn.Parse, at every text. -/
theorem parse_any (s : ByteArray) (w : World) (hI : AInv w) (hs : s.size ≤ 4000000000) :
    Calls Tryz.prog 16 #[.string s] w fun e w' => ∃ v, e = .returned (.tuple #[.agg #[.int .u32 (parseS s.data.toList).1.1, .int .u32 (parseS s.data.toList).1.2], v]) ∧ FltIs w' v (parseS s.data.toList).2 ∧ Below w.heap.size w w' := by
  obtain ⟨lo, hi, tw, hcut⟩ : ∃ lo hi tw, Lib.cut s.data.toList [45] = (lo, hi, tw) := ⟨_, _, _, rfl⟩
  unfold parseS
  rw [hcut]
  simp only
  obtain ⟨f, x, hn⟩ : ∃ f x, numS lo = (f, x) := ⟨_, _, rfl⟩
  rw [hn]
  cases x with
  | some x => obtain ⟨xa, xc⟩ := x; exact parse_low s lo hi tw w hI hs hcut f xa xc hn
  | none =>
    cases tw with
    | false => exact parse_one s lo hi false w hI hs hcut f hn rfl
    | true =>
      simp only [if_true]
      obtain ⟨t, y, hn2⟩ : ∃ t y, numS hi = (t, y) := ⟨_, _, rfl⟩
      rw [hn2]
      cases y with
      | some y =>
        obtain ⟨ya, yc⟩ := y
        obtain ⟨h0, h1, h2, h3⟩ := numS_at hi t ya yc hn2
        exact parse_high s lo hi true w hI hs hcut f t ya yc hn rfl hn2 h0 h1 h2 h3
      | none =>
        simp only
        split
        · exact parse_order s lo hi true w hI hs hcut f t hn rfl hn2 (by assumption)
        · exact parse_two s lo hi true w hI hs hcut f t hn rfl hn2 (by assumption)
end Go.Proofs.YtanbnlobbgfidaaGreatDoor
