/- strconv.FormatUint at base 10, asn.digits and asn.Text. -/
import Derived.Test.YtanbnlobbgfidaaGreatDoorNu
import Derived.Shelf.Strconv.Itoa3
import Derived.Lib.ItoaMem
import Derived.Shelf.SlSorted.Search
import Derived.BigCall
import Derived.BigGuard
namespace Go.Proofs.YtanbnlobbgfidaaGreatDoor
set_option linter.unusedSimpArgs false
set_option linter.unusedVariables false
open Go.RowKit Go.Lib Go.Sort

/-- The table of the powers of ten. -/
def Pow10 (w : World) : Prop := Lib.TabIs Tryz.prog w "internal/strconv.uint64pow10" .u64 Lib.pow10Tab
theorem Pow10.below {w w' : World} (h : Pow10 w) (hb : Below w.heap.size w w') : Pow10 w' := by
  unfold Pow10 Lib.TabIs World.var? at *
  cases hg : Tryz.prog.globalNamed "internal/strconv.uint64pow10" with
  | none => simp [hg] at h
  | some g =>
    simp only [hg, Option.bind_some] at h ⊢
    have hlt : g < w.heap.size := by
      refine Classical.byContradiction fun hn => ?_
      rw [Array.getElem?_eq_none (by omega)] at h
      simp at h
    rw [hb.block g hlt]
    exact h

set_option maxRecDepth 100000 in
set_option maxHeartbeats 6400000 in
theorem formatUint_in (u : Nat) (hu64 : u < 18446744073709551616) (w : World) (htab : Pow10 w) :
    Calls Tryz.prog 58 #[.int .u64 u, .int .i64 10] w fun e w' => e = .returned (.string ⟨(Lib.decDigits u).toArray⟩) ∧ ∃ k os, w' = grow (w.drewN k) os := by
  by_cases hs : u < 100
  · have C := Lib.hid (Tryz.internal_strconv_small u hs w)
    have hs' : (u : Int) < 100 := by omega
    have e1 : IntKind.i64.wrap (u : Int) = (u : Int) := IntWalk.i64_in _ (by omega)
    go_enter Tryz.func58, Tryz.ntmps58
    go_wp2_with (go_at_call 69; refine C.out.mono ?_; rintro e w' ⟨rfl, rfl⟩)
    go_ret
    exact ⟨rfl, 0, #[], by simp [World.drewN_zero]⟩
  · have hu1 : 1 ≤ u := by omega
    have hs' : ¬ (u : Int) < 100 := by omega
    have hnd20 : Lib.nDigits u ≤ 20 := by have := Lib.numDigits_eq u hu1 hu64; split at this <;> omega
    have hb3 : Lib.nDigits u ≤ 23 := by omega
    have hal : Tryz.prog.arrayLen 124 = 24 := by kernel_rfl
    have hsl1 : ∀ W, (Instr.sliceAt 124 (.pointer (some ⟨w.heap.size, 0, none⟩)) none (some (.int .i64 (Lib.nDigits u : Int))) none).run Tryz.prog W = .ok (.slice (some ⟨w.heap.size, 0, none⟩) (Lib.nDigits u) 24) W := fun W => by
      rw [run_sliceAt_array_h W 124 ⟨w.heap.size, 0, none⟩ (by kernel_rfl) .i64 (Lib.nDigits u : Int) (by omega) (by rw [hal]; omega)]
      go_simp
    have hH0 : Holds (fun (b : UInt8) => Value.int .u8 (b.toNat : Int)) (w.alloc (.cells Lib.zeros24 124)) w.heap.size 0 (Array.replicate (Lib.nDigits u) 0) := fun j hj => by
      have hj' : j < Lib.nDigits u := by simpa using hj
      refine ⟨?_, World.frozen?_alloc_new _ _ _ _⟩
      rw [World.cell?_alloc_new, Lib.zeros24_at _ (by omega), getElem!_pos _ j hj]
      simp
    have hfmt := Tryz.internal_strconv_formatBase10 w.heap.size 0 24 u (Array.replicate (Lib.nDigits u) 0) (w.alloc (.cells Lib.zeros24 124)) hH0 (by rw [Array.size_replicate]; exact Lib.lt_pow_nDigits u) hu64 (by rw [Array.size_replicate]; omega)
    rw [Array.size_replicate] at hfmt
    have HH0 := Lib.hid hH0
    clear hH0 hal
    go_enter Tryz.func58, Tryz.ntmps58
    go_wp2_with (go_at_call 70; refine (Tryz.internal_strconv_numDigits u hu1 hu64 _ (Lib.tabIs_alloc htab _)).mono ?_; rintro e w' ⟨rfl, rfl⟩)
    go_at_call 71
    refine hfmt.mono ?_
    rintro e w' ⟨rfl, k, v', dk, rfl, hF⟩
    have hcv : (convert 70 9 (.slice (some ⟨w.heap.size, 0, none⟩) (Lib.nDigits u) 24)).run Tryz.prog ((putRow (fun (b : UInt8) => Value.int .u8 (b.toNat : Int)) (w.alloc (.cells Lib.zeros24 124)) w.heap.size 0 dk).drewN k) = .ok (.string ⟨(Lib.decDigits u).toArray⟩) ((putRow (fun (b : UInt8) => Value.int .u8 (b.toNat : Int)) (w.alloc (.cells Lib.zeros24 124)) w.heap.size 0 dk).drewN k) := by
      have h := run_convert_bytes_back (P := Tryz.prog) ((putRow (fun (b : UInt8) => Value.int .u8 (b.toNat : Int)) (w.alloc (.cells Lib.zeros24 124)) w.heap.size 0 dk).drewN k) 70 9 5 ⟨w.heap.size, 0, none⟩ 24 (Lib.decDigits u) Tryz.underlying70 Tryz.underlying5 Tryz.underlying9 (fun j hj => by
        rw [Lib.row_is_numeral hF j hj, Lib.add_plain, World.cell?_drewN]
        exact cell?_putRow (fun (b : UInt8) => Value.int .u8 (b.toNat : Int)) _ w.heap.size 0 _ dk HH0.out (by rw [hF.size, Array.size_replicate]) j (by rw [hF.size]; rw [Lib.decDigits_length] at hj; exact hj))
      rw [Lib.decDigits_length] at h
      exact h
    go_wp2
    go_ret
    refine ⟨rfl, ?_⟩
    rw [alloc_eq_grow]
    obtain ⟨os', _, e⟩ := putRow_grow_new (fun (b : UInt8) => Value.int .u8 (b.toNat : Int)) w #[.cells Lib.zeros24 124] w.heap.size 0 dk (Nat.le_refl _)
    exact ⟨k, os', by rw [e]; rfl⟩
theorem formatUint_any (u : Nat) (hu64 : u < 18446744073709551616) (w : World) (htab : Pow10 w) :
    Calls Tryz.prog 38 #[.int .u64 u, .int .i64 10] w fun e w' => e = .returned (.string ⟨(Lib.decDigits u).toArray⟩) ∧ Below w.heap.size w w' := by
  have C := Lib.hid (formatUint_in u hu64 w htab)
  go_enter Tryz.func38, Tryz.ntmps38
  go_wp2_with (go_at_call 58; refine C.out.mono ?_; rintro e w' ⟨rfl, q, os, rfl⟩)
  go_ret
  exact ⟨rfl, Go.Proofs.below_grown_sl w.heap.size w q os (Nat.le_refl _)⟩
theorem digits_any (u : Nat) (hu : u < 4294967296) (w : World) (htab : Pow10 w) :
    Calls Tryz.prog 24 #[.int .u32 u] w fun e w' => e = .returned (.string ⟨(Lib.decDigits u).toArray⟩) ∧ Below w.heap.size w w' := by
  have C := Lib.hid (formatUint_any u (by omega) w htab)
  have e1 : IntKind.u64.wrap (u : Int) = (u : Int) := IntWalk.u64_in _ (by omega)
  go_enter Tryz.func24, Tryz.ntmps24
  go_wp2_with (go_at_call 38; refine C.out.mono ?_; rintro e w' ⟨rfl, hb⟩; have HB := Lib.hid hb; clear hb)
  go_ret
  exact ⟨rfl, HB.out⟩

theorem dec_len (a : Nat) (h : a < 4294967296) : Lib.nDigits a ≤ 20 := by
  by_cases h1 : 1 ≤ a
  · have := Lib.numDigits_eq a h1 (by omega); split at this <;> omega
  · obtain rfl : a = 0 := by omega
    rw [← Lib.decDigits_length, Lib.decDigits_one (by omega)]
    simp
/-- asn.Text. -/
def textS (a b : Nat) : List UInt8 := if a > b then [] else if a = b then Lib.decDigits a else Lib.decDigits a ++ [45] ++ Lib.decDigits b
theorem text_any (a b : Nat) (ha : a < 4294967296) (hb : b < 4294967296) (w : World) (htab : Pow10 w) :
    Calls Tryz.prog 14 #[.agg #[.int .u32 a, .int .u32 b]] w fun e w' => e = .returned (.string ⟨(textS a b).toArray⟩) ∧ Below w.heap.size w w' := by
  unfold textS
  have HT := Lib.hid htab
  clear htab
  by_cases h1 : a > b
  · rw [if_pos h1]
    have h1' : (a : Int) > (b : Int) := by omega
    go_enter Tryz.func14, Tryz.ntmps14
    go_wp2
    (try rw [Exit.noGoto_ret])
    go_ret
    exact ⟨rfl, (Below.refl _ _).alloc (Nat.le_refl _) _⟩
  · rw [if_neg h1]
    have h1' : ¬ (a : Int) > (b : Int) := by omega
    have HB1 : Hid (Below w.heap.size w (w.alloc (.cells #[.int .u32 a, .int .u32 b] 28))) := (Below.refl _ _).alloc (Nat.le_refl _) _
    have HX1 : Hid ((w.alloc (.cells #[.int .u32 a, .int .u32 b] 28)).heap[w.heap.size]? = some (.cells #[.int .u32 a, .int .u32 b] 28 (0, 0))) := blk_new w _
    have HT1 := Lib.hid (HT.out.below ((Below.refl w.heap.size w).alloc (Nat.le_refl _) (.cells #[.int .u32 a, .int .u32 b] 28)))
    by_cases h2 : a = b
    · rw [if_pos h2]
      subst h2
      have C := Lib.hid (digits_any a ha _ HT1.out)
      go_enter Tryz.func14, Tryz.ntmps14
      go_wp2_with (go_at_call 24; refine C.out.mono ?_; rintro e w' ⟨rfl, hb⟩; have HB := Lib.hid (below_to HB1.out hb); clear hb)
      (try rw [Exit.noGoto_ret])
      go_ret
      exact ⟨rfl, HB.out⟩
    · rw [if_neg h2]
      have h2' : ((a : Int) == (b : Int)) = false := by rw [beq_eq_false_iff_ne]; omega
      skip -- (.cells #[.int .u32 a, .int .u32 b] 28)).heap.size (w.alloc (.cells #[.int .u32 a, .int .u32 b] 28)) x) => digits_any a ha x (HT1.out.below hx))
      skip -- (.cells #[.int .u32 a, .int .u32 b] 28)).heap.size (w.alloc (.cells #[.int .u32 a, .int .u32 b] 28)) x) => digits_any b hb x (HT1.out.below hx))
      go_enter Tryz.func14, Tryz.ntmps14
      go_wp2
      have cB0 : (w.alloc (.cells #[.int .u32 a, .int .u32 b] 28)).cell? ⟨w.heap.size, 0, none⟩ = some (.int .u32 a) := (blk_cell HX1.out 0).trans rfl
      have cB1 : (w.alloc (.cells #[.int .u32 a, .int .u32 b] 28)).cell? ⟨w.heap.size, 1, none⟩ = some (.int .u32 b) := (blk_cell HX1.out 1).trans rfl
      have hB1 := HB1.out
      have hT1 := HT1.out
      generalize w.alloc (.cells #[.int .u32 a, .int .u32 b] 28) = w1 at hB1 hT1 cB0 cB1 ⊢
      have hla : ((Lib.decDigits a).length : Int) ≤ 100 := by rw [Lib.decDigits_length]; have := dec_len a ha; omega
      have hlb : ((Lib.decDigits b).length : Int) ≤ 100 := by rw [Lib.decDigits_length]; have := dec_len b hb; omega
      have hadd1 : ∀ W, (Op.stringOp .add ⟨(Lib.decDigits a).toArray⟩ ⟨#[45]⟩).run Tryz.prog W = .ok (.string ⟨(Lib.decDigits a ++ [45]).toArray⟩) W := fun W => run_string_add_lists W (Lib.decDigits a) [45] (by omega) (by simp)
      have hadd2 : ∀ W, (Op.stringOp .add ⟨(Lib.decDigits a ++ [45]).toArray⟩ ⟨(Lib.decDigits b).toArray⟩).run Tryz.prog W = .ok (.string ⟨(Lib.decDigits a ++ [45] ++ Lib.decDigits b).toArray⟩) W := fun W => run_string_add_lists W (Lib.decDigits a ++ [45]) (Lib.decDigits b) (by simp; omega) (by omega)
      have hadd2' := hadd2
      simp only [List.append_assoc, List.singleton_append] at hadd2'
      go_region_held3 (fun x => Below w.heap.size w x ∧ Pow10 x ∧ x.cell? ⟨w.heap.size, 0, none⟩ = some (.int .u32 a) ∧ x.cell? ⟨w.heap.size, 1, none⟩ = some (.int .u32 b)) (first
        | (refine ⟨?_, ?_, ?_, ?_⟩ <;> assumption)
        | (refine ⟨Below.drew ?_, ?_, ?_, ?_⟩ <;> assumption)
        | (trace_state; fail)) (first
        | (go_at_call 24; obtain ⟨kB, kT, k0, k1⟩ := ‹Below w.heap.size w _ ∧ Pow10 _ ∧ _›; with_reducible refine Calls.mono (digits_any a ha _ kT) ?_; rintro e w' ⟨rfl, hb⟩; have nB := below_to kB hb; have nT := Pow10.below kT hb; have n0 := cell_in hb k0; have n1 := cell_in hb k1; clear hb kB kT k0 k1)
        | (go_at_call 24; obtain ⟨kB, kT, k0, k1⟩ := ‹Below w.heap.size w _ ∧ Pow10 _ ∧ _›; with_reducible refine Calls.mono (digits_any b hb _ kT) ?_; rintro e w' ⟨rfl, hb⟩; have nB := below_to kB hb; have nT := Pow10.below kT hb; have n0 := cell_in hb k0; have n1 := cell_in hb k1; clear hb kB kT k0 k1))
      all_goals
        go_wp2
        go_ret
        exact ⟨by simp, nB⟩
end Go.Proofs.YtanbnlobbgfidaaGreatDoor
