/- AsnTexts: the law, for every span. -/
import Derived.Test.YtanbnlobbgfidaaGreatDoorTp
import Derived.Test.YtanbnlobbgfidaaGreatDoorAw
namespace Go.Proofs.YtanbnlobbgfidaaGreatDoor
set_option linter.unusedSimpArgs false
set_option linter.unusedVariables false
open Go.RowKit Go.Lib

set_option maxRecDepth 20000 in
set_option maxHeartbeats 2000000 in
theorem texts_bad (a b : Int) (y0 : Int) (y1 : Nat) (t : ByteArray) (w : World) (hx : a > b)
    (h5 : ∀ y, Below w.heap.size w y → Calls Tryz.prog 7 #[] y fun e w' => e = .returned (.bool true) ∧ Below y.heap.size y w')
    (h6 : ∀ y, Below w.heap.size w y → Calls Tryz.prog 14 #[.agg #[.int .u32 a, .int .u32 b]] y fun e w' => e = .returned (.string t) ∧ Below y.heap.size y w')
    (h7 : ∀ y, Below w.heap.size w y → Calls Tryz.prog 15 #[.agg #[.int .u32 a, .int .u32 b]] y fun e w' => e = .returned (.string t) ∧ Below y.heap.size y w')
    (h8 : ∀ y, Below w.heap.size w y → Calls Tryz.prog 16 #[.string t] y fun e w' => ∃ v, e = .returned (.tuple #[.agg #[.int .u32 0, .int .u32 0], v]) ∧ FltIs w' v (some (y0, y1)) ∧ Below y.heap.size y w') :
    Calls Tryz.prog 5 #[.agg #[.int .u32 a, .int .u32 b]] w fun e w' => e = .returned (.bool true) ∧ Below w.heap.size w w' := by
  have HK5 := Lib.hid h5
  have HK6 := Lib.hid h6
  have HK7 := Lib.hid h7
  have HK8 := Lib.hid h8
  clear h5 h6 h7 h8
  have HB0 : Hid (Below w.heap.size w (w.alloc (.cells #[.int .u32 a, .int .u32 b] 28))) := (Below.refl _ _).alloc (Nat.le_refl _) _
  have HX0 : Hid ((w.alloc (.cells #[.int .u32 a, .int .u32 b] 28)).heap[w.heap.size]? = some (.cells #[.int .u32 a, .int .u32 b] 28 (0, 0))) := blk_new w _
  go_enter Tryz.func5, Tryz.ntmps5
  go_wp2_with (first
    | (go_at_call 16; have C := HK8.out w3 HB3.out; (with_reducible refine Calls.mono C ?_); clear C; rintro e w4 ⟨v, rfl, hf, hb⟩; have HB4 := Lib.hid (below_to HB3.out hb); have HX4 := Lib.hid (below_blk hb HX3.out); obtain ⟨-, -, g, u, rfl, hg, hu⟩ := hf; clear hg hu; clear hb; have cB_0_w5 : (w4.alloc (.cells #[.int .u32 0, .int .u32 0] 28)).cell? ⟨w.heap.size, 0, none⟩ = some (.int .u32 a) := (blk_cell (below_blk ((Below.refl w4.heap.size w4).alloc (Nat.le_refl _) _) HX4.out) 0).trans rfl; have cB_1_w5 : (w4.alloc (.cells #[.int .u32 0, .int .u32 0] 28)).cell? ⟨w.heap.size, 1, none⟩ = some (.int .u32 b) := (blk_cell (below_blk ((Below.refl w4.heap.size w4).alloc (Nat.le_refl _) _) HX4.out) 1).trans rfl; have cD_0_w5 : (w4.alloc (.cells #[.int .u32 0, .int .u32 0] 28)).cell? ⟨w4.heap.size, 0, none⟩ = some (.int .u32 0) := (blk_cell (blk_new w4 _) 0).trans rfl; have cD_1_w5 : (w4.alloc (.cells #[.int .u32 0, .int .u32 0] 28)).cell? ⟨w4.heap.size, 1, none⟩ = some (.int .u32 0) := (blk_cell (blk_new w4 _) 1).trans rfl)
    | (go_at_call 15; have C := HK7.out w2 HB2.out; (with_reducible refine Calls.mono C ?_); clear C; rintro e w3 ⟨rfl, hb⟩; have HB3 := Lib.hid (below_to HB2.out hb); have HX3 := Lib.hid (below_blk hb HX2.out); clear hb)
    | (go_at_call 14; have C := HK6.out w1 HB1.out; (with_reducible refine Calls.mono C ?_); clear C; rintro e w2 ⟨rfl, hb⟩; have HB2 := Lib.hid (below_to HB1.out hb); have HX2 := Lib.hid (below_blk hb HX1.out); have cB_0_w2 : w2.cell? ⟨w.heap.size, 0, none⟩ = some (.int .u32 a) := (blk_cell HX2.out 0).trans rfl; have cB_1_w2 : w2.cell? ⟨w.heap.size, 1, none⟩ = some (.int .u32 b) := (blk_cell HX2.out 1).trans rfl; clear hb)
    | (go_at_call 7; refine (HK5.out _ HB0.out).mono ?_; rintro e w1 ⟨rfl, hb⟩; have HB1 := Lib.hid (below_to HB0.out hb); have HX1 := Lib.hid (below_blk hb HX0.out); have cB_0_w1 : w1.cell? ⟨w.heap.size, 0, none⟩ = some (.int .u32 a) := (blk_cell HX1.out 0).trans rfl; have cB_1_w1 : w1.cell? ⟨w.heap.size, 1, none⟩ = some (.int .u32 b) := (blk_cell HX1.out 1).trans rfl; clear hb))
  go_ret
  exact ⟨by simp, HB4.out.alloc HB4.out.size _⟩
set_option maxRecDepth 20000 in
set_option maxHeartbeats 2000000 in
theorem texts_ok (a b : Int) (t : ByteArray) (w : World) (hx : ¬ a > b)
    (h5 : ∀ y, Below w.heap.size w y → Calls Tryz.prog 7 #[] y fun e w' => e = .returned (.bool true) ∧ Below y.heap.size y w')
    (h6 : ∀ y, Below w.heap.size w y → Calls Tryz.prog 14 #[.agg #[.int .u32 a, .int .u32 b]] y fun e w' => e = .returned (.string t) ∧ Below y.heap.size y w')
    (h7 : ∀ y, Below w.heap.size w y → Calls Tryz.prog 15 #[.agg #[.int .u32 a, .int .u32 b]] y fun e w' => e = .returned (.string t) ∧ Below y.heap.size y w')
    (h8 : ∀ y, Below w.heap.size w y → Calls Tryz.prog 16 #[.string t] y fun e w' => ∃ v, e = .returned (.tuple #[.agg #[.int .u32 a, .int .u32 b], v]) ∧ FltIs w' v (none) ∧ Below y.heap.size y w') :
    Calls Tryz.prog 5 #[.agg #[.int .u32 a, .int .u32 b]] w fun e w' => e = .returned (.bool true) ∧ Below w.heap.size w w' := by
  have HK5 := Lib.hid h5
  have HK6 := Lib.hid h6
  have HK7 := Lib.hid h7
  have HK8 := Lib.hid h8
  clear h5 h6 h7 h8
  have HB0 : Hid (Below w.heap.size w (w.alloc (.cells #[.int .u32 a, .int .u32 b] 28))) := (Below.refl _ _).alloc (Nat.le_refl _) _
  have HX0 : Hid ((w.alloc (.cells #[.int .u32 a, .int .u32 b] 28)).heap[w.heap.size]? = some (.cells #[.int .u32 a, .int .u32 b] 28 (0, 0))) := blk_new w _
  go_enter Tryz.func5, Tryz.ntmps5
  go_wp2_with (first
    | (go_at_call 16; have C := HK8.out w3 HB3.out; (with_reducible refine Calls.mono C ?_); clear C; rintro e w4 ⟨v, rfl, hf, hb⟩; have HB4 := Lib.hid (below_to HB3.out hb); have HX4 := Lib.hid (below_blk hb HX3.out); have hv : v = .nilIface := hf; subst hv; clear hf; clear hb; have cB_0_w5 : (w4.alloc (.cells #[.int .u32 a, .int .u32 b] 28)).cell? ⟨w.heap.size, 0, none⟩ = some (.int .u32 a) := (blk_cell (below_blk ((Below.refl w4.heap.size w4).alloc (Nat.le_refl _) _) HX4.out) 0).trans rfl; have cB_1_w5 : (w4.alloc (.cells #[.int .u32 a, .int .u32 b] 28)).cell? ⟨w.heap.size, 1, none⟩ = some (.int .u32 b) := (blk_cell (below_blk ((Below.refl w4.heap.size w4).alloc (Nat.le_refl _) _) HX4.out) 1).trans rfl; have cD_0_w5 : (w4.alloc (.cells #[.int .u32 a, .int .u32 b] 28)).cell? ⟨w4.heap.size, 0, none⟩ = some (.int .u32 a) := (blk_cell (blk_new w4 _) 0).trans rfl; have cD_1_w5 : (w4.alloc (.cells #[.int .u32 a, .int .u32 b] 28)).cell? ⟨w4.heap.size, 1, none⟩ = some (.int .u32 b) := (blk_cell (blk_new w4 _) 1).trans rfl)
    | (go_at_call 15; have C := HK7.out w2 HB2.out; (with_reducible refine Calls.mono C ?_); clear C; rintro e w3 ⟨rfl, hb⟩; have HB3 := Lib.hid (below_to HB2.out hb); have HX3 := Lib.hid (below_blk hb HX2.out); clear hb)
    | (go_at_call 14; have C := HK6.out w1 HB1.out; (with_reducible refine Calls.mono C ?_); clear C; rintro e w2 ⟨rfl, hb⟩; have HB2 := Lib.hid (below_to HB1.out hb); have HX2 := Lib.hid (below_blk hb HX1.out); have cB_0_w2 : w2.cell? ⟨w.heap.size, 0, none⟩ = some (.int .u32 a) := (blk_cell HX2.out 0).trans rfl; have cB_1_w2 : w2.cell? ⟨w.heap.size, 1, none⟩ = some (.int .u32 b) := (blk_cell HX2.out 1).trans rfl; clear hb)
    | (go_at_call 7; refine (HK5.out _ HB0.out).mono ?_; rintro e w1 ⟨rfl, hb⟩; have HB1 := Lib.hid (below_to HB0.out hb); have HX1 := Lib.hid (below_blk hb HX0.out); have cB_0_w1 : w1.cell? ⟨w.heap.size, 0, none⟩ = some (.int .u32 a) := (blk_cell HX1.out 0).trans rfl; have cB_1_w1 : w1.cell? ⟨w.heap.size, 1, none⟩ = some (.int .u32 b) := (blk_cell HX1.out 1).trans rfl; clear hb))
  go_ret
  exact ⟨by simp, HB4.out.alloc HB4.out.size _⟩
theorem texts_any (a b : Int) (w : World) (hI : AInv w) (hT : Pow10 w) (ha : 0 ≤ a ∧ a < 4294967296) (hb : 0 ≤ b ∧ b < 4294967296) :
    Calls Tryz.prog 5 #[.agg #[.int .u32 a, .int .u32 b]] w fun e w' => e = .returned (.bool true) ∧ Below w.heap.size w w' := by
  obtain ⟨a, rfl⟩ : ∃ n : Nat, a = n := ⟨a.toNat, by omega⟩
  obtain ⟨b, rfl⟩ : ∃ n : Nat, b = n := ⟨b.toNat, by omega⟩
  have ha' : a < 4294967296 := by omega
  have hb' : b < 4294967296 := by omega
  have hp := parse_text a b ha' hb'
  have hsz : (⟨(textS a b).toArray⟩ : ByteArray).size ≤ 4000000000 := by
    rw [size_mk]
    unfold textS
    have := dec_len a ha'
    have := dec_len b hb'
    split
    · simp
    · split <;> (simp [Lib.decDigits_length]; omega)
  have h5 := fun y hy => awake_any y (hI.below (w' := y) hy)
  have h6 := fun y hy => text_any a b ha' hb' y (hT.below (w' := y) hy)
  have h7 : ∀ y, Below w.heap.size w y → Calls Tryz.prog 15 #[.agg #[.int .u32 (a : Int), .int .u32 (b : Int)]] y fun e w' => e = .returned (.string ⟨(textS a b).toArray⟩) ∧ Below y.heap.size y w' := fun y _ =>
    (PAt.eponymref15_Text.calls (2 * a + 2 * b + 21) _ _ _ y (refText_f a b _ ha' hb' (by omega))).mono (by rintro e w' ⟨rfl, hd⟩; exact ⟨rfl, hd⟩)
  have h8 := fun y hy => parse_any ⟨(textS a b).toArray⟩ y (hI.below (w' := y) hy) hsz
  by_cases h : a > b
  · rw [if_pos h] at hp
    change parseS (⟨(textS a b).toArray⟩ : ByteArray).data.toList = _ at hp
    simp only [hp] at h8
    exact texts_bad a b 0 16 _ w (by omega) h5 h6 h7 h8
  · rw [if_neg h] at hp
    change parseS (⟨(textS a b).toArray⟩ : ByteArray).data.toList = _ at hp
    simp only [hp] at h8
    exact texts_ok a b _ w (by omega) h5 h6 h7 h8
end Go.Proofs.YtanbnlobbgfidaaGreatDoor
