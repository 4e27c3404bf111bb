/- eponymlaw15.awake: true. -/
import Derived.Test.YtanbnlobbgfidaaGreatDoorPa
import Derived.Test.YtanbnlobbgfidaaGreatDoorUn
namespace Go.Proofs.YtanbnlobbgfidaaGreatDoor
set_option linter.unusedSimpArgs false
set_option linter.unusedVariables false
open Go.RowKit Go.Lib Go.Sort

theorem awake_1 : parseS [54, 52, 52, 57, 54, 45, 54, 52, 53, 49, 49] = ((64496, 64511), none) := by kernel_rfl
theorem awake_2 : parseS [53, 45, 53] = ((0, 0), some (1, 6)) := by kernel_rfl
theorem awake_3 : unionS [(1, 3), (4, 4), (9, 9)] = [(1, 4), (9, 9)] := by
  unfold unionS
  rw [List.mergeSort_of_pairwise (by simp [spanLe, spanCmp_lt])]
  decide
theorem u32_3 : U32s [(1, 3), (4, 4), (9, 9)] := by
  intro x hx
  simp at hx
  rcases hx with rfl | rfl | rfl <;> decide
set_option maxRecDepth 20000 in
set_option maxHeartbeats 2000000 in
theorem awake_any (w : World) (hI : AInv w) : Calls Tryz.prog 7 #[] w fun e w' => e = .returned (.bool true) ∧ Below w.heap.size w w' := by
  have HI : Hid (∀ x, Below w.heap.size w x → AInv x) := fun x hb => hI.below hb
  have HBw := Lib.hid (Below.refl w.heap.size w)
  clear hI
  go_enter Tryz.func7, Tryz.ntmps7
  go_wp2_with (first
    | (go_at_call 16; have C := parse_any ⟨#[54, 52, 52, 57, 54, 45, 54, 52, 53, 49, 49]⟩ w (HI.out w HBw.out) (by decide); (with_reducible refine Calls.mono C ?_); clear C; rintro e w1 ⟨v, rfl, hf, hb⟩; have HBw1 := Lib.hid (below_to HBw.out hb); rw [show (⟨#[54, 52, 52, 57, 54, 45, 54, 52, 53, 49, 49]⟩ : ByteArray).data.toList = [54, 52, 52, 57, 54, 45, 54, 52, 53, 49, 49] from rfl, awake_1] at hf ⊢; have hv : v = .nilIface := hf; subst hv; clear hf; clear hb))
  have HBa : Hid (Below w.heap.size w (w1.alloc (.cells #[.int .u32 64496, .int .u32 64511] 28))) := HBw1.out.alloc HBw1.out.size _
  have HNa : Hid ((w1.alloc (.cells #[.int .u32 64496, .int .u32 64511] 28)).heap[w1.heap.size]? = some (.cells #[.int .u32 64496, .int .u32 64511] 28 (0, 0))) := blk_new _ _
  have HXAa := HNa
  generalize w1.alloc (.cells #[.int .u32 64496, .int .u32 64511] 28) = a at HBa HNa HXAa ⊢
  refine Calls.mono (parse_any ⟨#[53, 45, 53]⟩ a (HI.out a HBa.out) (by decide)) ?_
  rintro e w2 ⟨v, rfl, hf, hb⟩
  rw [show (⟨#[53, 45, 53]⟩ : ByteArray).data.toList = [53, 45, 53] from rfl, awake_2] at hf ⊢
  have HF2 : Hid (FltIs w2 v (some (1, 6))) := hf
  have HBw2 := Lib.hid (below_to HBa.out hb)
  have HXAw2 := Lib.hid (below_blk hb HXAa.out)
  clear hf hb
  go_wp2_with (fail)
  have HBb : Hid (Below w.heap.size w ((w2.alloc (.cells #[.int .u32 0, .int .u32 0] 28)).alloc (.cells #[.int .u32 1, .int .u32 3, .int .u32 4, .int .u32 4, .int .u32 9, .int .u32 9] 28))) := (HBw2.out.alloc HBw2.out.size _).alloc (Nat.le_trans HBw2.out.size (by simp)) _
  have hbb : Below w2.heap.size w2 ((w2.alloc (.cells #[.int .u32 0, .int .u32 0] 28)).alloc (.cells #[.int .u32 1, .int .u32 3, .int .u32 4, .int .u32 4, .int .u32 9, .int .u32 9] 28)) := ((Below.refl _ _).alloc (Nat.le_refl _) _).alloc (by simp) _
  have HXAb := Lib.hid (below_blk hbb HXAw2.out)
  have HFb := Lib.hid (HF2.out.below hbb)
  have HNb := Lib.hid (show ((w2.alloc (.cells #[.int .u32 0, .int .u32 0] 28)).alloc (.cells #[.int .u32 1, .int .u32 3, .int .u32 4, .int .u32 4, .int .u32 9, .int .u32 9] 28)).heap[w2.heap.size + 1]? = some (.cells #[.int .u32 1, .int .u32 3, .int .u32 4, .int .u32 4, .int .u32 9, .int .u32 9] 28 (0, 0)) from by
    have := blk_new (w2.alloc (.cells #[.int .u32 0, .int .u32 0] 28)) (.cells #[.int .u32 1, .int .u32 3, .int .u32 4, .int .u32 4, .int .u32 9, .int .u32 9] 28)
    simpa using this)
  clear hbb
  generalize (w2.alloc (.cells #[.int .u32 0, .int .u32 0] 28)).alloc (.cells #[.int .u32 1, .int .u32 3, .int .u32 4, .int .u32 4, .int .u32 9, .int .u32 9] 28) = b at HBb HXAb HFb HNb ⊢
  refine Calls.mono (union_any (.slice (some ⟨w2.heap.size + 1, 0, none⟩) 3 3) [(1, 3), (4, 4), (9, 9)] b (by decide) u32_3 (.inr ⟨_, 3, rfl, by decide, World.news_of_block HNb.out⟩)) ?_
  rintro e w3 ⟨v3, rfl, ho, hb⟩
  rw [awake_3] at ho
  have HBw3 := Lib.hid (below_to HBb.out hb)
  have HXAw3 := Lib.hid (below_blk hb HXAb.out)
  have HFw3 := Lib.hid (HFb.out.below hb)
  obtain ⟨A, c, rfl, hA⟩ := own_slice ho
  obtain ⟨g, rfl, -, hg, hc⟩ := hA (by decide)
  have p0 : w3.cell? ⟨g, 0, none⟩ = some (.int .u32 1) := (hc 0 (by decide)).1
  have p1 : w3.cell? ⟨g, 1, none⟩ = some (.int .u32 4) := (hc 1 (by decide)).1
  have q0 : w3.cell? ⟨w1.heap.size, 0, none⟩ = some (.int .u32 64496) := (blk_cell HXAw3.out 0).trans rfl
  have q1 : w3.cell? ⟨w1.heap.size, 1, none⟩ = some (.int .u32 64511) := (blk_cell HXAw3.out 1).trans rfl
  have HG := Lib.hid hg
  clear hA hc ho hb hg
  go_wp2_with (go_at_call 18; have C := is_any v (some (1, 6)) 1 6 (by omega) (by omega) w3 HFw3.out (HI.out w3 HBw3.out).is; (with_reducible refine Calls.mono C ?_); clear C; rintro e w4 ⟨rfl, hb⟩; have HBw4 := Lib.hid (below_to HBw3.out hb); have r0 := (hb.cell (p := ⟨g, 0, none⟩) HG.out).trans p0; have r1 := (hb.cell (p := ⟨g, 1, none⟩) HG.out).trans p1; clear hb)
  go_ret
  exact ⟨by simp [isB], HBw4.out⟩
end Go.Proofs.YtanbnlobbgfidaaGreatDoor
