/- ranges.All: the iterator over a copy. -/
import Derived.Test.YthggpjiabklekaaGreatDoorCl
import Derived.Test.YthggpjiabklekaaGreatDoorHx
namespace Go.Proofs.YthggpjiabklekaaGreatDoor
set_option linter.unusedSimpArgs false
set_option linter.unusedVariables false
open Go.RowKit Go.Lib

set_option maxRecDepth 100000 in
set_option maxHeartbeats 2000000 in
theorem all_any (A : Option Addr) (c : Nat) (p : List Rg) (w : World) (hl : p.length ≤ 1000000) (hc : p.length ≤ c) (hA : Lies w A p) :
    Calls Tryz.prog 22 #[.slice A p.length c] w fun e w' => ∃ v', e = .returned (.func (.func 41) #[] #[.pointer (some ⟨w.heap.size, 0, none⟩)]) ∧ w'.heap[w.heap.size]? = some (.cells #[v'] 22 (0, 0)) ∧ w'.ownsRow (w.heap.size + 1) 28 3 v' p.length (cells3 p) ∧ Below w.heap.size w w' := by
  have hb0 : Below w.heap.size w (w.alloc (.cells #[.slice A p.length c] 22)) := (Below.refl _ _).alloc (Nat.le_refl _) _
  have HB0 := Lib.hid hb0
  have HN := Lib.hid (blk_new w (.cells #[.slice A p.length c] 22))
  have C := Lib.hid (clone_any A c p _ hl hc (hA.below hb0))
  clear hb0 hA
  go_enter Tryz.func22, Tryz.ntmps22
  go_wp2_with (go_at_call 40; refine C.out.mono ?_; rintro e w1 ⟨v', rfl, ho, hb⟩; obtain ⟨ao, n', cap, rfl⟩ : ∃ ao n' cap, v' = .slice ao n' cap := (by rcases ho.2 with ⟨hv, _⟩ | ⟨g, cap, cur, hv, _⟩ <;> exact ⟨_, _, _, hv⟩); have hn := below_blk hb HN.out; have HN1 := Lib.hid hn; have q0 := (blk_cell hn 0).trans rfl; have qf := blk_fz hn 0; rw [World.size_alloc] at ho; have HO := Lib.hid ho; have HB := Lib.hid (below_to HB0.out hb); clear hn ho hb)
  have HS := Lib.hid (blk_set HN1.out 0 (.slice ao n' cap))
  have HW := Lib.hid (ownsRow_setCell_below HO.out (a := ⟨w.heap.size, 0, none⟩) (by show w.heap.size < _; omega) (.slice ao n' cap))
  have HB2 := Lib.hid (HB.out.setCell (p := ⟨w.heap.size, 0, none⟩) (Nat.le_refl _) (.slice ao n' cap))
  go_ret
  exact ⟨_, rfl, HS.out, HW.out, HB2.out⟩
end Go.Proofs.YthggpjiabklekaaGreatDoor
