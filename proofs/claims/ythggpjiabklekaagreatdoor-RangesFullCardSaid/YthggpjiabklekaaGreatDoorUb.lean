/- Small facts on blocks of memory, and the making of a fault. -/
import Derived.Test.YthggpjiabklekaaGreatDoorFlt
import Derived.Test.YthggpjiabklekaaGreatDoorShelf
import Derived.WalkKit
import Derived.BigRegion
import Derived.BigQuiet
import Derived.Deep.RegionLaw
import Derived.Deep.RegionHeld3
import Derived.KernelRfl
import Derived.Lib.Hide
namespace Go.Proofs.YthggpjiabklekaaGreatDoor
set_option linter.unusedSimpArgs false
set_option linter.unusedVariables false
open Go.RowKit Go.Lib

theorem below_drewN {B : Nat} {a w : World} (h : Below B a w) (n : Nat) : Below B a (w.drewN n) := ⟨h.os, h.tape, h.output, h.size, h.block⟩
theorem blk_cell {w : World} {n : Nat} {cs : Array Value} {t : TypeId} (h : w.heap[n]? = some (.cells cs t (0, 0))) (i : Nat) : w.cell? ⟨n, i, none⟩ = cs[i]? := by simp [World.cell?, h]
theorem blk_fz {w : World} {n : Nat} {cs : Array Value} {t : TypeId} (h : w.heap[n]? = some (.cells cs t (0, 0))) (i : Nat) : w.frozen? ⟨n, i, none⟩ = false := by simp [World.frozen?, h]
theorem below_blk {w w' : World} {n : Nat} {o : Obj} (h : Below w.heap.size w w') (hb : w.heap[n]? = some o) : w'.heap[n]? = some o := (h.block n (heap_lt hb)).trans hb
theorem below_to {w x y : World} (h : Below w.heap.size w x) (k : Below x.heap.size x y) : Below w.heap.size w y := h.trans (k.mono h.size)
theorem blk_new (w : World) (o : Obj) : (w.alloc o).heap[w.heap.size]? = some o := by
  show (w.heap.push _)[w.heap.size]? = _
  simp

theorem size_mk (l : List UInt8) : (⟨l.toArray⟩ : ByteArray).size = l.length := by simp [ByteArray.size]
theorem toList_ne {s : ByteArray} (h : 0 < s.size) : (s.toList == []) = false := by
  rw [ByteArray.toList_eq, beq_eq_false_iff_ne]
  intro e
  have h2 : s.size = 0 := by rw [Lib.size_eq, e]; rfl
  omega

theorem set_blk {w : World} {n : Nat} {cs : Array Value} {t : TypeId} (h : w.heap[n]? = some (.cells cs t (0, 0))) (i : Nat) (v : Value) : (w.setCell ⟨n, i, none⟩ v).heap[n]? = some (.cells (cs.setIfInBounds i v) t (0, 0)) := by
  have hl := heap_lt h
  simp only [World.setCell, Array.getElem?_modify, h]
  simp
theorem set2_blk {w : World} {n : Nat} {a b : Value} {t : TypeId} (h : w.heap[n]? = some (.cells #[a, b] t (0, 0))) (x y : Value) : ((w.setCell ⟨n, 0, none⟩ x).setCell ⟨n, 1, none⟩ y).heap[n]? = some (.cells #[x, y] t (0, 0)) := by
  have := set_blk (set_blk h 0 x) 1 y
  simpa using this
theorem set2_c0 {w : World} {n : Nat} {a b : Value} {t : TypeId} (h : w.heap[n]? = some (.cells #[a, b] t (0, 0))) (x : Value) : (w.setCell ⟨n, 0, none⟩ x).cell? ⟨n, 0, none⟩ = some x := (blk_cell (set_blk h 0 x) 0).trans rfl
theorem set2_c1 {w : World} {n : Nat} {a b : Value} {t : TypeId} (h : w.heap[n]? = some (.cells #[a, b] t (0, 0))) (x y : Value) : ((w.setCell ⟨n, 0, none⟩ x).setCell ⟨n, 1, none⟩ y).cell? ⟨n, 1, none⟩ = some y := (blk_cell (set2_blk h x y) 1).trans rfl
/-- A store into a block of the call's own, of another type, leaves an error what it was. -/
theorem FltIs.set {w0 w : World} {v : Value} {x : Option (Int × Nat)} (h : FltIs w v x) (hI : IsInv w0) {n : Nat} (hn : w0.heap.size ≤ n) {cs : Array Value} {t : TypeId} (hb : w.heap[n]? = some (.cells cs t (0, 0))) (ht : t ≠ 74) (i : Nat) (u : Value) : FltIs (w.setCell ⟨n, i, none⟩ u) v x := by
  match x, h with
  | none, h => exact h
  | some (a, c), ⟨h1, h2, g, s, h3, h4, h5⟩ =>
    refine ⟨h1, h2, g, s, h3, ?_, ?_⟩
    · rw [Below.heap_setCell w ⟨n, i, none⟩ u g]
      · exact h4
      · rintro rfl
        rw [h4] at hb
        injection hb with hb
        injection hb with _ hb
        exact ht hb.symm
    · obtain ⟨b, hc, -⟩ := hI.sent c h1 h2
      have hlt := World.block_lt_of_cell? w0 _ hc
      have hne : gidx c ≠ n := by have : (⟨gidx c, 0, none⟩ : Addr).block < w0.heap.size := hlt; simp at this; omega
      rw [← h5]
      simp only [World.cell?]
      rw [Below.heap_setCell w ⟨n, i, none⟩ u (gidx c) hne]

/-- The making of a fault around a named error. -/
theorem fault_any (a : Int) (c : Nat) (s : Value) (w : World) (h1 : 1 ≤ c) (h2 : c ≤ 18) (hs : w.cell? ⟨gidx c, 0, none⟩ = some s) (t : TypeId) (x : Value) (hx : s = .iface t x) :
    Calls Tryz.prog 36 #[.int .i64 a, s] w fun e w' => ∃ v, e = .returned v ∧ FltIs w' v (some (a, c)) ∧ Below w.heap.size w w' := by
  have fin : FltIs (w.alloc (.cells #[.int .i64 a, s] 74)) (.iface 70 (.pointer (some ⟨w.heap.size, 0, none⟩))) (some (a, c)) :=
    ⟨h1, h2, w.heap.size, s, rfl, blk_new _ _, cell_in ((Below.refl w.heap.size w).alloc (Nat.le_refl _) _) hs⟩
  have H := Lib.hid fin
  clear fin h1 h2 hs
  subst hx
  go_enter Tryz.func36, Tryz.ntmps36
  go_wp2
  go_ret
  exact ⟨_, rfl, H.out, (Below.refl w.heap.size w).alloc (Nat.le_refl _) _⟩
end Go.Proofs.YthggpjiabklekaaGreatDoor
