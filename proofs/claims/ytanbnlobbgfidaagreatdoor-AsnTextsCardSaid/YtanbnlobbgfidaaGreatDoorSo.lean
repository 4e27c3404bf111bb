/- The sort of a row of spans of the call's own. -/
import Derived.Test.YtanbnlobbgfidaaGreatDoorCl
import Derived.Sort.OwnSorted
namespace Go.Proofs.YtanbnlobbgfidaaGreatDoor
set_option linter.unusedSimpArgs false
set_option linter.unusedVariables false
open Go.RowKit Go.Lib Go.Sort

theorem flat_get (l : List (Int × Int)) : ∀ j, (flat l)[j]? = if j < l.length * 2 then some ((encSpan (l.getD (j / 2) (0, 0)))[j % 2]!) else none := by
  induction l with
  | nil => intro j; simp [flat]
  | cons x r ih =>
    intro j
    have e : flat (x :: r) = encSpan x ++ flat r := by unfold flat; rw [List.flatMap_cons]
    rw [e]
    match j with
    | 0 => simp [encSpan]
    | 1 => simp [encSpan]; omega
    | k + 2 =>
      rw [List.getElem?_append_right (by simp [encSpan])]
      have e1 : k + 2 - (encSpan x).length = k := by simp [encSpan]
      have e2 : (k + 2) / 2 = k / 2 + 1 := by omega
      have e3 : (k + 2) % 2 = k % 2 := by omega
      rw [e1, ih k, e2, e3]
      simp only [List.length_cons, List.getD_cons_succ]
      by_cases h : k < r.length * 2
      · rw [if_pos h, if_pos (by omega)]
      · rw [if_neg h, if_neg (by omega)]
theorem flatK_flat (d : List (Int × Int)) : (flatK encSpan 2 d.toArray).toList = flat d := by
  apply List.ext_getElem?
  intro j
  rw [flat_get, Array.getElem?_toList]
  by_cases h : j < d.length * 2
  · rw [if_pos h]
    have hs : j < (flatK encSpan 2 d.toArray).size := by simp; exact h
    rw [Array.getElem?_eq_getElem hs, ← getElem!_pos (flatK encSpan 2 d.toArray) j hs, get_flatK _ _ _ _ (by simpa using h)]
    have hj : j / 2 < d.length := by omega
    congr 2
    congr 1
    rw [getElem!_pos d.toArray (j / 2) (by simpa using hj), List.getD_eq_getElem?_getD, List.getElem?_eq_getElem hj]
    simp
  · rw [if_neg h, Array.getElem?_eq_none (by simp; omega)]
theorem holds_flat {w : World} {g : Nat} {cur : Array Value} {e : TypeId} {l : List (Int × Int)} (hb : w.heap[g]? = some (.cells cur e (0, 0))) (ht : cur.toList.take (l.length * 2) = flat l) : HoldsK encSpan 2 w g 0 l.toArray := by
  intro j hj
  have hj' : j < l.length * 2 := by simpa using hj
  refine ⟨?_, by simp [World.frozen?, hb]⟩
  have h1 : (cur.toList.take (l.length * 2))[j]? = (flatK encSpan 2 l.toArray).toList[j]? := by rw [ht, flatK_flat]
  rw [List.getElem?_take_of_lt hj', Array.getElem?_toList, Array.getElem?_toList, Array.getElem?_eq_getElem hj] at h1
  simp only [World.cell?, hb, Nat.zero_add]
  simp only [Option.isSome_none, Bool.false_eq_true, if_false]
  rw [h1, getElem!_pos (flatK encSpan 2 l.toArray) j hj]
  rfl
theorem heap_sortedK {w : World} {g n : Nat} {os : Array Obj} {cur : Array Value} {e : TypeId} {fr : Nat × Nat} (F : Array Value) (hb : w.heap[g]? = some (.cells cur e fr)) :
    (grow (putRow id (Sort.ahead w n) g 0 F) os).heap[g]? = some (.cells (putCells id 0 F cur) e fr) := by
  have hg : g < w.heap.size := (Array.getElem?_eq_some_iff.1 hb).1
  rw [heap_grow_old _ _ (by simpa using hg)]
  simp [putRow, mapBlock, Sort.ahead, Array.getElem?_modify, hb, onCells]
theorem grownBy_sortedK {w : World} {g n : Nat} {os : Array Obj} (F : Array Value) : w.grownBy (grow (putRow id (Sort.ahead w n) g 0 F) os) (some g) := by
  refine ⟨rfl, rfl, rfl, by simp, fun k hk hne => ?_⟩
  rw [heap_grow_old _ _ (by simpa using hk)]
  have : g ≠ k := fun e => hne (by rw [e])
  simp [putRow, mapBlock, Sort.ahead, Array.getElem?_modify, this]
theorem take_putCellsK (cur F : Array Value) (h : F.size ≤ cur.size) : (putCells id 0 F cur).toList.take F.size = F.toList := by
  apply List.ext_getElem?
  intro j
  by_cases hj : j < F.size
  · rw [List.getElem?_take_of_lt hj, Array.getElem?_toList]
    simp [putCells, hj, show j < cur.size by omega]
  · rw [List.getElem?_take_eq_none (by omega), List.getElem?_eq_none (by simp; omega)]

/-- slices.SortFunc(row, asn.Compare), a row of the call's own: it owns the sorted list. -/
theorem sortRow_any (base : Nat) (v : Value) (l : List (Int × Int)) (w : World) (hl : l.length ≤ 1000000) (h : w.ownsRow base 28 2 v l.length (flat l)) :
    Calls Tryz.prog 22 #[v, .func (.func 23) #[] #[]] w fun e w' => e = .returned (.tuple #[]) ∧ w'.ownsRow base 28 2 v l.length (flat (l.mergeSort spanLe)) ∧ w.grownBy w' v.ownBlock := by
  rcases h.2 with ⟨rfl, h0⟩ | ⟨g, cap, cur, rfl, hbase, hb, h1, h2, h3, h4⟩
  · obtain rfl : l = [] := List.eq_nil_of_length_eq_zero h0
    refine (AnyF.slices_SortFunc_none Tryz.sortL none 0 (.func (.func 23) #[] #[]) w).mono ?_
    rintro e w' ⟨rfl, rfl⟩
    exact ⟨rfl, by rw [List.mergeSort_nil]; exact World.ownsRow_nil _ _ _ _, ⟨rfl, rfl, rfl, Nat.le_refl _, fun _ _ _ => rfl⟩⟩
  · have hlt : g < w.heap.size := (Array.getElem?_eq_some_iff.1 hb).1
    have C := sort_any g cap l.toArray w (holds_flat hb h4) hlt (by simp; omega)
    rw [show l.toArray.size = l.length by simp] at C
    refine C.mono ?_
    rintro e w' ⟨rfl, n, os, rfl⟩
    have hs : (l.mergeSort spanLe).length = l.length := List.length_mergeSort ..
    have hF : (flatK encSpan 2 (l.mergeSort spanLe).toArray).size = l.length * 2 := by simp
    refine ⟨rfl, ⟨by rw [flat_length, hs], .inr ⟨g, cap, _, rfl, hbase, heap_sortedK _ hb, h1, h2, by simp [putCells, h3], ?_⟩⟩, grownBy_sortedK _⟩
    have := take_putCellsK cur (flatK encSpan 2 (l.mergeSort spanLe).toArray) (by rw [hF, h3]; omega)
    rw [hF, flatK_flat] at this
    exact this
end Go.Proofs.YtanbnlobbgfidaaGreatDoor
