/- asn.Find. -/
import Derived.Test.YtanbnlobbgfidaaGreatDoorCk
import Derived.Test.YtanbnlobbgfidaaGreatDoorSe
namespace Go.Proofs.YtanbnlobbgfidaaGreatDoor
set_option linter.unusedSimpArgs false
set_option linter.unusedVariables false
open Go.RowKit Go.Lib Go.Sort

/-- How many spans end ahead of n. -/
def posS (p : List (Int × Int)) (n : Int) : Nat := (List.range p.length).countP (fun i => !decide (n ≤ (p.getD i (0, 0)).2))
/-- asn.Find. -/
def findS (p : List (Int × Int)) (n : Int) : Int := if posS p n = p.length then -1 else if (p.getD (posS p n) (0, 0)).1 > n then -1 else (posS p n : Nat)
theorem posS_le (p : List (Int × Int)) (n : Int) : posS p n ≤ p.length := by
  unfold posS
  refine Nat.le_trans List.countP_le_length ?_
  simp

theorem find_cl (ad : Addr) (c i len : Nat) (y n : Int) (ba bx : Nat) (x : World) (hi : i < len) (hl : len ≤ 1000000) (h0 : x.cell? ⟨ba, 0, none⟩ = some (.slice (some ad) len c)) (h1 : x.cell? ⟨bx, 0, none⟩ = some (.int .u32 n))
    (h2 : x.cell? (ad.add (i * 2 + 1)) = some (.int .u32 y)) :
    Calls Tryz.prog 33 #[.int .i64 i, .pointer (some ⟨ba, 0, none⟩), .pointer (some ⟨bx, 0, none⟩)] x fun e w' => e = .returned (.bool (decide (n ≤ y))) ∧ ∃ q, w' = x.drewN q := by
  have h2' : x.cell? ((ad.add (i * 2)).add 1) = some (.int .u32 y) := by rw [Addr.add_add]; exact h2
  have h2'' : x.cell? { block := (ad.add (i * 2)).block, off := (ad.add (i * 2)).off + 1 } = some (.int .u32 y) := h2'
  go_enter Tryz.func33, Tryz.ntmps33
  go_wp2
  go_quiet (fail)
  go_wp2
  go_ret
  exact ⟨by simp, nq, rfl⟩

set_option maxRecDepth 20000 in
set_option maxHeartbeats 1000000 in
theorem find_any (A : Option Addr) (c : Nat) (p : List (Int × Int)) (n : Int) (w : World) (hl : p.length ≤ 1000000) (hA : Lies w A p) (hm : ∀ a b, a ≤ b → b < p.length → n ≤ (p.getD a (0, 0)).2 → n ≤ (p.getD b (0, 0)).2) :
    Calls Tryz.prog 20 #[.slice A p.length c, .int .u32 n] w fun e w' => e = .returned (.int .i64 (findS p n)) ∧ Below w.heap.size w w' := by
  obtain ⟨W0, hW0⟩ : ∃ W0, W0 = (w.alloc (.cells #[.slice A p.length c] 22)).alloc (.cells #[.int .u32 n] 26) := ⟨_, rfl⟩
  have hsize : W0.heap.size = w.heap.size + 1 + 1 := by rw [hW0]; simp
  have ca : W0.cell? ⟨w.heap.size, 0, none⟩ = some (.slice A p.length c) := by rw [hW0]; exact Go.Proofs.cell_alloc_sl _ (Go.Proofs.cell_new_sl w _ _)
  have cx : W0.cell? ⟨w.heap.size + 1, 0, none⟩ = some (.int .u32 n) := by rw [hW0]; have := Go.Proofs.cell_new_sl (w.alloc (.cells #[.slice A p.length c] 22)) (.int .u32 n) 26; rwa [World.size_alloc] at this
  have hB0 : Below w.heap.size w W0 := by rw [hW0]; exact ((Below.refl _ w).alloc (Nat.le_refl _) _).alloc (by simp) _
  have hS := Go.Proofs.Any.sort_Search Tryz.searchL 33 #[.pointer (some ⟨w.heap.size, 0, none⟩), .pointer (some ⟨w.heap.size + 1, 0, none⟩)] p.length (fun i => decide (n ≤ (p.getD i (0, 0)).2)) W0 (enters_of Tryz.func33 (by kernel_rfl) rfl) (by omega)
    (fun m os i hi => by
      obtain ⟨ad, rfl, hcell⟩ := hA (by omega)
      have e : p.getD i (0, 0) = p[i] := by rw [List.getD_eq_getElem?_getD, List.getElem?_eq_getElem hi]; rfl
      rw [e]
      have hc := cell_in hB0 (hcell i hi).2
      have hlt := World.block_lt_of_cell? _ _ hc
      refine (find_cl ad c i p.length p[i].2 n w.heap.size (w.heap.size + 1) _ hi hl (cell_grown (by rw [hsize]; simp; omega) ca m os) (cell_grown (by rw [hsize]; simp) cx m os) (cell_grown hlt hc m os)).mono ?_
      rintro e w' ⟨rfl, q, rfl⟩
      exact ⟨rfl, q, #[], by rw [grow_empty]⟩)
    (fun a b h1 h2 h3 => by simpa using hm a b h1 h2 (by simpa using h3))
  have hk := posS_le p n
  unfold findS
  change Calls Tryz.prog 32 _ W0 (fun e w' => e = .returned (.int .i64 (posS p n : Nat)) ∧ _) at hS
  generalize hkk : posS p n = k at hS hk ⊢
  generalize hr : (if k = p.length then (-1 : Int) else if (p.getD k (0, 0)).1 > n then -1 else (k : Nat)) = r
  have HR := Lib.hid hr
  clear hr
  have HS := Lib.hid hS
  have HA := Lib.hid hA
  have HB0 := Lib.hid hB0
  have HW0 := Lib.hid hW0
  have CA := Lib.hid ca
  have CX := Lib.hid cx
  have HSZ := Lib.hid hsize
  clear hS hA hm hB0 hkk ca cx hsize
  go_enter Tryz.func20, Tryz.ntmps20
  go_wp2_with (go_at_call 32; rw [← HW0.out]; refine HS.out.mono ?_; rintro e w' ⟨rfl, q, os, rfl⟩; have HB1 := Lib.hid (HB0.out.trans (below_grown_sl w.heap.size W0 q os HB0.out.size)); have ca1 := cell_grown (by rw [HSZ.out]; simp; omega) CA.out q os; have cx1 := cell_grown (by rw [HSZ.out]; simp) CX.out q os; generalize Sort.grow (W0.drewN q) os = w1 at HB1 ca1 cx1 ⊢)
  by_cases hke : k = p.length
  · subst hke
    have hr : r = -1 := by rw [← HR.out, if_pos rfl]
    subst hr
    go_quiet (fail)
    go_wp2
    go_ret
    exact ⟨rfl, below_drewN HB1.out nq⟩
  · obtain ⟨ad, rfl, hcell⟩ := HA.out (by omega)
    have e : p.getD k (0, 0) = p[k] := by rw [List.getD_eq_getElem?_getD, List.getElem?_eq_getElem (by omega)]; rfl
    have hr := HR.out
    rw [if_neg hke, e] at hr
    have hc : w1.cell? (ad.add (k * 2)) = some (.int .u32 p[k].1) := cell_in HB1.out (hcell k (by omega)).1
    have hkb : ((k : Int) == (p.length : Int)) = false := by rw [beq_eq_false_iff_ne]; omega
    have hklt : k < p.length := by omega
    clear hcell e HR
    generalize p[k].1 = y at hc hr
    by_cases hg : y > n
    · rw [if_pos hg] at hr
      subst hr
      go_quiet (fail)
      go_wp2
      go_ret
      exact ⟨rfl, below_drewN HB1.out nq⟩
    · rw [if_neg hg] at hr
      subst hr
      go_quiet (fail)
      go_wp2
      go_ret
      exact ⟨rfl, below_drewN HB1.out nq⟩
end Go.Proofs.YtanbnlobbgfidaaGreatDoor
