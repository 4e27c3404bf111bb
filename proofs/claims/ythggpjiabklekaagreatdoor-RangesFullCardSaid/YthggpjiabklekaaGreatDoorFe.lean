/- ranges.Find of a table: the walk. -/
import Derived.Test.YthggpjiabklekaaGreatDoorFd
namespace Go.Proofs.YthggpjiabklekaaGreatDoor
set_option linter.unusedSimpArgs false
set_option linter.unusedVariables false
open Go.RowKit Go.Lib Go.Sort

set_option maxRecDepth 20000 in
set_option maxHeartbeats 4000000 in
theorem find_any (A : Option Addr) (c : Nat) (p : List Rg) (n : Int) (w : World) (hl : p.length ≤ 1000000) (hA : Lies w A p) (hT : Tab (-1) p) :
    Calls Tryz.prog 12 #[.slice A p.length c, .int .i32 n] w fun e w' => e = .returned (.tuple #[.int .i64 (findS p n).1, .bool (findS p n).2]) ∧ Below w.heap.size w w' := by
  have hm := tab_mono p hT n
  obtain ⟨W0, hW0⟩ : ∃ W0, W0 = (w.alloc (.cells #[.slice A p.length c] 22)).alloc (.cells #[.int .i32 n] 21) := ⟨_, rfl⟩
  have hsize : W0.heap.size = w.heap.size + 1 + 1 := by rw [hW0]; simp
  have ca : W0.cell? ⟨w.heap.size, 0, none⟩ = some (.slice A p.length c) := by rw [hW0]; exact Go.Proofs.cell_alloc_sl _ (Go.Proofs.cell_new_sl w _ _)
  have cx : W0.cell? ⟨w.heap.size + 1, 0, none⟩ = some (.int .i32 n) := by rw [hW0]; have := Go.Proofs.cell_new_sl (w.alloc (.cells #[.slice A p.length c] 22)) (.int .i32 n) 21; rwa [World.size_alloc] at this
  have hB0 : Below w.heap.size w W0 := by rw [hW0]; exact ((Below.refl _ w).alloc (Nat.le_refl _) _).alloc (by simp) _
  have hS := Go.Proofs.Any.sort_Search Tryz.searchL 28 #[.pointer (some ⟨w.heap.size, 0, none⟩), .pointer (some ⟨w.heap.size + 1, 0, none⟩)] p.length (fun i => decide (n ≤ (p.getD i z3).2.1)) W0 (enters_of Tryz.func28 (by kernel_rfl) rfl) (by omega)
    (fun m os i hi => by
      obtain ⟨ad, rfl, hcell⟩ := hA (by omega)
      rw [getD_at p i hi]
      have hc := cell_in hB0 (hcell i hi).2.1
      have hlt := World.block_lt_of_cell? _ _ hc
      refine (find_cl ad c i p.length p[i].2.1 n w.heap.size (w.heap.size + 1) _ hi hl (cell_grown (by rw [hsize]; simp; omega) ca m os) (cell_grown (by rw [hsize]; simp) cx m os) (cell_grown hlt hc m os)).mono ?_
      rintro e w' ⟨rfl, q, rfl⟩
      exact ⟨rfl, q, #[], by rw [grow_empty]⟩)
    (fun a b h1 h2 h3 => by simpa using hm a b h1 h2 (by simpa using h3))
  have hk := posS_le p n
  change Calls Tryz.prog 27 _ W0 (fun e w' => e = .returned (.int .i64 (posS p n : Nat)) ∧ _) at hS
  generalize hkk : posS p n = k at hS hk
  obtain ⟨f1, f2⟩ := find_pos p hT n k hkk
  obtain ⟨rv, rb, hr⟩ : ∃ rv rb, findS p n = (rv, rb) := ⟨_, _, rfl⟩
  rw [hr]
  rw [hr] at f1 f2
  dsimp only
  clear hr
  have HS := Lib.hid hS
  have HA := Lib.hid hA
  have HB0 := Lib.hid hB0
  have HW0 := Lib.hid hW0
  have CA := Lib.hid ca
  have CX := Lib.hid cx
  have HSZ := Lib.hid hsize
  have F1 := Lib.hid f1
  have F2 := Lib.hid f2
  clear hS hA hm hB0 hkk ca cx hsize f1 f2 hT
  go_enter Tryz.func12, Tryz.ntmps12
  go_wp2_with (go_at_call 27; rw [← HW0.out]; refine HS.out.mono ?_; rintro e w' ⟨rfl, q, os, rfl⟩; have HB1 := Lib.hid (HB0.out.trans (below_grown_sl w.heap.size W0 q os HB0.out.size)); have ca1 := cell_grown (by rw [HSZ.out]; simp; omega) CA.out q os; have cx1 := cell_grown (by rw [HSZ.out]; simp) CX.out q os; generalize Sort.grow (W0.drewN q) os = w1 at HB1 ca1 cx1 ⊢)
  by_cases hke : k = p.length
  · have hx := F1.out hke
    obtain ⟨rfl, rfl⟩ : rv = 0 ∧ rb = false := by injection hx with h1 h2; exact ⟨h1, h2⟩
    subst hke
    clear hx F1 F2
    go_quiet (fail)
    go_wp2
    go_ret2
    exact ⟨rfl, below_drewN HB1.out nq⟩
  · obtain ⟨ad, rfl, hcell⟩ := HA.out (by omega)
    have hklt : k < p.length := by omega
    obtain ⟨g1, g2⟩ := F2.out hklt
    have hc : w1.cell? (ad.add (k * 3)) = some (.int .i32 p[k].1) := cell_in HB1.out (hcell k hklt).1
    have hv : w1.cell? (ad.add (k * 3 + 2)) = some (.int .i64 p[k].2.2) := cell_in HB1.out (hcell k hklt).2.2
    have hv' : w1.cell? { block := (ad.add (k * 3)).block, off := (ad.add (k * 3)).off + 2 } = some (.int .i64 p[k].2.2) := by rw [← Addr.add_add] at hv; exact hv
    have hkb : ((k : Int) == (p.length : Int)) = false := by rw [beq_eq_false_iff_ne]; omega
    clear hcell hv
    generalize p[k].1 = y at hc g1 g2
    generalize p[k].2.2 = vv at hv' g2
    by_cases hg : y > n
    · have hx := g1 (by omega)
      obtain ⟨rfl, rfl⟩ : rv = 0 ∧ rb = false := by injection hx with h1 h2; exact ⟨h1, h2⟩
      clear hx
      clear g1 g2 F1 F2
      go_quiet (fail)
      go_wp2
      go_ret2
      exact ⟨rfl, below_drewN HB1.out nq⟩
    · have hx := g2 (by omega)
      obtain ⟨rfl, rfl⟩ : rv = vv ∧ rb = true := by injection hx with h1 h2; exact ⟨h1, h2⟩
      clear hx
      clear g1 g2 F1 F2
      go_quiet (fail)
      go_wp2
      go_ret2
      exact ⟨rfl, below_drewN HB1.out nq⟩
end Go.Proofs.YthggpjiabklekaaGreatDoor
