/- ranges.Check. -/
import Derived.Test.YthggpjiabklekaaGreatDoorKs
namespace Go.Proofs.YthggpjiabklekaaGreatDoor
set_option linter.unusedSimpArgs false
set_option linter.unusedVariables false
open Go.RowKit Go.Lib Go.Shelf
attribute [local go_sem] Oper.semAt_some

/-- What Check tells. -/
def checkS (p : List Rg) : Option (Int × Nat) :=
  if 2000 < p.length then some (0, 18) else match faultsL (-1) p 0 with | [] => none | (i, c) :: _ => some ((i : Int), c)
theorem faults_any (A : Option Addr) (len c : Nat) (w : World) :
    Calls Tryz.prog 50 #[.slice A len c] w fun e w' => e = .returned (.func (.func 70) #[] #[.pointer (some ⟨w.heap.size, 0, none⟩)]) ∧ w' = w.alloc (.cells #[.slice A len c] 22) := by
  go_enter Tryz.func50, Tryz.ntmps50
  go_wp2
  go_ret
  exact ⟨rfl, rfl⟩
/-- The making of a fault, said outright. -/
theorem fault_at (a : Int) (t : TypeId) (x : Value) (w : World) :
    Calls Tryz.prog 36 #[.int .i64 a, .iface t x] w fun e w' => e = .returned (.iface 70 (.pointer (some ⟨w.heap.size, 0, none⟩))) ∧ w' = w.alloc (.cells #[.int .i64 a, .iface t x] 74) := by
  go_enter Tryz.func36, Tryz.ntmps36
  go_wp2
  go_ret
  exact ⟨rfl, rfl⟩
theorem flt_here (x : World) (a : Int) (c : Nat) (h1 : 1 ≤ c) (h2 : c ≤ 18) (t : TypeId) (v : Value) (hs : x.cell? ⟨gidx c, 0, none⟩ = some (.iface t v)) :
    FltIs (x.alloc (.cells #[.int .i64 a, .iface t v] 74)) (.iface 70 (.pointer (some ⟨x.heap.size, 0, none⟩))) (some (a, c)) :=
  ⟨h1, h2, x.heap.size, _, rfl, blk_new x _, cell_in ((Below.refl x.heap.size x).alloc (Nat.le_refl _) _) hs⟩
theorem sent_lo {w : World} (hI : IsInv w) : 18 < w.heap.size := by
  obtain ⟨a, ha, -⟩ := hI.sent 17 (by omega) (by omega)
  have := World.block_lt_of_cell? w _ ha
  exact this
set_option maxRecDepth 100000 in
set_option maxHeartbeats 4000000 in
theorem check_full (A : Option Addr) (c : Nat) (p : List Rg) (w : World) (hI : IsInv w) (h : 2000 < p.length) :
    Calls Tryz.prog 26 #[.slice A p.length c] w fun e w' => ∃ v, e = .returned v ∧ FltIs w' v (some (0, 18)) ∧ Below w.heap.size w w' := by
  have hb0 : ∀ v, Below w.heap.size w (w.alloc (.cells #[v] 34)) := fun v => (Below.refl _ _).alloc (Nat.le_refl _) _
  obtain ⟨er, her, -⟩ := hI.sent 18 (by omega) (by omega)
  have her' : (w.alloc (.cells #[.nilIface] 34)).cell? ⟨2, 0, none⟩ = some (.iface 189 (.pointer (some er))) := cell_in (hb0 _) her
  have h' : (p.length : Int) > 2000 := by omega
  have hF := fun v => flt_here (w.alloc (.cells #[v] 34)) 0 18 (by omega) (by omega) _ _ (cell_in (hb0 v) her)
  have hB := fun v o => (hb0 v).alloc (hb0 v).size o
  simp only [World.size_alloc] at hF
  have HF := Lib.hid hF
  have HB := Lib.hid hB
  clear hI her hb0 hF hB
  go_enter Tryz.func26, Tryz.ntmps26
  go_wp2_with (go_at_call 36; (with_reducible refine Calls.mono (fault_at _ _ _ _) ?_); rintro e w5 ⟨rfl, rfl⟩)
  have hF := HF.out (.iface 70 (.pointer (some ⟨w.heap.size + 1, 0, none⟩)))
  have hB := HB.out (.iface 70 (.pointer (some ⟨w.heap.size + 1, 0, none⟩))) (.cells #[.int .i64 0, .iface 189 (.pointer (some er))] 74)
  have hc : ((w.alloc (.cells #[.iface 70 (.pointer (some ⟨w.heap.size + 1, 0, none⟩))] 34)).alloc (.cells #[.int .i64 0, .iface 189 (.pointer (some er))] 74)).cell? ⟨w.heap.size, 0, none⟩ = some (.iface 70 (.pointer (some ⟨w.heap.size + 1, 0, none⟩))) := (blk_cell (below_blk ((Below.refl _ _).alloc (Nat.le_refl _) _) (blk_new w _)) 0).trans rfl
  generalize (w.alloc (.cells #[.iface 70 (.pointer (some ⟨w.heap.size + 1, 0, none⟩))] 34)).alloc (.cells #[.int .i64 0, .iface 189 (.pointer (some er))] 74) = wf at *
  exact bodyPost_ret (v := .iface 70 (.pointer (some ⟨w.heap.size + 1, 0, none⟩))) (by simp [results, Tryz.results26, go_sem, hc]) rfl ⟨_, rfl, hF, hB⟩
theorem faultsL_code : ∀ (p : List Rg) (la : Int) (i : Nat), ∀ x ∈ faultsL la p i, x.2 = 4 ∨ x.2 = 6
  | [], _, _, x, hx => by cases hx
  | y :: r, la, i, x, hx => by
    rw [faultsL, List.mem_append] at hx
    rcases hx with hx | hx
    · split at hx
      · obtain rfl := List.mem_singleton.1 hx; exact Or.inl rfl
      · split at hx
        · obtain rfl := List.mem_singleton.1 hx; exact Or.inr rfl
        · cases hx
    · exact faultsL_code r y.2.1 (i + 1) x hx
theorem heap_kept {A B : World} {g : Nat} {cs : Array Value} {t : TypeId} {fr : Nat × Nat} {row : Option Nat} (h : A.heap[g]? = some (.cells cs t fr)) (hg : A.grownBy B row) (hr : ∀ r, row = some r → ∃ o : Obj, A.heap[r]? = some o ∧ o.isCells = false) : B.heap[g]? = some (.cells cs t fr) :=
  (hg.block g (heap_lt h) (fun e => by obtain ⟨o, ho, hc⟩ := hr g e.symm; rw [h] at ho; injection ho with ho; subst ho; cases hc)).trans h
set_option maxRecDepth 100000 in
set_option maxHeartbeats 4000000 in
theorem check_small (A : Option Addr) (c : Nat) (p : List Rg) (w : World) (hI : IsInv w) (hA : Lies w A p) (h : p.length ≤ 2000) :
    Calls Tryz.prog 26 #[.slice A p.length c] w fun e w' => ∃ v, e = .returned v ∧ FltIs w' v (checkS p) ∧ Below w.heap.size w w' := by
  have h' : ¬ (p.length : Int) > 2000 := by omega
  have HI := Lib.hid hI
  have HA := Lib.hid hA
  clear hI hA
  refine (callsIn_wide (n := 4)).1 ?_
  refine callsIn_of_wp_marks Tryz.func26 rfl trivial ?_ rfl
  simp only [Tryz.ntmps26, List.size_toArray, List.length_cons, List.length_nil, Nat.reduceAdd, Nat.reduceSub, Array.replicate_succ, Array.replicate_zero, List.push_toArray, List.append_toArray, List.nil_append, List.cons_append]
  gi_wp2_with (refine ⟨trivial, ?_⟩; gi_at_call 50; refine (callsIn_wide.2 (faults_any _ _ _ _)).mono ?_; rintro e w' ⟨rfl, rfl⟩)
  have HIw := HI.out
  obtain ⟨e4, he4, -⟩ := HIw.sent 4 (by omega) (by omega)
  obtain ⟨e6, he6, -⟩ := HIw.sent 6 (by omega) (by omega)
  have hlo := sent_lo HIw
  have bR := Boxed.new w 34 .nilIface
  have bN := Boxed.new (w.alloc (.cells #[.nilIface] 34)) 22 (.slice A p.length c)
  rw [World.size_alloc] at bN
  have hB0 : Below w.heap.size w ((w.alloc (.cells #[.nilIface] 34)).alloc (.cells #[.slice A p.length c] 22)) := ((Below.refl _ w).alloc (Nat.le_refl _) _).alloc (by simp) _
  have hAb : ∀ ad, A = some ad → 0 < p.length → ad.block < w.heap.size := fun ad e hp => by
    obtain ⟨ad', e', h2⟩ := HA.out hp
    obtain rfl : ad = ad' := by rw [e] at e'; injection e'
    have := World.block_lt_of_cell? w _ (h2 0 hp).1
    have e3 : (ad.add (0 * 3)).block = ad.block := by unfold Addr.add; split <;> rfl
    omega
  refine wpIn_rangeFunc_ownG rfl (by omega) (gf := 70) (lb := #[.pointer (some ⟨w.heap.size + 1, 0, none⟩)]) rfl trivial (enters_of Tryz.func70 (by kernel_rfl) rfl)
    (faults_stops 3 (w.heap.size + 1) w.heap.size (w.heap.size + 1 + 1) c (by omega) A p _ _ _ _ (by omega) _ (by simp) (by simp; omega) bN.cell (HA.out.below hB0) hAb (cell_in hB0 he4) (cell_in hB0 he6) (by omega)) KeepsOwn.trans (by have := fun W l o o' hl h hc hw => keepsOwn_b (n₀ := w.heap.size) (w := (w.alloc (.cells #[.nilIface] 34)).alloc (.cells #[.slice A p.length c] 22)) (by simp; omega) W l o o' hl h hc hw; simpa using this) (Below.refl _ _) (fun _ => rfl)
    (fun pre W => (pre = [] ∧ W.cell? ⟨w.heap.size, 0, none⟩ = some .nilIface ∧ W.frozen? ⟨w.heap.size, 0, none⟩ = false) ∧ Below w.heap.size w W)
    (fun c pre W => (c = .ret ∧ ∃ x g, pre = [x] ∧ W.cell? ⟨w.heap.size, 0, none⟩ = some (.iface 70 (.pointer (some ⟨g, 0, none⟩))) ∧ W.heap[g]? = some (.cells #[.int .i64 (x.1 : Int), evF 189 189 (.pointer (some e4)) (.pointer (some e6)) x.2] 74 (0, 0))) ∧ Below w.heap.size w W)
    (OwnFrom.and (Own.from (fun s A B row hs hg hr => ⟨hs.1, cell_kept hs.2.1 hg hr, (frozen_kept hs.2.1 hg hr).trans hs.2.2⟩) _) (ownFrom_below (Nat.le_refl _) (by simp; omega)))
    (fun c => OwnFrom.and (Own.from (fun s A B row hs hg hr => by obtain ⟨hc, x, g, e1, e2, e3⟩ := hs; exact ⟨hc, x, g, e1, cell_kept e2 hg hr, heap_kept e3 hg hr⟩) _) (ownFrom_below (Nat.le_refl _) (by simp; omega)))
    ⟨⟨rfl, (bR.alloc _).cell, (bR.alloc _).frozen⟩, hB0⟩
    (fun x => { tmps := #[.slice A p.length c, undef, .pointer (some ⟨w.heap.size, 0, none⟩), .int .i64 (x.1 : Int), evF 189 189 (.pointer (some e4)) (.pointer (some e6)) x.2, .slice A p.length c, .int .i64 p.length, .bool false, undef, undef, .slice A p.length c, .func (.func 70) #[] #[.pointer (some ⟨w.heap.size + 1, 0, none⟩)], .int .i64 (x.1 : Int), evF 189 189 (.pointer (some e4)) (.pointer (some e6)) x.2, undef, undef, undef], defers := [] }) ?assign ?body ?done ?stop
  case assign =>
    intro l x W K hK
    gi_wp2
    exact hK
  case body =>
    rintro l pre x W ⟨⟨rfl, hcr, hfr⟩, hB⟩ _
    obtain ⟨ee, hee⟩ : ∃ ee, evF 189 189 (.pointer (some e4)) (.pointer (some e6)) x.2 = .iface 189 (.pointer (some ee)) := by unfold evF; split <;> exact ⟨_, rfl⟩
    rw [hee]
    have HEE := Lib.hid hee
    clear hee
    gi_wp2_with (refine ⟨trivial, ?_⟩; gi_at_call 36; refine (CallsIn.inRound l (callsIn_wide.2 (fault_at _ _ _ _))).mono ?_; rintro e w' ⟨rfl, rfl⟩; have hlt := World.block_lt_of_cell? W _ hcr; have hc9 := cell_in ((Below.refl W.heap.size W).alloc (Nat.le_refl _) (.cells #[.int .i64 (x.1 : Int), .iface 189 (.pointer (some ee))] 74)) hcr; have hf9 := (((Below.refl W.heap.size W).alloc (Nat.le_refl _) (.cells #[.int .i64 (x.1 : Int), .iface 189 (.pointer (some ee))] 74)).frozen (p := ⟨w.heap.size, 0, none⟩) hlt).trans hfr)
    have hlt := World.block_lt_of_cell? W _ hcr
    have hlt' : w.heap.size < W.heap.size := hlt
    have hs : (W.setCell ⟨w.heap.size, 0, none⟩ (.iface 70 (.pointer (some ⟨W.heap.size, 0, none⟩)))).heap.size = W.heap.size := by simp [World.setCell]
    have hn := blk_new (W.setCell ⟨w.heap.size, 0, none⟩ (.iface 70 (.pointer (some ⟨W.heap.size, 0, none⟩)))) (.cells #[.int .i64 (x.1 : Int), .iface 189 (.pointer (some ee))] 74)
    rw [hs] at hn
    have hc9 := cell_in ((Below.refl _ _).alloc (Nat.le_refl _) (.cells #[.int .i64 (x.1 : Int), .iface 189 (.pointer (some ee))] 74)) (World.cell?_setCell_same' W ⟨w.heap.size, 0, none⟩ (.iface 70 (.pointer (some ⟨W.heap.size, 0, none⟩))) (by rw [hcr]; rfl))
    refine ⟨((KeepsOthers.setCell _ _ _).trans (KeepsOthers.alloc _ _)).from _, ⟨rfl, x, W.heap.size, rfl, hc9, ?_⟩, (hB.setCell (p := ⟨w.heap.size, 0, none⟩) (Nat.le_refl _) _).alloc (by rw [hs]; omega) _⟩
    rw [HEE.out]
    exact hn
  case done =>
    rintro D ys W hD rfl ⟨⟨hys, hcr, hfr⟩, hB⟩ hK
    gi_wp2
    have hK' := (KeepsOthers.setCell W ⟨w.heap.size, 0, none⟩ .nilIface).same D _ hK rfl
    refine ⟨by simp, .inl ⟨_, _, rfl, run_takeDeferred hK', ?_⟩⟩
    have hc5 := cell_kept (World.cell?_setCell_same' W ⟨w.heap.size, 0, none⟩ .nilIface (by rw [hcr]; rfl)) (grownBy_putObj' _ D (.deferred none)) (fun r e => by cases e; exact ⟨_, hK', rfl⟩)
    have hN : checkS p = none := by unfold checkS; rw [if_neg (by omega), hys]
    refine ⟨.nilIface, ?_, .nilIface, rfl, by rw [hN]; rfl, (hB.setCell (p := ⟨w.heap.size, 0, none⟩) (Nat.le_refl _) _).trans (belowK_b (w := w) (Nat.le_refl _) _ D _ _ (by simp at hD; omega) hK' rfl rfl)⟩
    simp [results, Tryz.f26, go_sem, hc5]
  case stop =>
    rintro D c pre W hD ⟨rest, hpre⟩ ⟨⟨rfl, x, g, rfl, hc1, hg1⟩, hB⟩ hK
    gi_wp2
    refine ⟨by simp, .inl ⟨_, _, rfl, run_takeDeferred hK, ?_⟩⟩
    have hc5 := cell_kept hc1 (grownBy_putObj' _ D (.deferred none)) (fun r e => by cases e; exact ⟨_, hK, rfl⟩)
    have hg5 := heap_kept hg1 (grownBy_putObj' _ D (.deferred none)) (fun r e => by cases e; exact ⟨_, hK, rfl⟩)
    obtain ⟨i, cc⟩ := x
    have hN : checkS p = some ((i : Int), cc) := by unfold checkS; rw [if_neg (by omega), ← hpre]; rfl
    have hbb := hB.trans (belowK_b (w := w) (Nat.le_refl _) W D _ (.deferred none) (by simp at hD; omega) hK rfl rfl)
    have hcc := faultsL_code p (-1) 0 (i, cc) (by rw [← hpre]; simp)
    refine ⟨.iface 70 (.pointer (some ⟨g, 0, none⟩)), ?_, .iface 70 (.pointer (some ⟨g, 0, none⟩)), rfl, ?_, hbb⟩
    · simp [results, Tryz.f26, go_sem, hc5]
    · rw [hN]
      rcases hcc with rfl | rfl
      · exact ⟨by omega, by omega, g, _, rfl, hg5, cell_in hbb he4⟩
      · exact ⟨by omega, by omega, g, _, rfl, hg5, cell_in hbb he6⟩
end Go.Proofs.YthggpjiabklekaaGreatDoor
