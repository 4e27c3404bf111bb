/- What stamp.made does: the first number out of its bounds, or the stamp. -/
import Derived.Test.YtlgdenihddkjaaaDoorCheck
import Derived.Test.YtlgdenihddkjaaaDoorPStx1
namespace Go.Proofs.YtlgdenihddkjaaaDoor
set_option linter.unusedSimpArgs false
set_option linter.unusedVariables false
open Go.RowKit Go.Proofs.YtlgdenihddkjaaaDoorW.PrintWords

/-- A number that was read, where it begins, and its bounds. -/
structure Pt where
  n : Nat
  p : Nat
  lo : Int
  hi : Int
def Pt.vs (x : Pt) : List Value := [.int .i64 x.n, .int .i64 x.p, .int .i64 x.lo, .int .i64 x.hi]
def flat : List Pt → List Value
  | [] => []
  | x :: r => x.vs ++ flat r
theorem flat_length : ∀ ps : List Pt, (flat ps).length = 4 * ps.length
  | [] => rfl
  | x :: r => by simp [flat, Pt.vs, flat_length r]; omega
theorem flat_at : ∀ (ps : List Pt) (i : Nat) (x : Pt), ps[i]? = some x → ∀ j, j < 4 → (flat ps)[i * 4 + j]? = x.vs[j]?
  | [], _, _, h, _, _ => by simp at h
  | y :: r, 0, x, h, j, hj => by
    simp at h
    subst h
    simp only [flat, Nat.zero_mul, Nat.zero_add]
    rw [List.getElem?_append_left (by simp [Pt.vs]; omega)]
  | y :: r, i + 1, x, h, j, hj => by
    simp at h
    simp only [flat]
    rw [List.getElem?_append_right (by simp [Pt.vs]; omega)]
    rw [← flat_at r i x h j hj]
    congr 1
    simp [Pt.vs]
    omega
theorem flat_append : ∀ (a b : List Pt), flat (a ++ b) = flat a ++ flat b
  | [], _ => rfl
  | x :: r, b => by simp [flat, flat_append r b]
/-- The cells of a row that one owns. -/
theorem owns_cells {w : World} {M n : Nat} {v : Value} {ps : List Pt} (h : w.ownsRow M 54 4 v n (flat ps)) (hn : 0 < n) : n = ps.length ∧ ∃ g cap, v = .slice (some ⟨g, 0, none⟩) n cap ∧ M ≤ g ∧ g < w.heap.size ∧ n ≤ cap ∧
    ∀ i x, ps[i]? = some x → ∀ j, j < 4 → w.cell? ⟨g, i * 4 + j, none⟩ = x.vs[j]? := by
  obtain ⟨h1, h2⟩ := h
  rw [flat_length] at h1
  rcases h2 with ⟨_, h2⟩ | ⟨g, cap, cur, rfl, hg, hh, hc, hm, hs, ht⟩
  · omega
  · refine ⟨by omega, g, cap, rfl, hg, heap_lt hh, hc, fun i x hx j hj => ?_⟩
    rw [blk_cell hh, ← flat_at ps i x hx j hj, ← ht]
    have hi : i < ps.length := by
      rcases Nat.lt_or_ge i ps.length with h | h
      · exact h
      · rw [List.getElem?_eq_none h] at hx; cases hx
    rw [List.getElem?_take_of_lt (by omega)]
    simp

/-- The first number that is out of its bounds. -/
def madeL (h2 : Int) : Nat → List Pt → Option (Int × Nat)
  | _, [] => none
  | i, x :: r => if (x.n : Int) < x.lo ∨ (x.n : Int) > (if i = 2 then h2 else x.hi) then some (x.p, 4) else madeL h2 (i + 1) r

/-- The stamp is naught and the fault is told. -/
theorem bad_fin (w wr : World) (hT : wr.heap[w.heap.size]? = some (.cells #[.int .i64 0, .int .i64 0] 31 (0, 0))) (hb : Below w.heap.size w wr) (hlt : 0 < w.heap.size) (s : Value) (heg : wr.cell? ⟨0, 0, none⟩ = some s) (P : Obj) (p : Int) :
    ∀ W, W = ((((wr.setCell ⟨w.heap.size, 0, none⟩ (.int .i64 0)).setCell ⟨w.heap.size, 1, none⟩ (.int .i64 0)).alloc P).alloc (.cells #[.int .i64 p, s] 65)) →
    W.cell? ⟨w.heap.size, 0, none⟩ = some (.int .i64 0) ∧ W.cell? ⟨w.heap.size, 1, none⟩ = some (.int .i64 0) ∧ FltIs W (.iface 47 (.pointer (some ⟨wr.heap.size + 1, 0, none⟩))) (some (p, 4)) ∧ Below w.heap.size w W := by
  rintro W rfl
  have e1 := blk_set (blk_set hT 0 (.int .i64 0)) 1 (.int .i64 0)
  have hb1 : Below w.heap.size w ((wr.setCell ⟨w.heap.size, 0, none⟩ (.int .i64 0)).setCell ⟨w.heap.size, 1, none⟩ (.int .i64 0)) := (hb.setCell (Nat.le_refl _) _).setCell (Nat.le_refl _) _
  have hs1 : ((wr.setCell ⟨w.heap.size, 0, none⟩ (.int .i64 0)).setCell ⟨w.heap.size, 1, none⟩ (.int .i64 0)).heap.size = wr.heap.size := by simp [World.setCell]
  have hc1 : ((wr.setCell ⟨w.heap.size, 0, none⟩ (.int .i64 0)).setCell ⟨w.heap.size, 1, none⟩ (.int .i64 0)).cell? ⟨0, 0, none⟩ = some s := by
    rw [World.cell?_of_block (w := wr)]
    · exact heg
    · exact (Below.heap_setCell _ _ _ _ (by show 0 ≠ w.heap.size; omega)).trans (Below.heap_setCell _ _ _ _ (by show 0 ≠ w.heap.size; omega))
  generalize (wr.setCell _ _).setCell _ _ = X at e1 hb1 hs1 hc1 ⊢
  have hl := heap_lt e1
  have e2 : (X.alloc P).heap[w.heap.size]? = _ := (Below.heap_alloc _ _ _ hl).trans e1
  have e3 : ((X.alloc P).alloc (.cells #[.int .i64 p, s] 65)).heap[w.heap.size]? = _ := (Below.heap_alloc _ _ _ (heap_lt e2)).trans e2
  refine ⟨by simpa using blk_cell e3 0, by simpa using blk_cell e3 1, ?_, (hb1.alloc (by omega) _).alloc (by simp; omega) _⟩
  have h3 := flt_new (X.alloc P) 0 p 4 s (by omega) (by omega) ((World.cell?_alloc_lt X P ⟨0, 0, none⟩ (World.block_lt_of_cell? X _ hc1)).trans hc1)
  have e : (X.alloc P).heap.size = wr.heap.size + 1 := by simp [hs1]
  rw [e] at h3
  exact h3

theorem bad_fin2 (w wr : World) (hT : wr.heap[w.heap.size]? = some (.cells #[.int .i64 0, .int .i64 0] 31 (0, 0))) (hb : Below w.heap.size w wr) (hlt : 0 < w.heap.size) (s : Value) (heg : wr.cell? ⟨0, 0, none⟩ = some s) (P : Obj) (p : Int) (q : Nat) :
    ∀ W, W = (((((wr.alloc P).drewN q).setCell ⟨w.heap.size, 0, none⟩ (.int .i64 0)).setCell ⟨w.heap.size, 1, none⟩ (.int .i64 0)).alloc (.cells #[.int .i64 p, s] 65)) →
    W.cell? ⟨w.heap.size, 0, none⟩ = some (.int .i64 0) ∧ W.cell? ⟨w.heap.size, 1, none⟩ = some (.int .i64 0) ∧ FltIs W (.iface 47 (.pointer (some ⟨wr.heap.size + 1, 0, none⟩))) (some (p, 4)) ∧ Below w.heap.size w W := by
  rintro W rfl
  have hl0 := heap_lt hT
  have eT : ((wr.alloc P).drewN q).heap[w.heap.size]? = some (.cells #[.int .i64 0, .int .i64 0] 31 (0, 0)) := (Below.heap_alloc wr P _ hl0).trans hT
  have eb : Below w.heap.size w ((wr.alloc P).drewN q) := Below.drewN (hb.alloc (by omega) _) q
  have eg : ((wr.alloc P).drewN q).cell? ⟨0, 0, none⟩ = some s := (World.cell?_alloc_lt wr P ⟨0, 0, none⟩ (World.block_lt_of_cell? wr _ heg)).trans heg
  have es : ((wr.alloc P).drewN q).heap.size = wr.heap.size + 1 := by show (wr.alloc P).heap.size = _; simp
  generalize (wr.alloc P).drewN q = Y at eT eb eg es ⊢
  have e1 := blk_set (blk_set eT 0 (.int .i64 0)) 1 (.int .i64 0)
  have hb1 : Below w.heap.size w ((Y.setCell ⟨w.heap.size, 0, none⟩ (.int .i64 0)).setCell ⟨w.heap.size, 1, none⟩ (.int .i64 0)) := (eb.setCell (Nat.le_refl _) _).setCell (Nat.le_refl _) _
  have hs1 : ((Y.setCell ⟨w.heap.size, 0, none⟩ (.int .i64 0)).setCell ⟨w.heap.size, 1, none⟩ (.int .i64 0)).heap.size = wr.heap.size + 1 := by simp [World.setCell, es]
  have hc1 : ((Y.setCell ⟨w.heap.size, 0, none⟩ (.int .i64 0)).setCell ⟨w.heap.size, 1, none⟩ (.int .i64 0)).cell? ⟨0, 0, none⟩ = some s := by
    rw [World.cell?_of_block (w := Y)]
    · exact eg
    · exact (Below.heap_setCell _ _ _ _ (by show 0 ≠ w.heap.size; omega)).trans (Below.heap_setCell _ _ _ _ (by show 0 ≠ w.heap.size; omega))
  generalize (Y.setCell _ _).setCell _ _ = X at e1 hb1 hs1 hc1 ⊢
  have hl := heap_lt e1
  have e3 : (X.alloc (.cells #[.int .i64 p, s] 65)).heap[w.heap.size]? = _ := (Below.heap_alloc _ _ _ hl).trans e1
  refine ⟨by simpa using blk_cell e3 0, by simpa using blk_cell e3 1, ?_, hb1.alloc (by omega) _⟩
  have h3 := flt_new X 0 p 4 s (by omega) (by omega) hc1
  rw [hs1] at h3
  exact h3

set_option maxHeartbeats 4000000 in
theorem made_bad (g cap n M : Nat) (ps : List Pt) (sign : UInt8) (nanos : Nat) (x0 x1 : Pt) (h2 : Int) (kl : Nat) (w : World) (hM : g < w.heap.size) (hn : n = ps.length) (hn2 : 2 ≤ n) (hn8 : n ≤ 8) (hcap : n ≤ cap)
    (hc : ∀ i x, ps[i]? = some x → ∀ j, j < 4 → w.cell? ⟨g, i * 4 + j, none⟩ = x.vs[j]?) (hx0 : ps[0]? = some x0) (hx1 : ps[1]? = some x1) (hl : PSt.stamp_length.f kl x0.n x1.n = some h2) (hI : ErrInv w) (R : Int × Nat) (hR : madeL h2 0 ps = some R) :
    Calls Tryd.prog 32 #[.slice (some ⟨g, 0, none⟩) n cap, .int .u8 sign.toNat, .int .i64 nanos] w fun e w' => ∃ v, e = .returned (.tuple #[.agg #[.int .i64 0, .int .i64 0], v]) ∧ FltIs w' v (some R) ∧ Below w.heap.size w w' := by
  have hdrop : ∀ j, n ≤ j → ps.drop j = [] := fun j h => List.drop_eq_nil_of_le (by omega)
  have hget : ∀ j, j < n → ∃ x, ps[j]? = some x ∧ ps.drop j = x :: ps.drop (j + 1) := fun j h => by
    have hlt' : j < ps.length := by omega
    exact ⟨ps[j], List.getElem?_eq_getElem hlt', List.drop_eq_getElem_cons hlt'⟩
  clear hn
  go_enter Tryd.func32, Tryd.ntmps32
  go_wp2
  go_loopw [17] (fun i wr => ∃ j : Nat, j ≤ n ∧ i = .int .i64 j ∧ madeL h2 j (ps.drop j) = some R ∧ Below w.heap.size w wr ∧ w.heap.size + 1 ≤ wr.heap.size ∧
      wr.heap[w.heap.size]? = some (.cells #[.int .i64 0, .int .i64 0] 31 (0, 0)))
    (fun i _ => n - (intOf i).toNat)
  case atStart =>
    refine ⟨0, by omega, rfl, hR, (Below.refl _ _).alloc (Nat.le_refl _) _, by simp, heap_alloc_new w _⟩
  case round =>
    obtain ⟨j, hj, rfl, hm, hb, hsz, hT⟩ := hrel
    have hjn : j < n := by
      rcases Nat.lt_or_ge j n with h | h
      · exact h
      · rw [hdrop j h] at hm; cases hm
    obtain ⟨x, hx, hdr⟩ := hget j hjn
    have hc0 : wr.cell? ⟨g, j * 4, none⟩ = some (.int .i64 x.n) := cell_in hb (hc j x hx 0 (by omega))
    have hc1 : wr.cell? ⟨g, j * 4 + 1, none⟩ = some (.int .i64 x.p) := cell_in hb (hc j x hx 1 (by omega))
    have hc2 : wr.cell? ⟨g, j * 4 + 2, none⟩ = some (.int .i64 x.lo) := cell_in hb (hc j x hx 2 (by omega))
    have hc3 : wr.cell? ⟨g, j * 4 + 3, none⟩ = some (.int .i64 x.hi) := cell_in hb (hc j x hx 3 (by omega))
    have hg0 : wr.cell? ⟨g, 0, none⟩ = some (.int .i64 x0.n) := by simpa using cell_in hb (hc 0 x0 hx0 0 (by omega))
    have hg1 : wr.cell? ⟨g, 4, none⟩ = some (.int .i64 x1.n) := by simpa using cell_in hb (hc 1 x1 hx1 0 (by omega))
    have hg0' : ∀ o, (wr.alloc o).cell? ⟨g, 0, none⟩ = some (.int .i64 x0.n) := fun o => (World.cell?_alloc_lt wr o ⟨g, 0, none⟩ (World.block_lt_of_cell? wr _ hg0)).trans hg0
    have hg1' : ∀ o, (wr.alloc o).cell? ⟨g, 4, none⟩ = some (.int .i64 x1.n) := fun o => (World.cell?_alloc_lt wr o ⟨g, 4, none⟩ (World.block_lt_of_cell? wr _ hg1)).trans hg1
    have hn0 : (0 : Int) < (n : Int) := by omega
    have hn0N : 0 < n := by omega
    have hnz : ¬ n = 0 := by omega
    have hn1N : 1 < n := by omega
    have hn1L : ¬ (n : Int) ≤ 1 := by omega
    have hn1M : ¬ n ≤ 1 := by omega
    have hn1 : (1 : Int) < (n : Int) := by omega
    have hlt : (j : Int) < (n : Int) := by omega
    obtain ⟨a, he, -⟩ := hI.sent 4 (by decide)
    have heg : wr.cell? ⟨0, 0, none⟩ = _ := cell_in hb he
    have he0 : ∀ o, (wr.alloc o).cell? ⟨0, 0, none⟩ = _ := fun o => (World.cell?_alloc_lt wr o ⟨0, 0, none⟩ (World.block_lt_of_cell? wr _ heg)).trans heg
    have hT0 : wr.cell? ⟨w.heap.size, 0, none⟩ = some (.int .i64 0) := by simpa using blk_cell hT 0
    have hT1 : wr.cell? ⟨w.heap.size, 1, none⟩ = some (.int .i64 0) := by simpa using blk_cell hT 1
    have hZ0 := blk_fz hT 0
    have hZ1 := blk_fz hT 1
    have hne : w.heap.size < wr.heap.size := by omega
    have hne' : ¬ w.heap.size = wr.heap.size := by omega
    have hne2 : ¬ w.heap.size = wr.heap.size + 1 := by omega
    have HB : Hid (Below w.heap.size w wr) := hb
    have HT : Hid (wr.heap[w.heap.size]? = some (.cells #[.int .i64 0, .int .i64 0] 31 (0, 0))) := hT
    have HM : Hid (madeL h2 j (ps.drop j) = some R) := hm
    have h00 : 0 < w.heap.size := World.block_lt_of_cell? w _ he
    clear hI he hT hm hb hc
    clear hget hdrop
    by_cases hj2 : j = 2
    · subst hj2
      have k0 : wr.cell? ⟨g, 8, none⟩ = some (.int .i64 x.n) := hc0
      have k1 : wr.cell? ⟨g, 9, none⟩ = some (.int .i64 x.p) := hc1
      have k2 : wr.cell? ⟨g, 10, none⟩ = some (.int .i64 x.lo) := hc2
      have k3 : wr.cell? ⟨g, 11, none⟩ = some (.int .i64 x.hi) := hc3
      have hlt2 : (2 : Int) < (n : Int) := by omega
      clear hc0 hc1 hc2 hc3 hlt
      have hRbad : ((x.n : Int) < x.lo ∨ (x.n : Int) > h2) → R = ((x.p : Int), 4) := fun h => by
        have hm := HM.out
        rw [hdr, madeL, if_pos rfl, if_pos h] at hm
        exact (Option.some.inj hm).symm
      have hRok : ¬ ((x.n : Int) < x.lo ∨ (x.n : Int) > h2) → madeL h2 (2 + 1) (ps.drop (2 + 1)) = some R := fun h => by
        have hm := HM.out
        rw [hdr, madeL, if_pos rfl, if_neg h] at hm
        exact hm
      clear hdr
      by_cases hlo : (x.n : Int) < x.lo
      · go_wp2
        go_quiet (first | (go_at_call 25; refine (PSt.stamp_length.calls kl _ _ _ _ hl).mono ?_; rintro e w' ⟨rfl, ⟨nd, rfl⟩⟩; (first | exact ⟨rfl, _, World.drewN_drewN _ _ _⟩ | exact ⟨rfl, _, Eq.trans (World.drewN_drewN _ _ _) (congrArg (World.drewN _) (Nat.add_assoc _ _ _))⟩)))
        go_wp2_with (go_at_call 24; refine (fault_any _ _ _ _).mono ?_; rintro e w' ⟨rfl, rfl⟩)
        obtain rfl : R = ((x.p : Int), 4) := hRbad (Or.inl hlo)
        obtain ⟨r0, r1, r2, r3⟩ := bad_fin2 w wr HT.out HB.out h00 _ heg _ _ _ _ rfl
        refine bodyPost_ret_by (v := .tuple #[.agg #[.int .i64 0, .int .i64 0], .iface 47 (.pointer (some ⟨wr.heap.size + 1, 0, none⟩))]) ?_ rfl ?_
        · clear r2 r3
          generalize World.alloc _ _ = W at r0 r1 ⊢
          simp [results, Tryd.results32, go_sem, r0, r1]
        · exact ⟨_, rfl, r2, r3⟩
      by_cases hhi : (x.n : Int) > h2
      · go_wp2
        go_quiet (first | (go_at_call 25; refine (PSt.stamp_length.calls kl _ _ _ _ hl).mono ?_; rintro e w' ⟨rfl, ⟨nd, rfl⟩⟩; (first | exact ⟨rfl, _, World.drewN_drewN _ _ _⟩ | exact ⟨rfl, _, Eq.trans (World.drewN_drewN _ _ _) (congrArg (World.drewN _) (Nat.add_assoc _ _ _))⟩)))
        go_wp2_with (go_at_call 24; refine (fault_any _ _ _ _).mono ?_; rintro e w' ⟨rfl, rfl⟩)
        obtain rfl : R = ((x.p : Int), 4) := hRbad (Or.inr hhi)
        obtain ⟨r0, r1, r2, r3⟩ := bad_fin2 w wr HT.out HB.out h00 _ heg _ _ _ _ rfl
        refine bodyPost_ret_by (v := .tuple #[.agg #[.int .i64 0, .int .i64 0], .iface 47 (.pointer (some ⟨wr.heap.size + 1, 0, none⟩))]) ?_ rfl ?_
        · clear r2 r3
          generalize World.alloc _ _ = W at r0 r1 ⊢
          simp [results, Tryd.results32, go_sem, r0, r1]
        · exact ⟨_, rfl, r2, r3⟩
      · go_wp2
        go_quiet (first | (go_at_call 25; refine (PSt.stamp_length.calls kl _ _ _ _ hl).mono ?_; rintro e w' ⟨rfl, ⟨nd, rfl⟩⟩; (first | exact ⟨rfl, _, World.drewN_drewN _ _ _⟩ | exact ⟨rfl, _, Eq.trans (World.drewN_drewN _ _ _) (congrArg (World.drewN _) (Nat.add_assoc _ _ _))⟩)))
        go_wp2_with (go_at_call 24; refine (fault_any _ _ _ _).mono ?_; rintro e w' ⟨rfl, rfl⟩)
        refine ⟨⟨2 + 1, by omega, rfl, hRok (by omega), Below.drewN (HB.out.alloc (by omega) _) _, by show w.heap.size + 1 ≤ (wr.alloc _).heap.size; simp; omega, (Below.heap_alloc wr _ _ (by omega)).trans HT.out⟩, ?_⟩
        show n - 3 < n - 2
        omega
    have hRbad : ((x.n : Int) < x.lo ∨ (x.n : Int) > x.hi) → R = ((x.p : Int), 4) := fun h => by
      have hm := HM.out
      rw [hdr, madeL, if_neg hj2, if_pos h] at hm
      exact (Option.some.inj hm).symm
    have hRok : ¬ ((x.n : Int) < x.lo ∨ (x.n : Int) > x.hi) → madeL h2 (j + 1) (ps.drop (j + 1)) = some R := fun h => by
      have hm := HM.out
      rw [hdr, madeL, if_neg hj2, if_neg h] at hm
      exact hm
    have hj2' : ¬ (j : Int) = 2 := by omega
    clear hdr
    by_cases hlo : (x.n : Int) < x.lo
    · go_wp2_with (go_at_call 24; refine (fault_any _ _ _ _).mono ?_; rintro e w' ⟨rfl, rfl⟩)
      obtain rfl : R = ((x.p : Int), 4) := hRbad (Or.inl hlo)
      obtain ⟨r0, r1, r2, r3⟩ := bad_fin w wr HT.out HB.out h00 _ heg _ _ _ rfl
      refine bodyPost_ret_by (v := .tuple #[.agg #[.int .i64 0, .int .i64 0], .iface 47 (.pointer (some ⟨wr.heap.size + 1, 0, none⟩))]) ?_ rfl ?_
      · clear r2 r3
        generalize World.alloc _ _ = W at r0 r1 ⊢
        simp [results, Tryd.results32, go_sem, r0, r1]
      · exact ⟨_, rfl, r2, r3⟩
    by_cases hhi : (x.n : Int) > x.hi
    · go_wp2_with (go_at_call 24; refine (fault_any _ _ _ _).mono ?_; rintro e w' ⟨rfl, rfl⟩)
      obtain rfl : R = ((x.p : Int), 4) := hRbad (Or.inr hhi)
      obtain ⟨r0, r1, r2, r3⟩ := bad_fin w wr HT.out HB.out h00 _ heg _ _ _ rfl
      refine bodyPost_ret_by (v := .tuple #[.agg #[.int .i64 0, .int .i64 0], .iface 47 (.pointer (some ⟨wr.heap.size + 1, 0, none⟩))]) ?_ rfl ?_
      · clear r2 r3
        generalize World.alloc _ _ = W at r0 r1 ⊢
        simp [results, Tryd.results32, go_sem, r0, r1]
      · exact ⟨_, rfl, r2, r3⟩
    · go_wp2_with (go_at_call 24; refine (fault_any _ _ _ _).mono ?_; rintro e w' ⟨rfl, rfl⟩)
      refine ⟨⟨j + 1, by omega, rfl, hRok (by omega), HB.out.alloc (by omega) _, by simp; omega, (Below.heap_alloc _ _ _ (by omega)).trans HT.out⟩, ?_⟩
      have e1 : (intOf (Value.int IntKind.i64 ((j : Int) + 1))).toNat = j + 1 := by show ((j : Int) + 1).toNat = j + 1; omega
      have e2 : (intOf (Value.int IntKind.i64 (j : Int))).toNat = j := by show (j : Int).toNat = j; omega
      rw [e1, e2]
      omega
end Go.Proofs.YtlgdenihddkjaaaDoor
