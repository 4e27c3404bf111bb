import Derived.Test.YtlgdenihddkjaaaDoorRd
namespace Go.Proofs.YtlgdenihddkjaaaDoor
set_option linter.unusedSimpArgs false
set_option linter.unusedVariables false
open Go.RowKit

theorem blk_cell {w : World} {n : Nat} {cs : Array Value} {t : TypeId} (h : w.heap[n]? = some (.cells cs t (0, 0))) (i : Nat) : w.cell? ⟨n, i, none⟩ = cs[i]? := by simp [World.cell?, h]
theorem blk_fz {w : World} {n : Nat} {cs : Array Value} {t : TypeId} (h : w.heap[n]? = some (.cells cs t (0, 0))) (i : Nat) : w.frozen? ⟨n, i, none⟩ = false := by simp [World.frozen?, h]
theorem blk_set {w : World} {n : Nat} {cs : Array Value} {t : TypeId} (h : w.heap[n]? = some (.cells cs t (0, 0))) (i : Nat) (v : Value) : (w.setCell ⟨n, i, none⟩ v).heap[n]? = some (.cells (cs.setIfInBounds i v) t (0, 0)) := by
  simp only [World.setCell, Array.getElem?_modify, h]
  simp
theorem But.setNew {b : Nat} {w w' : World} (h : But b w w') {n : Nat} (hn : w.heap.size ≤ n) (i : Nat) (v : Value) : But b w (w'.setCell ⟨n, i, none⟩ v) :=
  ⟨h.os, h.tape, h.output, by simpa [World.setCell] using h.size, fun k hk hb => (Below.heap_setCell _ _ _ _ (by show k ≠ n; omega)).trans (h.block k hk hb)⟩
theorem Rd.set {w : World} {b : Nat} {s : ByteArray} {k : Nat} (h : Rd w b s k) {n : Nat} (hn : b ≠ n) (i : Nat) (v : Value) : Rd (w.setCell ⟨n, i, none⟩ v) b s k :=
  (Below.heap_setCell _ _ _ _ hn).trans h
/-- The ten digits. -/
def digs : ByteArray := ⟨#[48, 49, 50, 51, 52, 53, 54, 55, 56, 57]⟩
theorem digit_in : ∀ n : Fin 256, ¬ Lib.indexByte digs.data.toList (UInt8.ofNat n.val) < 0 → 48 ≤ n.val ∧ n.val ≤ 57 := by decide +kernel
theorem digit_of (c : UInt8) (h : ¬ Lib.indexByte digs.data.toList c < 0) : 48 ≤ c.toNat ∧ c.toNat ≤ 57 := by
  refine digit_in ⟨c.toNat, c.toNat_lt⟩ ?_
  simpa using h
/-- A number of so many digits, from a place on. -/
def numS (s : ByteArray) : Nat → Nat → Nat → Except (Int × Nat) Nat
  | 0, a, _ => .ok a
  | m + 1, a, k => match oneS s digs k with
    | .error x => .error x
    | .ok c => numS s m (10 * a + (c.toNat - 48)) (k + 1)

def numR (k0 many : Nat) (low high : Int) : Except (Int × Nat) Nat → Except (Int × Nat) (Value × Nat)
  | .ok n => .ok (.agg #[.int .i64 n, .int .i64 k0, .int .i64 low, .int .i64 high], k0 + many)
  | .error x => .error x

set_option maxHeartbeats 2000000 in
theorem number_any (b : Nat) (s : ByteArray) (k0 : Nat) (many : Nat) (low high : Int) (w : World) (hr : Rd w b s k0) (hm : many ≤ 4) (hs : s.size < 4611686018427387904) (hk0 : k0 ≤ s.size) (hI : ErrAt b w) :
    Calls Tryd.prog 29 #[.pointer (some ⟨b, 0, none⟩), .int .i64 many, .int .i64 low, .int .i64 high] w (Done b s w (numR k0 many low high (numS s many 0 k0))) := by
  generalize hR : numS s many 0 k0 = R
  have hbl := hr.lt
  have c1 := hr.c1
  go_enter Tryd.func29, Tryd.ntmps29
  go_wp2
  go_loopw [18] (fun i wr => ∃ j a : Nat, j ≤ many ∧ i = .int .i64 j ∧ a < 10 ^ j ∧ numS s (many - j) a (k0 + j) = R ∧ k0 + j ≤ s.size ∧ Rd wr b s (k0 + j) ∧ But b w wr ∧ w.heap.size + 2 ≤ wr.heap.size ∧
      wr.heap[w.heap.size]? = some (.cells #[.int .i64 0, .int .i64 0, .int .i64 0, .int .i64 0] 54 (0, 0)) ∧ wr.heap[w.heap.size + 1]? = some (.cells #[.int .i64 a, .int .i64 k0, .int .i64 low, .int .i64 high] 54 (0, 0)))
    (fun i _ => many - (intOf i).toNat)
  case atStart =>
    refine ⟨0, 0, Nat.zero_le _, rfl, by simp, hR, hk0, hr.but (((Below.refl _ _).alloc (Nat.le_refl _) _).alloc (by simp) _), ((But.refl b w).alloc _).alloc _, by simp, ?_, ?_⟩
    · show ((w.heap.push _).push _)[w.heap.size]? = _
      simp [Array.getElem?_push]
    · show ((w.heap.push _).push _)[w.heap.size + 1]? = _
      rw [Array.getElem?_push, if_pos (by simp)]
      rfl
  case round =>
    obtain ⟨j, a, hj, rfl, ha, hn, hkj, hrr, hbut, hsz, hq, hp⟩ := hrel
    have ha' : a < 10000 := Nat.lt_of_lt_of_le ha (Nat.pow_le_pow_right (by omega) (by omega : j ≤ 4))
    have p0 := blk_cell hp 0
    have q0 := blk_cell hq 0
    have z0 := blk_fz hq 0
    have p1 := blk_cell hp 1
    have q1 := blk_cell hq 1
    have z1 := blk_fz hq 1
    have p2 := blk_cell hp 2
    have q2 := blk_cell hq 2
    have z2 := blk_fz hq 2
    have p3 := blk_cell hp 3
    have q3 := blk_cell hq 3
    have z3 := blk_fz hq 3
    have y0 := blk_fz hp 0
    simp at p0 p1 p2 p3 q0 q1 q2 q3
    have hIr : ErrInv wr.drew := (hI.but hbut).inv.drewN 1
    have hrd : Rd wr.drew b s (k0 + j) := hrr
    have HB : Hid (But b w wr) := hbut
    have HN : Hid (numS s (many - j) a (k0 + j) = R) := hn
    have HP : Hid (wr.heap[w.heap.size + 1]? = some (.cells #[.int .i64 a, .int .i64 k0, .int .i64 low, .int .i64 high] 54 (0, 0))) := hp
    have HQ : Hid (wr.heap[w.heap.size]? = some (.cells #[.int .i64 0, .int .i64 0, .int .i64 0, .int .i64 0] 54 (0, 0))) := hq
    have HR : Hid (Rd wr b s (k0 + j)) := hrr
    clear hbut hn hp hq hrr
    by_cases hjm : j = many
    · subst hjm
      clear y0 hIr hI hrd
      go_wp2
      have HN' := HN.out
      rw [Nat.sub_self, numS] at HN'
      subst HN'
      have e1 := blk_set (blk_set (blk_set (blk_set HQ.out 0 (.int .i64 a)) 1 (.int .i64 k0)) 2 (.int .i64 low)) 3 (.int .i64 high)
      refine bodyPost_ret_by (v := .agg #[.int .i64 a, .int .i64 k0, .int .i64 low, .int .i64 high]) ?_ rfl ?_
      · generalize (((wr.setCell _ _).setCell _ _).setCell _ _).setCell _ _ = W at e1
        have r0 := blk_cell e1 0
        have r1 := blk_cell e1 1
        have r2 := blk_cell e1 2
        have r3 := blk_cell e1 3
        simp at r0 r1 r2 r3
        clear e1
        simp [results, Tryd.results29, go_sem, r0, r1, r2, r3]
      · exact ⟨(((HB.out.setNew (Nat.le_refl _) 0 _).setNew (Nat.le_refl _) 1 _).setNew (Nat.le_refl _) 2 _).setNew (Nat.le_refl _) 3 _, rfl,
          (((HR.out.set (by omega) 0 _).set (by omega) 1 _).set (by omega) 2 _).set (by omega) 3 _⟩
    · have hlt : (j : Int) < (many : Int) := by omega
      obtain ⟨m', hm'⟩ : ∃ m', many - j = m' + 1 := ⟨many - j - 1, by omega⟩
      clear q0 q1 q2 q3 z0 z1 z2 z3 p1 p2 p3
      by_cases hk : k0 + j < s.size
      · by_cases hi : Lib.indexByte digs.data.toList s[k0 + j] < 0
        · have H := (show Hid _ from one_bad b s digs (k0 + j) wr.drew hrd hk hi hIr)
          have hR' : R = .error (((k0 + j : Nat) : Int), 1) := by have hn := HN.out; rw [hm', numS] at hn; rw [← hn]; simp [oneS, hk, hi]
          subst hR'
          clear hrd hi hIr hI hR hm'
          go_wp2
          go_region_dies
          all_goals
            refine Calls.mono H.out ?_
            rintro e w' ⟨v, rfl, hf, hb⟩
            exact ⟨rfl, HB.out.trans (But.of_below (w := wr) ⟨hb.os, hb.tape, hb.output, hb.size, hb.block⟩ (Nat.le_refl _)), v, rfl, hf⟩
        · have hd := digit_of _ hi
          have H := (show Hid _ from one_ok b s digs (k0 + j) wr.drew hrd hk hs hi)
          have HN' : Hid (numS s m' (10 * a + (s[k0 + j].toNat - 48)) (k0 + j + 1) = R) := by show _ = _; have hn := HN.out; rw [hm', numS] at hn; rw [← hn]; simp [oneS, hk, hi]
          clear hrd hi hIr hI hR
          go_wp2
          go_region_with (refine Calls.mono H.out ?_; rintro e w' ⟨rfl, hb1, hr1⟩; have hp' := (hb1.block (w.heap.size + 1) (show w.heap.size + 1 < wr.heap.size by omega) (by omega)).trans HP.out; have p0' := blk_cell hp' 0; have y0' := blk_fz hp' 0; simp at p0')
          all_goals go_wp2
          all_goals
            refine ⟨⟨j + 1, 10 * a + (s[k0 + j].toNat - 48), by omega, by push_cast; rfl, ?_, ?_, by omega, ?_, ?_, ?_, ?_, ?_⟩, ?_⟩
            · rw [Nat.pow_succ]; omega
            · rw [show many - (j + 1) = m' by omega]; exact HN'.out
            · exact hr1.set (by omega) 0 _
            · exact (HB.out.trans (z := w') ⟨hb1.os, hb1.tape, hb1.output, hb1.size, hb1.block⟩).setNew (by omega) 0 _
            · have := hb1.size
              have h2 : wr.drew.heap.size = wr.heap.size := rfl
              simp [World.setCell]
              omega
            · exact (Below.heap_setCell _ _ _ _ (by simp)).trans ((hb1.block w.heap.size (show w.heap.size < wr.heap.size by omega) (by omega)).trans HQ.out)
            · refine (blk_set hp' 0 _).trans ?_
              simp
              omega
            · simp [intOf]
              omega
      · have H := (show Hid _ from one_end b s digs (k0 + j) wr.drew hrd (by omega) hIr)
        have hR' : R = .error ((s.size : Int), 2) := by have hn := HN.out; rw [hm', numS] at hn; rw [← hn]; simp [oneS, hk]
        subst hR'
        clear hrd hIr hI hR hm'
        go_wp2
        go_region_dies
        all_goals
          refine Calls.mono H.out ?_
          rintro e w' ⟨v, rfl, hf, hb⟩
          exact ⟨rfl, HB.out.trans (But.of_below (w := wr) ⟨hb.os, hb.tape, hb.output, hb.size, hb.block⟩ (Nat.le_refl _)), v, rfl, hf⟩

end Go.Proofs.YtlgdenihddkjaaaDoor
