/- asn.Check: is it a row? -/
import Derived.Test.YtanbnlobbgfidaaGreatDoorUn
import Derived.Test.YtanbnlobbgfidaaGreatDoorNu
namespace Go.Proofs.YtanbnlobbgfidaaGreatDoor
set_option linter.unusedSimpArgs false
set_option linter.unusedVariables false
open Go.RowKit Go.Lib

/-- Where spans lie. -/
def Lies (w : World) (A : Option Addr) (p : List (Int × Int)) : Prop := 0 < p.length → ∃ ad, A = some ad ∧ ∀ j (hj : j < p.length), w.cell? (ad.add (j * 2)) = some (.int .u32 p[j].1) ∧ w.cell? (ad.add (j * 2 + 1)) = some (.int .u32 p[j].2)
theorem Lies.below {w w' : World} {A : Option Addr} {p : List (Int × Int)} (h : Lies w A p) (hb : Below w.heap.size w w') : Lies w' A p := fun hp => by
  obtain ⟨ad, h1, h2⟩ := h hp
  exact ⟨ad, h1, fun j hj => ⟨cell_in hb (h2 j hj).1, cell_in hb (h2 j hj).2⟩⟩
/-- The span stands well. -/
def okAt (p : List (Int × Int)) (j : Nat) : Prop := ∀ hj : j < p.length, p[j].1 ≤ p[j].2 ∧ (0 < j → p[j - 1].2 < p[j].1)
/-- Where a list stops being a row, and how. -/
def badIs (p : List (Int × Int)) (i : Nat) (x : Option (Int × Nat)) : Prop :=
  i ≤ p.length ∧ (∀ j, j < i → okAt p j) ∧ ((i = p.length ∧ x = none) ∨ ∃ h : i < p.length, (p[i].1 > p[i].2 ∧ x = some ((i : Int), 4)) ∨ (p[i].1 ≤ p[i].2 ∧ 0 < i ∧ p[i].1 ≤ p[i - 1].2 ∧ x = some ((i : Int), 6)))

set_option maxRecDepth 20000 in
set_option maxHeartbeats 1000000 in
theorem check_at (A : Option Addr) (c : Nat) (p : List (Int × Int)) (w : World) (hI : AInv w) (hl : p.length ≤ 1000000) (hA : Lies w A p) (i : Nat) (x : Option (Int × Nat)) (hb : badIs p i x) :
    Calls Tryz.prog 19 #[.slice A p.length c] w fun e w' => ∃ v, e = .returned v ∧ FltIs w' v x ∧ Below w.heap.size w w' := by
  obtain ⟨hi, hok, hx⟩ := hb
  have HA := Lib.hid hA
  have HI := Lib.hid hI
  have HOK := Lib.hid hok
  have HX := Lib.hid hx
  clear hA hI hok hx
  go_enter Tryz.func19, Tryz.ntmps19
  go_wp2
  go_loopw [7] (fun n wr => ∃ k : Nat, k ≤ i ∧ n = .int .i64 k ∧ Below w.heap.size w wr) (fun n _ => p.length - (RowKit.intOf n).toNat)
  case atStart => exact ⟨0, Nat.zero_le _, rfl, Below.refl _ _⟩
  case round =>
    obtain ⟨k, hk, rfl, hb⟩ := hrel
    have hsz := hb.size
    have HB := Lib.hid hb
    clear hb
    by_cases hk2 : k < i
    · obtain ⟨ad, rfl, hcell⟩ := HA.out (by omega)
      have hc0 : wr.cell? (ad.add (k * 2)) = some (.int .u32 p[k].1) := cell_in HB.out (hcell k (by omega)).1
      have hc1 : wr.cell? (ad.add (k * 2 + 1)) = some (.int .u32 p[k].2) := cell_in HB.out (hcell k (by omega)).2
      obtain ⟨g1, g2⟩ := HOK.out k hk2 (by omega)
      cases k with
      | zero =>
        clear hcell g2
        generalize p[0].1 = x1 at hc0 g1
        generalize p[0].2 = x2 at hc1 g1
        have g1' : ¬ x1 > x2 := by omega
        have hc0' : wr.cell? ad = some (.int .u32 x1) := hc0
        have hc1' : wr.cell? { block := ad.block, off := ad.off + 1 } = some (.int .u32 x2) := hc1
        go_wp2
        go_quiet (fail)
        go_wp2
        go_roundw
        case rel => exact ⟨1, by omega, by go_num, below_drewN (HB.out.alloc HB.out.size _) nq⟩
        case measure => simp [RowKit.intOf]; omega
      | succ m =>
        have hd : wr.cell? (ad.add (m * 2 + 1)) = some (.int .u32 p[m].2) := cell_in HB.out (hcell m (by omega)).2
        have g3 := g2 (by omega)
        simp only [Nat.add_sub_cancel] at g3
        clear hcell g2
        generalize p[m + 1].1 = x1 at hc0 g1 g3
        generalize p[m + 1].2 = x2 at hc1 g1
        generalize p[m].2 = y2 at hd g3
        have g1' : ¬ x1 > x2 := by omega
        have g3' : ¬ x1 ≤ y2 := by omega
        have es : IntKind.i64.wrap (((m + 1 : Nat) : Int) - 1) = (m : Int) := by rw [IntWalk.i64_in _ (by omega)]; omega
        have hc1' : wr.cell? ((ad.add ((m + 1) * 2)).add 1) = some (.int .u32 x2) := by rw [Addr.add_add]; exact hc1
        have hc1'' : wr.cell? { block := (ad.add ((m + 1) * 2)).block, off := (ad.add ((m + 1) * 2)).off + 1 } = some (.int .u32 x2) := hc1'
        have es' : IntKind.i64.wrap (m : Int) = (m : Int) := by rw [IntWalk.i64_in _ (by omega)]
        go_wp2
        have HBq : Hid (Below w.heap.size w (wr.alloc (.cells #[.int .u32 x1, .int .u32 x2] 28))) := HB.out.alloc HB.out.size _
        have HXq : Hid ((wr.alloc (.cells #[.int .u32 x1, .int .u32 x2] 28)).heap[wr.heap.size]? = some (.cells #[.int .u32 x1, .int .u32 x2] 28 (0, 0))) := blk_new wr _
        have hdq : (wr.alloc (.cells #[.int .u32 x1, .int .u32 x2] 28)).cell? (ad.add (m * 2 + 1)) = some (.int .u32 y2) := cell_in ((Below.refl wr.heap.size wr).alloc (Nat.le_refl _) _) hd
        generalize wr.alloc (.cells #[.int .u32 x1, .int .u32 x2] 28) = wq at HBq HXq hdq ⊢
        have bx0 : wq.cell? ⟨wr.heap.size, 0, none⟩ = some (.int .u32 x1) := (blk_cell HXq.out 0).trans rfl
        have bx1 : wq.cell? ⟨wr.heap.size, 1, none⟩ = some (.int .u32 x2) := (blk_cell HXq.out 1).trans rfl
        have hdq' : wq.cell? ((ad.add (m * 2)).add 1) = some (.int .u32 y2) := by rw [Addr.add_add]; exact hdq
        have hdq'' : wq.cell? { block := (ad.add (m * 2)).block, off := (ad.add (m * 2)).off + 1 } = some (.int .u32 y2) := hdq'
        go_quiet (fail)
        go_wp2
        go_roundw
        case rel => exact ⟨m + 2, by omega, by go_num, below_drewN HBq.out nq⟩
        case measure => simp [RowKit.intOf]; omega
    · obtain rfl : k = i := by omega
      rcases HX.out with ⟨hkl, hx⟩ | ⟨hlt, ⟨hgt, hx⟩ | ⟨hle, hpos, hor, hx⟩⟩
      · subst hx
        have hk3 : ¬ k < p.length := by omega
        go_wp2
        (try rw [Exit.noGoto_ret])
        go_ret
        exact ⟨_, rfl, rfl, HB.out⟩
      · subst hx
        obtain ⟨ad, rfl, hcell⟩ := HA.out (by omega)
        have hc0 : wr.cell? (ad.add (k * 2)) = some (.int .u32 p[k].1) := cell_in HB.out (hcell k (by omega)).1
        have hc1 : wr.cell? (ad.add (k * 2 + 1)) = some (.int .u32 p[k].2) := cell_in HB.out (hcell k (by omega)).2
        clear hcell
        generalize p[k].1 = x1 at hc0 hgt
        generalize p[k].2 = x2 at hc1 hgt
        have hc1' : wr.cell? ((ad.add (k * 2)).add 1) = some (.int .u32 x2) := by rw [Addr.add_add]; exact hc1
        have hc1'' : wr.cell? { block := (ad.add (k * 2)).block, off := (ad.add (k * 2)).off + 1 } = some (.int .u32 x2) := hc1'
        have HBq : Hid (Below w.heap.size w (wr.alloc (.cells #[.int .u32 x1, .int .u32 x2] 28))) := HB.out.alloc HB.out.size _
        obtain ⟨a, he, -⟩ := (HI.out.is.below HBq.out).sent 4 (by omega) (by omega)
        have he' : (wr.alloc (.cells #[.int .u32 x1, .int .u32 x2] 28)).cell? ⟨1, 0, none⟩ = _ := he
        have C2 := Lib.hid (fault_any k 4 _ (wr.alloc (.cells #[.int .u32 x1, .int .u32 x2] 28)) (by omega) (by omega) he _ _ rfl)
        clear he
        go_wp2_with (go_at_call 29; refine C2.out.mono ?_; rintro e w' ⟨v, rfl, hf, hb⟩; have HF := Lib.hid hf; have HB2 := Lib.hid (below_to HBq.out hb); clear hf hb)
        (try rw [Exit.noGoto_ret])
        go_ret
        exact ⟨_, rfl, HF.out, HB2.out⟩
      · subst hx
        obtain ⟨m, rfl⟩ : ∃ m, k = m + 1 := ⟨k - 1, by omega⟩
        obtain ⟨ad, rfl, hcell⟩ := HA.out (by omega)
        have hc0 : wr.cell? (ad.add ((m + 1) * 2)) = some (.int .u32 p[m + 1].1) := cell_in HB.out (hcell (m + 1) (by omega)).1
        have hc1 : wr.cell? (ad.add ((m + 1) * 2 + 1)) = some (.int .u32 p[m + 1].2) := cell_in HB.out (hcell (m + 1) (by omega)).2
        have hd : wr.cell? (ad.add (m * 2 + 1)) = some (.int .u32 p[m].2) := cell_in HB.out (hcell m (by omega)).2
        simp only [Nat.add_sub_cancel] at hor
        clear hcell
        generalize p[m + 1].1 = x1 at hc0 hle hor
        generalize p[m + 1].2 = x2 at hc1 hle
        generalize p[m].2 = y2 at hd hor
        have g1' : ¬ x1 > x2 := by omega
        have es : IntKind.i64.wrap (((m + 1 : Nat) : Int) - 1) = (m : Int) := by rw [IntWalk.i64_in _ (by omega)]; omega
        have es' : IntKind.i64.wrap (m : Int) = (m : Int) := by rw [IntWalk.i64_in _ (by omega)]
        have hc1' : wr.cell? ((ad.add ((m + 1) * 2)).add 1) = some (.int .u32 x2) := by rw [Addr.add_add]; exact hc1
        have hc1'' : wr.cell? { block := (ad.add ((m + 1) * 2)).block, off := (ad.add ((m + 1) * 2)).off + 1 } = some (.int .u32 x2) := hc1'
        go_wp2
        have HBq : Hid (Below w.heap.size w (wr.alloc (.cells #[.int .u32 x1, .int .u32 x2] 28))) := HB.out.alloc HB.out.size _
        have HXq : Hid ((wr.alloc (.cells #[.int .u32 x1, .int .u32 x2] 28)).heap[wr.heap.size]? = some (.cells #[.int .u32 x1, .int .u32 x2] 28 (0, 0))) := blk_new wr _
        have hdq : (wr.alloc (.cells #[.int .u32 x1, .int .u32 x2] 28)).cell? (ad.add (m * 2 + 1)) = some (.int .u32 y2) := cell_in ((Below.refl wr.heap.size wr).alloc (Nat.le_refl _) _) hd
        generalize wr.alloc (.cells #[.int .u32 x1, .int .u32 x2] 28) = wq at HBq HXq hdq ⊢
        have bx0 : wq.cell? ⟨wr.heap.size, 0, none⟩ = some (.int .u32 x1) := (blk_cell HXq.out 0).trans rfl
        have bx1 : wq.cell? ⟨wr.heap.size, 1, none⟩ = some (.int .u32 x2) := (blk_cell HXq.out 1).trans rfl
        have hdq' : wq.cell? ((ad.add (m * 2)).add 1) = some (.int .u32 y2) := by rw [Addr.add_add]; exact hdq
        have hdq'' : wq.cell? { block := (ad.add (m * 2)).block, off := (ad.add (m * 2)).off + 1 } = some (.int .u32 y2) := hdq'
        go_quiet (fail)
        have HBz : Hid (Below w.heap.size w (wq.drewN nq)) := below_drewN HBq.out nq
        generalize wq.drewN nq = wz at HBz ⊢
        obtain ⟨a, he, -⟩ := (HI.out.is.below HBz.out).sent 6 (by omega) (by omega)
        have he' : wz.cell? ⟨0, 0, none⟩ = _ := he
        have C2 := Lib.hid (fault_any ((m : Int) + 1) 6 _ wz (by omega) (by omega) he _ _ rfl)
        clear he
        go_wp2_with (go_at_call 29; refine C2.out.mono ?_; rintro e w' ⟨v, rfl, hf, hb⟩; have HF := Lib.hid hf; have HB2 := Lib.hid (below_to HBz.out hb); clear hf hb)
        (try rw [Exit.noGoto_ret])
        go_ret
        exact ⟨_, rfl, HF.out, HB2.out⟩
/-- Every list is a row, or stops being one somewhere. -/
theorem first_bad (P : Nat → Prop) : ∀ n, (∀ j, j < n → P j) ∨ ∃ i, i < n ∧ ¬ P i ∧ ∀ j, j < i → P j
  | 0 => .inl (fun j hj => by omega)
  | n + 1 => by
    rcases first_bad P n with h | ⟨i, h1, h2, h3⟩
    · by_cases hn : P n
      · refine .inl fun j hj => ?_
        by_cases hjn : j = n
        · exact hjn ▸ hn
        · exact h j (by omega)
      · exact .inr ⟨n, by omega, hn, h⟩
    · exact .inr ⟨i, by omega, h2, h3⟩
theorem bad_ex (p : List (Int × Int)) : ∃ i x, badIs p i x := by
  rcases first_bad (okAt p) p.length with h | ⟨i, h1, h2, hok⟩
  · exact ⟨p.length, none, Nat.le_refl _, h, .inl ⟨rfl, rfl⟩⟩
  · by_cases hb : p[i].1 > p[i].2
    · exact ⟨i, some ((i : Int), 4), by omega, hok, .inr ⟨h1, .inl ⟨hb, rfl⟩⟩⟩
    · refine ⟨i, some ((i : Int), 6), by omega, hok, .inr ⟨h1, .inr ⟨by omega, ?_⟩⟩⟩
      have : 0 < i ∧ p[i].1 ≤ p[i - 1].2 := Classical.byContradiction fun hn => h2 fun _ => ⟨by omega, fun h0 => by
        refine Classical.byContradiction fun h5 => hn ⟨h0, by omega⟩⟩
      exact ⟨this.1, this.2, rfl⟩
end Go.Proofs.YtanbnlobbgfidaaGreatDoor
