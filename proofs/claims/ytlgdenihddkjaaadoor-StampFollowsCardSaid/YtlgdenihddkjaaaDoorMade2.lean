/- What stamp.made does when all numbers lie in their bounds. -/
import Derived.Test.YtlgdenihddkjaaaDoorMade
namespace Go.Proofs.YtlgdenihddkjaaaDoor
set_option linter.unusedSimpArgs false
set_option linter.unusedVariables false
open Go.RowKit Go.Proofs.YtlgdenihddkjaaaDoorW.PrintWords
theorem flt_far {w' : World} {t0 gf : Nat} {sf : Value} (hT : w'.heap[t0]? = some (.cells #[.int .i64 0, .int .i64 0] 31 (0, 0))) (hf : w'.heap[gf]? = some (.cells #[.int .i64 0, sf] 65 (0, 0))) (hs : w'.cell? ⟨gidx 4, 0, none⟩ = some sf) (h0 : 0 < t0) :
    FltIs ((w'.setCell ⟨t0, 0, none⟩ (.int .i64 0)).setCell ⟨t0, 1, none⟩ (.int .i64 0)) (.iface 47 (.pointer (some ⟨gf, 0, none⟩))) (some (0, 4)) := by
  have hne : gf ≠ t0 := fun e => by rw [e, hT] at hf; cases hf
  refine ⟨by omega, by omega, gf, sf, rfl, ?_, ?_⟩
  · exact (Below.heap_setCell _ _ _ _ hne).trans ((Below.heap_setCell _ _ _ _ hne).trans hf)
  · rw [World.cell?_of_block (w := w')]
    · exact hs
    · exact (Below.heap_setCell _ _ _ _ (by show 0 ≠ t0; omega)).trans (Below.heap_setCell _ _ _ _ (by show 0 ≠ t0; omega))

set_option maxHeartbeats 8000000 in
theorem made_six_good (g cap : Nat) (ps : List Pt) (sign : UInt8) (nanos : Nat) (x0 x1 x2 x3 x4 x5 : Pt) (h2 : Int) (kl : Nat) (w : World) (hn : ps = [x0, x1, x2, x3, x4, x5]) (hcap : 6 ≤ cap) 
    (hc : ∀ i x, ps[i]? = some x → ∀ j, j < 4 → w.cell? ⟨g, i * 4 + j, none⟩ = x.vs[j]?) (hl : PSt.stamp_length.f kl x0.n x1.n = some h2) (hI : ErrInv w) (hR : madeL h2 0 ps = none)
    (dn : Int) (hd : PSt.stamp_days.f x0.n x1.n x2.n = some dn) (hd1 : -1000000 ≤ dn) (hd2 : dn ≤ 4000000) (h3 : x3.n ≤ 9999) (h4 : x4.n ≤ 9999) (h5 : x5.n ≤ 9999) (T : Int) (hT : T = dn * 86400 + x3.n * 3600 + x4.n * 60 + x5.n) (hok : checkS T nanos = none) :
    Calls Tryd.prog 32 #[.slice (some ⟨g, 0, none⟩) 6 cap, .int .u8 sign.toNat, .int .i64 nanos] w fun e w' => e = .returned (.tuple #[.agg #[.int .i64 T, .int .i64 nanos], .nilIface]) ∧ Below w.heap.size w w' := by
  obtain ⟨n, hnn⟩ : ∃ n, n = 6 := ⟨6, rfl⟩
  have hlen : n = ps.length := by subst hn; exact hnn
  have hdrop : ∀ j, n ≤ j → ps.drop j = [] := fun j h => List.drop_eq_nil_of_le (by omega)
  have hget : ∀ j, j < n → ∃ x, ps[j]? = some x ∧ ps.drop j = x :: ps.drop (j + 1) := fun j h => by
    have hlt' : j < ps.length := by omega
    exact ⟨ps[j], List.getElem?_eq_getElem hlt', List.drop_eq_getElem_cons hlt'⟩
  rw [← hnn] at hcap
  have hgo : Calls Tryd.prog 32 #[.slice (some ⟨g, 0, none⟩) n cap, .int .u8 sign.toNat, .int .i64 nanos] w fun e w' => e = .returned (.tuple #[.agg #[.int .i64 T, .int .i64 nanos], .nilIface]) ∧ Below w.heap.size w w' := by
   have q0 : ps[0]? = some x0 := by subst hn; rfl
   have q1 : ps[1]? = some x1 := by subst hn; rfl
   have q2 : ps[2]? = some x2 := by subst hn; rfl
   have q3 : ps[3]? = some x3 := by subst hn; rfl
   have q4 : ps[4]? = some x4 := by subst hn; rfl
   have q5 : ps[5]? = some x5 := by subst hn; rfl
   have HC : Hid (∀ i x, ps[i]? = some x → ∀ j, j < 4 → w.cell? ⟨g, i * 4 + j, none⟩ = x.vs[j]?) := hc
   have HI : Hid (ErrInv w) := hI
   have HK : Hid (∀ w1, ErrInv w1 → Calls Tryd.prog 16 #[.agg #[.int .i64 T, .int .i64 nanos]] w1 fun e w' => e = .returned .nilIface ∧ Below w1.heap.size w1 w') := fun w1 _ => check_good T nanos w1 (fun h => by rw [checkS, if_pos h] at hok; cases hok)
   have HNN : Hid (n = 6) := hnn
   have h00 : 0 < w.heap.size := by obtain ⟨a, he, -⟩ := hI.sent 4 (by decide); exact World.block_lt_of_cell? w _ he
   clear hc hn hlen hI hok hnn
   subst hT
   go_enter Tryd.func32, Tryd.ntmps32
   go_wp2
   go_loopw [17] (fun i wr => ∃ j : Nat, j ≤ n ∧ i = .int .i64 j ∧ madeL h2 j (ps.drop j) = none ∧ Below w.heap.size w wr ∧ w.heap.size + 1 ≤ wr.heap.size ∧
      wr.heap[w.heap.size]? = some (.cells #[.int .i64 0, .int .i64 0] 31 (0, 0)))
    (fun i _ => n - (intOf i).toNat)
   case atStart =>
    refine ⟨0, by omega, rfl, hR, (Below.refl _ _).alloc (Nat.le_refl _) _, by simp, heap_alloc_new w _⟩
   case round =>
    obtain ⟨j, hj, rfl, hm, hb, hsz, hT'⟩ := hrel
    by_cases hjn : j < n
    · have hn0N : 0 < n := by have := HNN.out; omega
      have hnz : ¬ n = 0 := by omega
      have hn1N : 1 < n := by have := HNN.out; omega
      have hn1L : ¬ (n : Int) ≤ 1 := by omega
      have hn1M : ¬ n ≤ 1 := by omega
      have hn8 : n ≤ 8 := by have := HNN.out; omega
      clear HK hR HNN
      obtain ⟨x, hx, hdr⟩ := hget j hjn
      clear hget hdrop
      have hc0 : wr.cell? ⟨g, j * 4, none⟩ = some (.int .i64 x.n) := cell_in hb (HC.out j x hx 0 (by omega))
      have hc1 : wr.cell? ⟨g, j * 4 + 1, none⟩ = some (.int .i64 x.p) := cell_in hb (HC.out j x hx 1 (by omega))
      have hc2 : wr.cell? ⟨g, j * 4 + 2, none⟩ = some (.int .i64 x.lo) := cell_in hb (HC.out j x hx 2 (by omega))
      have hc3 : wr.cell? ⟨g, j * 4 + 3, none⟩ = some (.int .i64 x.hi) := cell_in hb (HC.out j x hx 3 (by omega))
      have hg0 : wr.cell? ⟨g, 0, none⟩ = some (.int .i64 x0.n) := by simpa using cell_in hb (HC.out 0 x0 q0 0 (by omega))
      have hg1 : wr.cell? ⟨g, 4, none⟩ = some (.int .i64 x1.n) := by simpa using cell_in hb (HC.out 1 x1 q1 0 (by omega))
      have hg0' : ∀ o, (wr.alloc o).cell? ⟨g, 0, none⟩ = some (.int .i64 x0.n) := fun o => (World.cell?_alloc_lt wr o ⟨g, 0, none⟩ (World.block_lt_of_cell? wr _ hg0)).trans hg0
      have hg1' : ∀ o, (wr.alloc o).cell? ⟨g, 4, none⟩ = some (.int .i64 x1.n) := fun o => (World.cell?_alloc_lt wr o ⟨g, 4, none⟩ (World.block_lt_of_cell? wr _ hg1)).trans hg1
      have hlt : (j : Int) < (n : Int) := by omega
      have HB : Hid (Below w.heap.size w wr) := hb
      have HT : Hid (wr.heap[w.heap.size]? = some (.cells #[.int .i64 0, .int .i64 0] 31 (0, 0))) := hT'
      rw [hdr, madeL] at hm
      by_cases hbad : (x.n : Int) < x.lo ∨ (x.n : Int) > (if j = 2 then h2 else x.hi)
      · rw [if_pos hbad] at hm; cases hm
      · rw [if_neg hbad] at hm
        have HM : Hid (madeL h2 (j + 1) (ps.drop (j + 1)) = none) := hm
        have hlo : ¬ (x.n : Int) < x.lo := fun h => hbad (Or.inl h)
        clear hm hdr hx hT' hb q0 q1 q2 q3 q4 q5 hd hd1 hd2 h3 h4 h5
        by_cases hj2 : j = 2
        · have hhi : ¬ (x.n : Int) > h2 := fun h => hbad (Or.inr (by rw [if_pos hj2]; exact h))
          clear hbad
          subst hj2
          have k0 : wr.cell? ⟨g, 8, none⟩ = some (.int .i64 x.n) := hc0
          have k1 : wr.cell? ⟨g, 9, none⟩ = some (.int .i64 x.p) := hc1
          have k2 : wr.cell? ⟨g, 10, none⟩ = some (.int .i64 x.lo) := hc2
          have k3 : wr.cell? ⟨g, 11, none⟩ = some (.int .i64 x.hi) := hc3
          have hlt2 : (2 : Int) < (n : Int) := by omega
          clear hc0 hc1 hc2 hc3 hlt
          go_wp2
          go_quiet (first | (go_at_call 25; refine (PSt.stamp_length.calls kl _ _ _ _ hl).mono ?_; rintro e w' ⟨rfl, ⟨nd, rfl⟩⟩; (first | exact ⟨rfl, _, World.drewN_drewN _ _ _⟩ | exact ⟨rfl, _, Eq.trans (World.drewN_drewN _ _ _) (congrArg (World.drewN _) (Nat.add_assoc _ _ _))⟩)))
          go_wp2
          refine ⟨⟨2 + 1, by omega, rfl, HM.out, Below.drewN (HB.out.alloc (by omega) _) _, by show w.heap.size + 1 ≤ (wr.alloc _).heap.size; simp; omega, (Below.heap_alloc wr _ _ (by omega)).trans HT.out⟩, ?_⟩
          show n - 3 < n - 2
          omega
        · have hhi : ¬ (x.n : Int) > x.hi := fun h => hbad (Or.inr (by rw [if_neg hj2]; exact h))
          have hj2' : ¬ (j : Int) = 2 := by omega
          clear hbad
          go_wp2
          refine ⟨⟨j + 1, by omega, rfl, HM.out, HB.out.alloc (by omega) _, by simp; omega, (Below.heap_alloc _ _ _ (by omega)).trans HT.out⟩, ?_⟩
          have e1 : (intOf (Value.int IntKind.i64 ((j : Int) + 1))).toNat = j + 1 := by show ((j : Int) + 1).toNat = j + 1; omega
          have e2 : (intOf (Value.int IntKind.i64 (j : Int))).toNat = j := by show (j : Int).toNat = j; omega
          rw [e1, e2]
          omega
    · have hje : j = n := by omega
      subst hje
      clear hget hdrop hm
      have k0 : wr.cell? ⟨g, 0, none⟩ = some (.int .i64 x0.n) := by simpa using cell_in hb (HC.out 0 x0 q0 0 (by omega))
      have k1 : wr.cell? ⟨g, 4, none⟩ = some (.int .i64 x1.n) := by simpa using cell_in hb (HC.out 1 x1 q1 0 (by omega))
      have k2 : wr.cell? ⟨g, 8, none⟩ = some (.int .i64 x2.n) := by simpa using cell_in hb (HC.out 2 x2 q2 0 (by omega))
      have k3 : wr.cell? ⟨g, 12, none⟩ = some (.int .i64 x3.n) := by simpa using cell_in hb (HC.out 3 x3 q3 0 (by omega))
      have k4 : wr.cell? ⟨g, 16, none⟩ = some (.int .i64 x4.n) := by simpa using cell_in hb (HC.out 4 x4 q4 0 (by omega))
      have k5 : wr.cell? ⟨g, 20, none⟩ = some (.int .i64 x5.n) := by simpa using cell_in hb (HC.out 5 x5 q5 0 (by omega))
      have HB : Hid (Below w.heap.size w wr) := hb
      have HT : Hid (wr.heap[w.heap.size]? = some (.cells #[.int .i64 0, .int .i64 0] 31 (0, 0))) := hT'
      clear hb hT' q0 q1 q2 q3 q4 q5 hR
      have hnn := HNN.out
      clear HNN
      subst hnn
      go_wp2
      go_quiet (first | (go_at_call 26; refine (PSt.stamp_days.calls _ _ _ _ _ hd).mono ?_; rintro e w' ⟨rfl, ⟨nd, rfl⟩⟩; (first | exact ⟨rfl, _, World.drewN_drewN _ _ _⟩ | exact ⟨rfl, _, Eq.trans (World.drewN_drewN _ _ _) (congrArg (World.drewN _) (Nat.add_assoc _ _ _))⟩)))
      have HB' : Hid (Below w.heap.size w (wr.drewN nq)) := Below.drewN HB.out nq
      have HT' : Hid ((wr.drewN nq).heap[w.heap.size]? = some (.cells #[.int .i64 0, .int .i64 0] 31 (0, 0))) := HT.out
      have hsq : w.heap.size + 1 ≤ (wr.drewN nq).heap.size := hsz
      clear HB HT hsz k0 k1 k2 k3 k4 k5
      generalize wr.drewN nq = wq at HB' HT' hsq ⊢
      go_wp2_with (go_at_call 16; refine Calls.mono (HK.out _ ((HI.out.below (HB'.out.alloc (by omega) _)))) ?_; rintro e w' ⟨rfl, hbc⟩
                   have eT := (hbc.block w.heap.size (by simp; omega)).trans ((Below.heap_alloc wq _ _ (by omega)).trans HT'.out)
                   have eP := (hbc.block wq.heap.size (by simp)).trans (heap_alloc_new wq _)
                   have c0 := blk_cell eT 0
                   have c1 := blk_cell eT 1
                   have z0 := blk_fz eT 0
                   have z1 := blk_fz eT 1
                   have p0 := blk_cell eP 0
                   have p1 := blk_cell eP 1
                   simp at c0 c1 p0 p1
                   have HE : Hid (w'.heap[w.heap.size]? = some (.cells #[.int .i64 0, .int .i64 0] 31 (0, 0))) := eT
                   have HW := (show Hid _ from (HB'.out.alloc (by omega) _).trans (hbc.mono (by simp; omega)))
                   clear eT eP hbc)
      have e1 := blk_set (blk_set HE.out 0 (.int .i64 (dn * 86400 + x3.n * 3600 + x4.n * 60 + x5.n))) 1 (.int .i64 nanos)
      refine bodyPost_ret_by (v := .tuple #[.agg #[.int .i64 (dn * 86400 + x3.n * 3600 + x4.n * 60 + x5.n), .int .i64 nanos], .nilIface]) ?_ rfl ⟨rfl, (HW.out.setCell (Nat.le_refl _) _).setCell (Nat.le_refl _) _⟩
      generalize (World.setCell _ _ _).setCell _ _ = X at e1 ⊢
      have r0 := blk_cell e1 0
      have r1 := blk_cell e1 1
      simp at r0 r1
      clear e1
      simp [results, Tryd.results32, go_sem, r0, r1]
  rw [hnn] at hgo
  exact hgo

set_option maxHeartbeats 8000000 in
theorem made_six_bad (g cap : Nat) (ps : List Pt) (sign : UInt8) (nanos : Nat) (x0 x1 x2 x3 x4 x5 : Pt) (h2 : Int) (kl : Nat) (w : World) (hn : ps = [x0, x1, x2, x3, x4, x5]) (hcap : 6 ≤ cap) 
    (hc : ∀ i x, ps[i]? = some x → ∀ j, j < 4 → w.cell? ⟨g, i * 4 + j, none⟩ = x.vs[j]?) (hl : PSt.stamp_length.f kl x0.n x1.n = some h2) (hI : ErrInv w) (hR : madeL h2 0 ps = none)
    (dn : Int) (hd : PSt.stamp_days.f x0.n x1.n x2.n = some dn) (hd1 : -1000000 ≤ dn) (hd2 : dn ≤ 4000000) (h3 : x3.n ≤ 9999) (h4 : x4.n ≤ 9999) (h5 : x5.n ≤ 9999) (T : Int) (hT : T = dn * 86400 + x3.n * 3600 + x4.n * 60 + x5.n) (hok : checkS T nanos = some (0, 4)) :
    Calls Tryd.prog 32 #[.slice (some ⟨g, 0, none⟩) 6 cap, .int .u8 sign.toNat, .int .i64 nanos] w fun e w' => ∃ v, e = .returned (.tuple #[.agg #[.int .i64 0, .int .i64 0], v]) ∧ FltIs w' v (some (0, 4)) ∧ Below w.heap.size w w' := by
  obtain ⟨n, hnn⟩ : ∃ n, n = 6 := ⟨6, rfl⟩
  have hlen : n = ps.length := by subst hn; exact hnn
  have hdrop : ∀ j, n ≤ j → ps.drop j = [] := fun j h => List.drop_eq_nil_of_le (by omega)
  have hget : ∀ j, j < n → ∃ x, ps[j]? = some x ∧ ps.drop j = x :: ps.drop (j + 1) := fun j h => by
    have hlt' : j < ps.length := by omega
    exact ⟨ps[j], List.getElem?_eq_getElem hlt', List.drop_eq_getElem_cons hlt'⟩
  rw [← hnn] at hcap
  have hgo : Calls Tryd.prog 32 #[.slice (some ⟨g, 0, none⟩) n cap, .int .u8 sign.toNat, .int .i64 nanos] w fun e w' => ∃ v, e = .returned (.tuple #[.agg #[.int .i64 0, .int .i64 0], v]) ∧ FltIs w' v (some (0, 4)) ∧ Below w.heap.size w w' := by
   have q0 : ps[0]? = some x0 := by subst hn; rfl
   have q1 : ps[1]? = some x1 := by subst hn; rfl
   have q2 : ps[2]? = some x2 := by subst hn; rfl
   have q3 : ps[3]? = some x3 := by subst hn; rfl
   have q4 : ps[4]? = some x4 := by subst hn; rfl
   have q5 : ps[5]? = some x5 := by subst hn; rfl
   have HC : Hid (∀ i x, ps[i]? = some x → ∀ j, j < 4 → w.cell? ⟨g, i * 4 + j, none⟩ = x.vs[j]?) := hc
   have HI : Hid (ErrInv w) := hI
   have HK : Hid (∀ w1, ErrInv w1 → Calls Tryd.prog 16 #[.agg #[.int .i64 T, .int .i64 nanos]] w1 fun e w' => ∃ v, e = .returned v ∧ FltIs w' v (some (0, 4)) ∧ Below w1.heap.size w1 w') := fun w1 hI1 => check_bad T nanos w1 hI1 (by
    rw [checkS] at hok
    split at hok
    · assumption
    · cases hok)
   have HNN : Hid (n = 6) := hnn
   have h00 : 0 < w.heap.size := by obtain ⟨a, he, -⟩ := hI.sent 4 (by decide); exact World.block_lt_of_cell? w _ he
   clear hc hn hlen hI hok hnn
   subst hT
   go_enter Tryd.func32, Tryd.ntmps32
   go_wp2
   go_loopw [17] (fun i wr => ∃ j : Nat, j ≤ n ∧ i = .int .i64 j ∧ madeL h2 j (ps.drop j) = none ∧ Below w.heap.size w wr ∧ w.heap.size + 1 ≤ wr.heap.size ∧
      wr.heap[w.heap.size]? = some (.cells #[.int .i64 0, .int .i64 0] 31 (0, 0)))
    (fun i _ => n - (intOf i).toNat)
   case atStart =>
    refine ⟨0, by omega, rfl, hR, (Below.refl _ _).alloc (Nat.le_refl _) _, by simp, heap_alloc_new w _⟩
   case round =>
    obtain ⟨j, hj, rfl, hm, hb, hsz, hT'⟩ := hrel
    by_cases hjn : j < n
    · have hn0N : 0 < n := by have := HNN.out; omega
      have hnz : ¬ n = 0 := by omega
      have hn1N : 1 < n := by have := HNN.out; omega
      have hn1L : ¬ (n : Int) ≤ 1 := by omega
      have hn1M : ¬ n ≤ 1 := by omega
      have hn8 : n ≤ 8 := by have := HNN.out; omega
      clear HK hR HNN
      obtain ⟨x, hx, hdr⟩ := hget j hjn
      clear hget hdrop
      have hc0 : wr.cell? ⟨g, j * 4, none⟩ = some (.int .i64 x.n) := cell_in hb (HC.out j x hx 0 (by omega))
      have hc1 : wr.cell? ⟨g, j * 4 + 1, none⟩ = some (.int .i64 x.p) := cell_in hb (HC.out j x hx 1 (by omega))
      have hc2 : wr.cell? ⟨g, j * 4 + 2, none⟩ = some (.int .i64 x.lo) := cell_in hb (HC.out j x hx 2 (by omega))
      have hc3 : wr.cell? ⟨g, j * 4 + 3, none⟩ = some (.int .i64 x.hi) := cell_in hb (HC.out j x hx 3 (by omega))
      have hg0 : wr.cell? ⟨g, 0, none⟩ = some (.int .i64 x0.n) := by simpa using cell_in hb (HC.out 0 x0 q0 0 (by omega))
      have hg1 : wr.cell? ⟨g, 4, none⟩ = some (.int .i64 x1.n) := by simpa using cell_in hb (HC.out 1 x1 q1 0 (by omega))
      have hg0' : ∀ o, (wr.alloc o).cell? ⟨g, 0, none⟩ = some (.int .i64 x0.n) := fun o => (World.cell?_alloc_lt wr o ⟨g, 0, none⟩ (World.block_lt_of_cell? wr _ hg0)).trans hg0
      have hg1' : ∀ o, (wr.alloc o).cell? ⟨g, 4, none⟩ = some (.int .i64 x1.n) := fun o => (World.cell?_alloc_lt wr o ⟨g, 4, none⟩ (World.block_lt_of_cell? wr _ hg1)).trans hg1
      have hlt : (j : Int) < (n : Int) := by omega
      have HB : Hid (Below w.heap.size w wr) := hb
      have HT : Hid (wr.heap[w.heap.size]? = some (.cells #[.int .i64 0, .int .i64 0] 31 (0, 0))) := hT'
      rw [hdr, madeL] at hm
      by_cases hbad : (x.n : Int) < x.lo ∨ (x.n : Int) > (if j = 2 then h2 else x.hi)
      · rw [if_pos hbad] at hm; cases hm
      · rw [if_neg hbad] at hm
        have HM : Hid (madeL h2 (j + 1) (ps.drop (j + 1)) = none) := hm
        have hlo : ¬ (x.n : Int) < x.lo := fun h => hbad (Or.inl h)
        clear hm hdr hx hT' hb q0 q1 q2 q3 q4 q5 hd hd1 hd2 h3 h4 h5
        by_cases hj2 : j = 2
        · have hhi : ¬ (x.n : Int) > h2 := fun h => hbad (Or.inr (by rw [if_pos hj2]; exact h))
          clear hbad
          subst hj2
          have k0 : wr.cell? ⟨g, 8, none⟩ = some (.int .i64 x.n) := hc0
          have k1 : wr.cell? ⟨g, 9, none⟩ = some (.int .i64 x.p) := hc1
          have k2 : wr.cell? ⟨g, 10, none⟩ = some (.int .i64 x.lo) := hc2
          have k3 : wr.cell? ⟨g, 11, none⟩ = some (.int .i64 x.hi) := hc3
          have hlt2 : (2 : Int) < (n : Int) := by omega
          clear hc0 hc1 hc2 hc3 hlt
          go_wp2
          go_quiet (first | (go_at_call 25; refine (PSt.stamp_length.calls kl _ _ _ _ hl).mono ?_; rintro e w' ⟨rfl, ⟨nd, rfl⟩⟩; (first | exact ⟨rfl, _, World.drewN_drewN _ _ _⟩ | exact ⟨rfl, _, Eq.trans (World.drewN_drewN _ _ _) (congrArg (World.drewN _) (Nat.add_assoc _ _ _))⟩)))
          go_wp2
          refine ⟨⟨2 + 1, by omega, rfl, HM.out, Below.drewN (HB.out.alloc (by omega) _) _, by show w.heap.size + 1 ≤ (wr.alloc _).heap.size; simp; omega, (Below.heap_alloc wr _ _ (by omega)).trans HT.out⟩, ?_⟩
          show n - 3 < n - 2
          omega
        · have hhi : ¬ (x.n : Int) > x.hi := fun h => hbad (Or.inr (by rw [if_neg hj2]; exact h))
          have hj2' : ¬ (j : Int) = 2 := by omega
          clear hbad
          go_wp2
          refine ⟨⟨j + 1, by omega, rfl, HM.out, HB.out.alloc (by omega) _, by simp; omega, (Below.heap_alloc _ _ _ (by omega)).trans HT.out⟩, ?_⟩
          have e1 : (intOf (Value.int IntKind.i64 ((j : Int) + 1))).toNat = j + 1 := by show ((j : Int) + 1).toNat = j + 1; omega
          have e2 : (intOf (Value.int IntKind.i64 (j : Int))).toNat = j := by show (j : Int).toNat = j; omega
          rw [e1, e2]
          omega
    · have hje : j = n := by omega
      subst hje
      clear hget hdrop hm
      have k0 : wr.cell? ⟨g, 0, none⟩ = some (.int .i64 x0.n) := by simpa using cell_in hb (HC.out 0 x0 q0 0 (by omega))
      have k1 : wr.cell? ⟨g, 4, none⟩ = some (.int .i64 x1.n) := by simpa using cell_in hb (HC.out 1 x1 q1 0 (by omega))
      have k2 : wr.cell? ⟨g, 8, none⟩ = some (.int .i64 x2.n) := by simpa using cell_in hb (HC.out 2 x2 q2 0 (by omega))
      have k3 : wr.cell? ⟨g, 12, none⟩ = some (.int .i64 x3.n) := by simpa using cell_in hb (HC.out 3 x3 q3 0 (by omega))
      have k4 : wr.cell? ⟨g, 16, none⟩ = some (.int .i64 x4.n) := by simpa using cell_in hb (HC.out 4 x4 q4 0 (by omega))
      have k5 : wr.cell? ⟨g, 20, none⟩ = some (.int .i64 x5.n) := by simpa using cell_in hb (HC.out 5 x5 q5 0 (by omega))
      have HB : Hid (Below w.heap.size w wr) := hb
      have HT : Hid (wr.heap[w.heap.size]? = some (.cells #[.int .i64 0, .int .i64 0] 31 (0, 0))) := hT'
      clear hb hT' q0 q1 q2 q3 q4 q5 hR
      have hnn := HNN.out
      clear HNN
      subst hnn
      go_wp2
      go_quiet (first | (go_at_call 26; refine (PSt.stamp_days.calls _ _ _ _ _ hd).mono ?_; rintro e w' ⟨rfl, ⟨nd, rfl⟩⟩; (first | exact ⟨rfl, _, World.drewN_drewN _ _ _⟩ | exact ⟨rfl, _, Eq.trans (World.drewN_drewN _ _ _) (congrArg (World.drewN _) (Nat.add_assoc _ _ _))⟩)))
      have HB' : Hid (Below w.heap.size w (wr.drewN nq)) := Below.drewN HB.out nq
      have HT' : Hid ((wr.drewN nq).heap[w.heap.size]? = some (.cells #[.int .i64 0, .int .i64 0] 31 (0, 0))) := HT.out
      have hsq : w.heap.size + 1 ≤ (wr.drewN nq).heap.size := hsz
      clear HB HT hsz k0 k1 k2 k3 k4 k5
      generalize wr.drewN nq = wq at HB' HT' hsq ⊢
      go_wp2_with (go_at_call 16; refine Calls.mono (HK.out _ ((HI.out.below (HB'.out.alloc (by omega) _)))) ?_; rintro e w' ⟨v, rfl, hf, hbc⟩; obtain ⟨_, _, gf, sf, rfl, hf1, hf2⟩ := hf; have HF := (show Hid _ from hf1); have HF2 := (show Hid _ from hf2); clear hf1 hf2
                   have eT := (hbc.block w.heap.size (by simp; omega)).trans ((Below.heap_alloc wq _ _ (by omega)).trans HT'.out)
                   have eP := (hbc.block wq.heap.size (by simp)).trans (heap_alloc_new wq _)
                   have c0 := blk_cell eT 0
                   have c1 := blk_cell eT 1
                   have z0 := blk_fz eT 0
                   have z1 := blk_fz eT 1
                   have p0 := blk_cell eP 0
                   have p1 := blk_cell eP 1
                   simp at c0 c1 p0 p1
                   have HE : Hid (w'.heap[w.heap.size]? = some (.cells #[.int .i64 0, .int .i64 0] 31 (0, 0))) := eT
                   have HW := (show Hid _ from (HB'.out.alloc (by omega) _).trans (hbc.mono (by simp; omega)))
                   clear eT eP hbc)
      have e1 := blk_set (blk_set HE.out 0 (.int .i64 0)) 1 (.int .i64 0)
      have HG := flt_far HE.out HF.out HF2.out h00
      refine bodyPost_ret_by (v := .tuple #[.agg #[.int .i64 0, .int .i64 0], .iface 47 (.pointer (some ⟨gf, 0, none⟩))]) ?_ rfl ⟨_, rfl, HG, (HW.out.setCell (Nat.le_refl _) _).setCell (Nat.le_refl _) _⟩
      clear HG
      generalize (World.setCell _ _ _).setCell _ _ = X at e1 ⊢
      have r0 := blk_cell e1 0
      have r1 := blk_cell e1 1
      simp at r0 r1
      clear e1
      simp [results, Tryd.results32, go_sem, r0, r1]
  rw [hnn] at hgo
  exact hgo

set_option maxHeartbeats 8000000 in
theorem made_eight_neg_good (g cap : Nat) (ps : List Pt) (sign : UInt8) (nanos : Nat) (x0 x1 x2 x3 x4 x5 x6 x7 : Pt) (h2 : Int) (kl : Nat) (w : World) (hn : ps = [x0, x1, x2, x3, x4, x5, x6, x7]) (hcap : 8 ≤ cap) (hsg : (sign.toNat : Int) = 45) 
    (hc : ∀ i x, ps[i]? = some x → ∀ j, j < 4 → w.cell? ⟨g, i * 4 + j, none⟩ = x.vs[j]?) (hl : PSt.stamp_length.f kl x0.n x1.n = some h2) (hI : ErrInv w) (hR : madeL h2 0 ps = none)
    (dn : Int) (hd : PSt.stamp_days.f x0.n x1.n x2.n = some dn) (hd1 : -1000000 ≤ dn) (hd2 : dn ≤ 4000000) (h3 : x3.n ≤ 9999) (h4 : x4.n ≤ 9999) (h5 : x5.n ≤ 9999) (h6 : x6.n ≤ 9999) (h7 : x7.n ≤ 9999) (T : Int) (hT : T = dn * 86400 + x3.n * 3600 + x4.n * 60 + x5.n + ((x6.n : Int) * 3600 + x7.n * 60)) (hok : checkS T nanos = none) :
    Calls Tryd.prog 32 #[.slice (some ⟨g, 0, none⟩) 8 cap, .int .u8 sign.toNat, .int .i64 nanos] w fun e w' => e = .returned (.tuple #[.agg #[.int .i64 T, .int .i64 nanos], .nilIface]) ∧ Below w.heap.size w w' := by
  obtain ⟨n, hnn⟩ : ∃ n, n = 8 := ⟨8, rfl⟩
  have hlen : n = ps.length := by subst hn; exact hnn
  have hdrop : ∀ j, n ≤ j → ps.drop j = [] := fun j h => List.drop_eq_nil_of_le (by omega)
  have hget : ∀ j, j < n → ∃ x, ps[j]? = some x ∧ ps.drop j = x :: ps.drop (j + 1) := fun j h => by
    have hlt' : j < ps.length := by omega
    exact ⟨ps[j], List.getElem?_eq_getElem hlt', List.drop_eq_getElem_cons hlt'⟩
  rw [← hnn] at hcap
  have hgo : Calls Tryd.prog 32 #[.slice (some ⟨g, 0, none⟩) n cap, .int .u8 sign.toNat, .int .i64 nanos] w fun e w' => e = .returned (.tuple #[.agg #[.int .i64 T, .int .i64 nanos], .nilIface]) ∧ Below w.heap.size w w' := by
   have q0 : ps[0]? = some x0 := by subst hn; rfl
   have q1 : ps[1]? = some x1 := by subst hn; rfl
   have q2 : ps[2]? = some x2 := by subst hn; rfl
   have q3 : ps[3]? = some x3 := by subst hn; rfl
   have q4 : ps[4]? = some x4 := by subst hn; rfl
   have q5 : ps[5]? = some x5 := by subst hn; rfl
   have q6 : ps[6]? = some x6 := by subst hn; rfl
   have q7 : ps[7]? = some x7 := by subst hn; rfl
   have HC : Hid (∀ i x, ps[i]? = some x → ∀ j, j < 4 → w.cell? ⟨g, i * 4 + j, none⟩ = x.vs[j]?) := hc
   have HI : Hid (ErrInv w) := hI
   have HK : Hid (∀ w1, ErrInv w1 → Calls Tryd.prog 16 #[.agg #[.int .i64 T, .int .i64 nanos]] w1 fun e w' => e = .returned .nilIface ∧ Below w1.heap.size w1 w') := fun w1 _ => check_good T nanos w1 (fun h => by rw [checkS, if_pos h] at hok; cases hok)
   have HNN : Hid (n = 8) := hnn
   have h00 : 0 < w.heap.size := by obtain ⟨a, he, -⟩ := hI.sent 4 (by decide); exact World.block_lt_of_cell? w _ he
   clear hc hn hlen hI hok hnn
   subst hT
   go_enter Tryd.func32, Tryd.ntmps32
   go_wp2
   go_loopw [17] (fun i wr => ∃ j : Nat, j ≤ n ∧ i = .int .i64 j ∧ madeL h2 j (ps.drop j) = none ∧ Below w.heap.size w wr ∧ w.heap.size + 1 ≤ wr.heap.size ∧
      wr.heap[w.heap.size]? = some (.cells #[.int .i64 0, .int .i64 0] 31 (0, 0)))
    (fun i _ => n - (intOf i).toNat)
   case atStart =>
    refine ⟨0, by omega, rfl, hR, (Below.refl _ _).alloc (Nat.le_refl _) _, by simp, heap_alloc_new w _⟩
   case round =>
    obtain ⟨j, hj, rfl, hm, hb, hsz, hT'⟩ := hrel
    by_cases hjn : j < n
    · have hn0N : 0 < n := by have := HNN.out; omega
      have hnz : ¬ n = 0 := by omega
      have hn1N : 1 < n := by have := HNN.out; omega
      have hn1L : ¬ (n : Int) ≤ 1 := by omega
      have hn1M : ¬ n ≤ 1 := by omega
      have hn8 : n ≤ 8 := by have := HNN.out; omega
      clear HK hR HNN
      obtain ⟨x, hx, hdr⟩ := hget j hjn
      clear hget hdrop
      have hc0 : wr.cell? ⟨g, j * 4, none⟩ = some (.int .i64 x.n) := cell_in hb (HC.out j x hx 0 (by omega))
      have hc1 : wr.cell? ⟨g, j * 4 + 1, none⟩ = some (.int .i64 x.p) := cell_in hb (HC.out j x hx 1 (by omega))
      have hc2 : wr.cell? ⟨g, j * 4 + 2, none⟩ = some (.int .i64 x.lo) := cell_in hb (HC.out j x hx 2 (by omega))
      have hc3 : wr.cell? ⟨g, j * 4 + 3, none⟩ = some (.int .i64 x.hi) := cell_in hb (HC.out j x hx 3 (by omega))
      have hg0 : wr.cell? ⟨g, 0, none⟩ = some (.int .i64 x0.n) := by simpa using cell_in hb (HC.out 0 x0 q0 0 (by omega))
      have hg1 : wr.cell? ⟨g, 4, none⟩ = some (.int .i64 x1.n) := by simpa using cell_in hb (HC.out 1 x1 q1 0 (by omega))
      have hg0' : ∀ o, (wr.alloc o).cell? ⟨g, 0, none⟩ = some (.int .i64 x0.n) := fun o => (World.cell?_alloc_lt wr o ⟨g, 0, none⟩ (World.block_lt_of_cell? wr _ hg0)).trans hg0
      have hg1' : ∀ o, (wr.alloc o).cell? ⟨g, 4, none⟩ = some (.int .i64 x1.n) := fun o => (World.cell?_alloc_lt wr o ⟨g, 4, none⟩ (World.block_lt_of_cell? wr _ hg1)).trans hg1
      have hlt : (j : Int) < (n : Int) := by omega
      have HB : Hid (Below w.heap.size w wr) := hb
      have HT : Hid (wr.heap[w.heap.size]? = some (.cells #[.int .i64 0, .int .i64 0] 31 (0, 0))) := hT'
      rw [hdr, madeL] at hm
      by_cases hbad : (x.n : Int) < x.lo ∨ (x.n : Int) > (if j = 2 then h2 else x.hi)
      · rw [if_pos hbad] at hm; cases hm
      · rw [if_neg hbad] at hm
        have HM : Hid (madeL h2 (j + 1) (ps.drop (j + 1)) = none) := hm
        have hlo : ¬ (x.n : Int) < x.lo := fun h => hbad (Or.inl h)
        clear hm hdr hx hT' hb q0 q1 q2 q3 q4 q5 q6 q7 hd hd1 hd2 hsg h3 h4 h5 h6 h7
        by_cases hj2 : j = 2
        · have hhi : ¬ (x.n : Int) > h2 := fun h => hbad (Or.inr (by rw [if_pos hj2]; exact h))
          clear hbad
          subst hj2
          have k0 : wr.cell? ⟨g, 8, none⟩ = some (.int .i64 x.n) := hc0
          have k1 : wr.cell? ⟨g, 9, none⟩ = some (.int .i64 x.p) := hc1
          have k2 : wr.cell? ⟨g, 10, none⟩ = some (.int .i64 x.lo) := hc2
          have k3 : wr.cell? ⟨g, 11, none⟩ = some (.int .i64 x.hi) := hc3
          have hlt2 : (2 : Int) < (n : Int) := by omega
          clear hc0 hc1 hc2 hc3 hlt
          go_wp2
          go_quiet (first | (go_at_call 25; refine (PSt.stamp_length.calls kl _ _ _ _ hl).mono ?_; rintro e w' ⟨rfl, ⟨nd, rfl⟩⟩; (first | exact ⟨rfl, _, World.drewN_drewN _ _ _⟩ | exact ⟨rfl, _, Eq.trans (World.drewN_drewN _ _ _) (congrArg (World.drewN _) (Nat.add_assoc _ _ _))⟩)))
          go_wp2
          refine ⟨⟨2 + 1, by omega, rfl, HM.out, Below.drewN (HB.out.alloc (by omega) _) _, by show w.heap.size + 1 ≤ (wr.alloc _).heap.size; simp; omega, (Below.heap_alloc wr _ _ (by omega)).trans HT.out⟩, ?_⟩
          show n - 3 < n - 2
          omega
        · have hhi : ¬ (x.n : Int) > x.hi := fun h => hbad (Or.inr (by rw [if_neg hj2]; exact h))
          have hj2' : ¬ (j : Int) = 2 := by omega
          clear hbad
          go_wp2
          refine ⟨⟨j + 1, by omega, rfl, HM.out, HB.out.alloc (by omega) _, by simp; omega, (Below.heap_alloc _ _ _ (by omega)).trans HT.out⟩, ?_⟩
          have e1 : (intOf (Value.int IntKind.i64 ((j : Int) + 1))).toNat = j + 1 := by show ((j : Int) + 1).toNat = j + 1; omega
          have e2 : (intOf (Value.int IntKind.i64 (j : Int))).toNat = j := by show (j : Int).toNat = j; omega
          rw [e1, e2]
          omega
    · have hje : j = n := by omega
      subst hje
      clear hget hdrop hm
      have k0 : wr.cell? ⟨g, 0, none⟩ = some (.int .i64 x0.n) := by simpa using cell_in hb (HC.out 0 x0 q0 0 (by omega))
      have k1 : wr.cell? ⟨g, 4, none⟩ = some (.int .i64 x1.n) := by simpa using cell_in hb (HC.out 1 x1 q1 0 (by omega))
      have k2 : wr.cell? ⟨g, 8, none⟩ = some (.int .i64 x2.n) := by simpa using cell_in hb (HC.out 2 x2 q2 0 (by omega))
      have k3 : wr.cell? ⟨g, 12, none⟩ = some (.int .i64 x3.n) := by simpa using cell_in hb (HC.out 3 x3 q3 0 (by omega))
      have k4 : wr.cell? ⟨g, 16, none⟩ = some (.int .i64 x4.n) := by simpa using cell_in hb (HC.out 4 x4 q4 0 (by omega))
      have k5 : wr.cell? ⟨g, 20, none⟩ = some (.int .i64 x5.n) := by simpa using cell_in hb (HC.out 5 x5 q5 0 (by omega))
      have k6 : wr.cell? ⟨g, 24, none⟩ = some (.int .i64 x6.n) := by simpa using cell_in hb (HC.out 6 x6 q6 0 (by omega))
      have k7 : wr.cell? ⟨g, 28, none⟩ = some (.int .i64 x7.n) := by simpa using cell_in hb (HC.out 7 x7 q7 0 (by omega))
      have HB : Hid (Below w.heap.size w wr) := hb
      have HT : Hid (wr.heap[w.heap.size]? = some (.cells #[.int .i64 0, .int .i64 0] 31 (0, 0))) := hT'
      clear hb hT' q0 q1 q2 q3 q4 q5 q6 q7 hR
      have hnn := HNN.out
      clear HNN
      subst hnn
      go_wp2
      go_quiet (first | (go_at_call 26; refine (PSt.stamp_days.calls _ _ _ _ _ hd).mono ?_; rintro e w' ⟨rfl, ⟨nd, rfl⟩⟩; (first | exact ⟨rfl, _, World.drewN_drewN _ _ _⟩ | exact ⟨rfl, _, Eq.trans (World.drewN_drewN _ _ _) (congrArg (World.drewN _) (Nat.add_assoc _ _ _))⟩)))
      generalize nq = z1
      go_wp2
      go_quiet (fail)
      have HB' : Hid (Below w.heap.size w ((wr.drewN z1).drewN nq)) := Below.drewN (Below.drewN HB.out z1) nq
      have HT' : Hid (((wr.drewN z1).drewN nq).heap[w.heap.size]? = some (.cells #[.int .i64 0, .int .i64 0] 31 (0, 0))) := HT.out
      have hsq : w.heap.size + 1 ≤ ((wr.drewN z1).drewN nq).heap.size := hsz
      clear HB HT hsz k0 k1 k2 k3 k4 k5 k6 k7
      generalize (wr.drewN z1).drewN nq = wq at HB' HT' hsq ⊢
      go_wp2_with (go_at_call 16; refine Calls.mono (HK.out _ ((HI.out.below (HB'.out.alloc (by omega) _)))) ?_; rintro e w' ⟨rfl, hbc⟩
                   have eT := (hbc.block w.heap.size (by simp; omega)).trans ((Below.heap_alloc wq _ _ (by omega)).trans HT'.out)
                   have eP := (hbc.block wq.heap.size (by simp)).trans (heap_alloc_new wq _)
                   have c0 := blk_cell eT 0
                   have c1 := blk_cell eT 1
                   have z0 := blk_fz eT 0
                   have z1 := blk_fz eT 1
                   have p0 := blk_cell eP 0
                   have p1 := blk_cell eP 1
                   simp at c0 c1 p0 p1
                   have HE : Hid (w'.heap[w.heap.size]? = some (.cells #[.int .i64 0, .int .i64 0] 31 (0, 0))) := eT
                   have HW := (show Hid _ from (HB'.out.alloc (by omega) _).trans (hbc.mono (by simp; omega)))
                   clear eT eP hbc)
      have e1 := blk_set (blk_set HE.out 0 (.int .i64 (dn * 86400 + x3.n * 3600 + x4.n * 60 + x5.n + ((x6.n : Int) * 3600 + x7.n * 60)))) 1 (.int .i64 nanos)
      refine bodyPost_ret_by (v := .tuple #[.agg #[.int .i64 (dn * 86400 + x3.n * 3600 + x4.n * 60 + x5.n + ((x6.n : Int) * 3600 + x7.n * 60)), .int .i64 nanos], .nilIface]) ?_ rfl ⟨rfl, (HW.out.setCell (Nat.le_refl _) _).setCell (Nat.le_refl _) _⟩
      generalize (World.setCell _ _ _).setCell _ _ = X at e1 ⊢
      have r0 := blk_cell e1 0
      have r1 := blk_cell e1 1
      simp at r0 r1
      clear e1
      simp [results, Tryd.results32, go_sem, r0, r1]
  rw [hnn] at hgo
  exact hgo

set_option maxHeartbeats 8000000 in
theorem made_eight_neg_bad (g cap : Nat) (ps : List Pt) (sign : UInt8) (nanos : Nat) (x0 x1 x2 x3 x4 x5 x6 x7 : Pt) (h2 : Int) (kl : Nat) (w : World) (hn : ps = [x0, x1, x2, x3, x4, x5, x6, x7]) (hcap : 8 ≤ cap) (hsg : (sign.toNat : Int) = 45) 
    (hc : ∀ i x, ps[i]? = some x → ∀ j, j < 4 → w.cell? ⟨g, i * 4 + j, none⟩ = x.vs[j]?) (hl : PSt.stamp_length.f kl x0.n x1.n = some h2) (hI : ErrInv w) (hR : madeL h2 0 ps = none)
    (dn : Int) (hd : PSt.stamp_days.f x0.n x1.n x2.n = some dn) (hd1 : -1000000 ≤ dn) (hd2 : dn ≤ 4000000) (h3 : x3.n ≤ 9999) (h4 : x4.n ≤ 9999) (h5 : x5.n ≤ 9999) (h6 : x6.n ≤ 9999) (h7 : x7.n ≤ 9999) (T : Int) (hT : T = dn * 86400 + x3.n * 3600 + x4.n * 60 + x5.n + ((x6.n : Int) * 3600 + x7.n * 60)) (hok : checkS T nanos = some (0, 4)) :
    Calls Tryd.prog 32 #[.slice (some ⟨g, 0, none⟩) 8 cap, .int .u8 sign.toNat, .int .i64 nanos] w fun e w' => ∃ v, e = .returned (.tuple #[.agg #[.int .i64 0, .int .i64 0], v]) ∧ FltIs w' v (some (0, 4)) ∧ Below w.heap.size w w' := by
  obtain ⟨n, hnn⟩ : ∃ n, n = 8 := ⟨8, rfl⟩
  have hlen : n = ps.length := by subst hn; exact hnn
  have hdrop : ∀ j, n ≤ j → ps.drop j = [] := fun j h => List.drop_eq_nil_of_le (by omega)
  have hget : ∀ j, j < n → ∃ x, ps[j]? = some x ∧ ps.drop j = x :: ps.drop (j + 1) := fun j h => by
    have hlt' : j < ps.length := by omega
    exact ⟨ps[j], List.getElem?_eq_getElem hlt', List.drop_eq_getElem_cons hlt'⟩
  rw [← hnn] at hcap
  have hgo : Calls Tryd.prog 32 #[.slice (some ⟨g, 0, none⟩) n cap, .int .u8 sign.toNat, .int .i64 nanos] w fun e w' => ∃ v, e = .returned (.tuple #[.agg #[.int .i64 0, .int .i64 0], v]) ∧ FltIs w' v (some (0, 4)) ∧ Below w.heap.size w w' := by
   have q0 : ps[0]? = some x0 := by subst hn; rfl
   have q1 : ps[1]? = some x1 := by subst hn; rfl
   have q2 : ps[2]? = some x2 := by subst hn; rfl
   have q3 : ps[3]? = some x3 := by subst hn; rfl
   have q4 : ps[4]? = some x4 := by subst hn; rfl
   have q5 : ps[5]? = some x5 := by subst hn; rfl
   have q6 : ps[6]? = some x6 := by subst hn; rfl
   have q7 : ps[7]? = some x7 := by subst hn; rfl
   have HC : Hid (∀ i x, ps[i]? = some x → ∀ j, j < 4 → w.cell? ⟨g, i * 4 + j, none⟩ = x.vs[j]?) := hc
   have HI : Hid (ErrInv w) := hI
   have HK : Hid (∀ w1, ErrInv w1 → Calls Tryd.prog 16 #[.agg #[.int .i64 T, .int .i64 nanos]] w1 fun e w' => ∃ v, e = .returned v ∧ FltIs w' v (some (0, 4)) ∧ Below w1.heap.size w1 w') := fun w1 hI1 => check_bad T nanos w1 hI1 (by
    rw [checkS] at hok
    split at hok
    · assumption
    · cases hok)
   have HNN : Hid (n = 8) := hnn
   have h00 : 0 < w.heap.size := by obtain ⟨a, he, -⟩ := hI.sent 4 (by decide); exact World.block_lt_of_cell? w _ he
   clear hc hn hlen hI hok hnn
   subst hT
   go_enter Tryd.func32, Tryd.ntmps32
   go_wp2
   go_loopw [17] (fun i wr => ∃ j : Nat, j ≤ n ∧ i = .int .i64 j ∧ madeL h2 j (ps.drop j) = none ∧ Below w.heap.size w wr ∧ w.heap.size + 1 ≤ wr.heap.size ∧
      wr.heap[w.heap.size]? = some (.cells #[.int .i64 0, .int .i64 0] 31 (0, 0)))
    (fun i _ => n - (intOf i).toNat)
   case atStart =>
    refine ⟨0, by omega, rfl, hR, (Below.refl _ _).alloc (Nat.le_refl _) _, by simp, heap_alloc_new w _⟩
   case round =>
    obtain ⟨j, hj, rfl, hm, hb, hsz, hT'⟩ := hrel
    by_cases hjn : j < n
    · have hn0N : 0 < n := by have := HNN.out; omega
      have hnz : ¬ n = 0 := by omega
      have hn1N : 1 < n := by have := HNN.out; omega
      have hn1L : ¬ (n : Int) ≤ 1 := by omega
      have hn1M : ¬ n ≤ 1 := by omega
      have hn8 : n ≤ 8 := by have := HNN.out; omega
      clear HK hR HNN
      obtain ⟨x, hx, hdr⟩ := hget j hjn
      clear hget hdrop
      have hc0 : wr.cell? ⟨g, j * 4, none⟩ = some (.int .i64 x.n) := cell_in hb (HC.out j x hx 0 (by omega))
      have hc1 : wr.cell? ⟨g, j * 4 + 1, none⟩ = some (.int .i64 x.p) := cell_in hb (HC.out j x hx 1 (by omega))
      have hc2 : wr.cell? ⟨g, j * 4 + 2, none⟩ = some (.int .i64 x.lo) := cell_in hb (HC.out j x hx 2 (by omega))
      have hc3 : wr.cell? ⟨g, j * 4 + 3, none⟩ = some (.int .i64 x.hi) := cell_in hb (HC.out j x hx 3 (by omega))
      have hg0 : wr.cell? ⟨g, 0, none⟩ = some (.int .i64 x0.n) := by simpa using cell_in hb (HC.out 0 x0 q0 0 (by omega))
      have hg1 : wr.cell? ⟨g, 4, none⟩ = some (.int .i64 x1.n) := by simpa using cell_in hb (HC.out 1 x1 q1 0 (by omega))
      have hg0' : ∀ o, (wr.alloc o).cell? ⟨g, 0, none⟩ = some (.int .i64 x0.n) := fun o => (World.cell?_alloc_lt wr o ⟨g, 0, none⟩ (World.block_lt_of_cell? wr _ hg0)).trans hg0
      have hg1' : ∀ o, (wr.alloc o).cell? ⟨g, 4, none⟩ = some (.int .i64 x1.n) := fun o => (World.cell?_alloc_lt wr o ⟨g, 4, none⟩ (World.block_lt_of_cell? wr _ hg1)).trans hg1
      have hlt : (j : Int) < (n : Int) := by omega
      have HB : Hid (Below w.heap.size w wr) := hb
      have HT : Hid (wr.heap[w.heap.size]? = some (.cells #[.int .i64 0, .int .i64 0] 31 (0, 0))) := hT'
      rw [hdr, madeL] at hm
      by_cases hbad : (x.n : Int) < x.lo ∨ (x.n : Int) > (if j = 2 then h2 else x.hi)
      · rw [if_pos hbad] at hm; cases hm
      · rw [if_neg hbad] at hm
        have HM : Hid (madeL h2 (j + 1) (ps.drop (j + 1)) = none) := hm
        have hlo : ¬ (x.n : Int) < x.lo := fun h => hbad (Or.inl h)
        clear hm hdr hx hT' hb q0 q1 q2 q3 q4 q5 q6 q7 hd hd1 hd2 hsg h3 h4 h5 h6 h7
        by_cases hj2 : j = 2
        · have hhi : ¬ (x.n : Int) > h2 := fun h => hbad (Or.inr (by rw [if_pos hj2]; exact h))
          clear hbad
          subst hj2
          have k0 : wr.cell? ⟨g, 8, none⟩ = some (.int .i64 x.n) := hc0
          have k1 : wr.cell? ⟨g, 9, none⟩ = some (.int .i64 x.p) := hc1
          have k2 : wr.cell? ⟨g, 10, none⟩ = some (.int .i64 x.lo) := hc2
          have k3 : wr.cell? ⟨g, 11, none⟩ = some (.int .i64 x.hi) := hc3
          have hlt2 : (2 : Int) < (n : Int) := by omega
          clear hc0 hc1 hc2 hc3 hlt
          go_wp2
          go_quiet (first | (go_at_call 25; refine (PSt.stamp_length.calls kl _ _ _ _ hl).mono ?_; rintro e w' ⟨rfl, ⟨nd, rfl⟩⟩; (first | exact ⟨rfl, _, World.drewN_drewN _ _ _⟩ | exact ⟨rfl, _, Eq.trans (World.drewN_drewN _ _ _) (congrArg (World.drewN _) (Nat.add_assoc _ _ _))⟩)))
          go_wp2
          refine ⟨⟨2 + 1, by omega, rfl, HM.out, Below.drewN (HB.out.alloc (by omega) _) _, by show w.heap.size + 1 ≤ (wr.alloc _).heap.size; simp; omega, (Below.heap_alloc wr _ _ (by omega)).trans HT.out⟩, ?_⟩
          show n - 3 < n - 2
          omega
        · have hhi : ¬ (x.n : Int) > x.hi := fun h => hbad (Or.inr (by rw [if_neg hj2]; exact h))
          have hj2' : ¬ (j : Int) = 2 := by omega
          clear hbad
          go_wp2
          refine ⟨⟨j + 1, by omega, rfl, HM.out, HB.out.alloc (by omega) _, by simp; omega, (Below.heap_alloc _ _ _ (by omega)).trans HT.out⟩, ?_⟩
          have e1 : (intOf (Value.int IntKind.i64 ((j : Int) + 1))).toNat = j + 1 := by show ((j : Int) + 1).toNat = j + 1; omega
          have e2 : (intOf (Value.int IntKind.i64 (j : Int))).toNat = j := by show (j : Int).toNat = j; omega
          rw [e1, e2]
          omega
    · have hje : j = n := by omega
      subst hje
      clear hget hdrop hm
      have k0 : wr.cell? ⟨g, 0, none⟩ = some (.int .i64 x0.n) := by simpa using cell_in hb (HC.out 0 x0 q0 0 (by omega))
      have k1 : wr.cell? ⟨g, 4, none⟩ = some (.int .i64 x1.n) := by simpa using cell_in hb (HC.out 1 x1 q1 0 (by omega))
      have k2 : wr.cell? ⟨g, 8, none⟩ = some (.int .i64 x2.n) := by simpa using cell_in hb (HC.out 2 x2 q2 0 (by omega))
      have k3 : wr.cell? ⟨g, 12, none⟩ = some (.int .i64 x3.n) := by simpa using cell_in hb (HC.out 3 x3 q3 0 (by omega))
      have k4 : wr.cell? ⟨g, 16, none⟩ = some (.int .i64 x4.n) := by simpa using cell_in hb (HC.out 4 x4 q4 0 (by omega))
      have k5 : wr.cell? ⟨g, 20, none⟩ = some (.int .i64 x5.n) := by simpa using cell_in hb (HC.out 5 x5 q5 0 (by omega))
      have k6 : wr.cell? ⟨g, 24, none⟩ = some (.int .i64 x6.n) := by simpa using cell_in hb (HC.out 6 x6 q6 0 (by omega))
      have k7 : wr.cell? ⟨g, 28, none⟩ = some (.int .i64 x7.n) := by simpa using cell_in hb (HC.out 7 x7 q7 0 (by omega))
      have HB : Hid (Below w.heap.size w wr) := hb
      have HT : Hid (wr.heap[w.heap.size]? = some (.cells #[.int .i64 0, .int .i64 0] 31 (0, 0))) := hT'
      clear hb hT' q0 q1 q2 q3 q4 q5 q6 q7 hR
      have hnn := HNN.out
      clear HNN
      subst hnn
      go_wp2
      go_quiet (first | (go_at_call 26; refine (PSt.stamp_days.calls _ _ _ _ _ hd).mono ?_; rintro e w' ⟨rfl, ⟨nd, rfl⟩⟩; (first | exact ⟨rfl, _, World.drewN_drewN _ _ _⟩ | exact ⟨rfl, _, Eq.trans (World.drewN_drewN _ _ _) (congrArg (World.drewN _) (Nat.add_assoc _ _ _))⟩)))
      generalize nq = z1
      go_wp2
      go_quiet (fail)
      have HB' : Hid (Below w.heap.size w ((wr.drewN z1).drewN nq)) := Below.drewN (Below.drewN HB.out z1) nq
      have HT' : Hid (((wr.drewN z1).drewN nq).heap[w.heap.size]? = some (.cells #[.int .i64 0, .int .i64 0] 31 (0, 0))) := HT.out
      have hsq : w.heap.size + 1 ≤ ((wr.drewN z1).drewN nq).heap.size := hsz
      clear HB HT hsz k0 k1 k2 k3 k4 k5 k6 k7
      generalize (wr.drewN z1).drewN nq = wq at HB' HT' hsq ⊢
      go_wp2_with (go_at_call 16; refine Calls.mono (HK.out _ ((HI.out.below (HB'.out.alloc (by omega) _)))) ?_; rintro e w' ⟨v, rfl, hf, hbc⟩; obtain ⟨_, _, gf, sf, rfl, hf1, hf2⟩ := hf; have HF := (show Hid _ from hf1); have HF2 := (show Hid _ from hf2); clear hf1 hf2
                   have eT := (hbc.block w.heap.size (by simp; omega)).trans ((Below.heap_alloc wq _ _ (by omega)).trans HT'.out)
                   have eP := (hbc.block wq.heap.size (by simp)).trans (heap_alloc_new wq _)
                   have c0 := blk_cell eT 0
                   have c1 := blk_cell eT 1
                   have z0 := blk_fz eT 0
                   have z1 := blk_fz eT 1
                   have p0 := blk_cell eP 0
                   have p1 := blk_cell eP 1
                   simp at c0 c1 p0 p1
                   have HE : Hid (w'.heap[w.heap.size]? = some (.cells #[.int .i64 0, .int .i64 0] 31 (0, 0))) := eT
                   have HW := (show Hid _ from (HB'.out.alloc (by omega) _).trans (hbc.mono (by simp; omega)))
                   clear eT eP hbc)
      have e1 := blk_set (blk_set HE.out 0 (.int .i64 0)) 1 (.int .i64 0)
      have HG := flt_far HE.out HF.out HF2.out h00
      refine bodyPost_ret_by (v := .tuple #[.agg #[.int .i64 0, .int .i64 0], .iface 47 (.pointer (some ⟨gf, 0, none⟩))]) ?_ rfl ⟨_, rfl, HG, (HW.out.setCell (Nat.le_refl _) _).setCell (Nat.le_refl _) _⟩
      clear HG
      generalize (World.setCell _ _ _).setCell _ _ = X at e1 ⊢
      have r0 := blk_cell e1 0
      have r1 := blk_cell e1 1
      simp at r0 r1
      clear e1
      simp [results, Tryd.results32, go_sem, r0, r1]
  rw [hnn] at hgo
  exact hgo

set_option maxHeartbeats 8000000 in
theorem made_eight_pos_good (g cap : Nat) (ps : List Pt) (sign : UInt8) (nanos : Nat) (x0 x1 x2 x3 x4 x5 x6 x7 : Pt) (h2 : Int) (kl : Nat) (w : World) (hn : ps = [x0, x1, x2, x3, x4, x5, x6, x7]) (hcap : 8 ≤ cap) (hsg : ¬ (sign.toNat : Int) = 45) 
    (hc : ∀ i x, ps[i]? = some x → ∀ j, j < 4 → w.cell? ⟨g, i * 4 + j, none⟩ = x.vs[j]?) (hl : PSt.stamp_length.f kl x0.n x1.n = some h2) (hI : ErrInv w) (hR : madeL h2 0 ps = none)
    (dn : Int) (hd : PSt.stamp_days.f x0.n x1.n x2.n = some dn) (hd1 : -1000000 ≤ dn) (hd2 : dn ≤ 4000000) (h3 : x3.n ≤ 9999) (h4 : x4.n ≤ 9999) (h5 : x5.n ≤ 9999) (h6 : x6.n ≤ 9999) (h7 : x7.n ≤ 9999) (T : Int) (hT : T = dn * 86400 + x3.n * 3600 + x4.n * 60 + x5.n - ((x6.n : Int) * 3600 + x7.n * 60)) (hok : checkS T nanos = none) :
    Calls Tryd.prog 32 #[.slice (some ⟨g, 0, none⟩) 8 cap, .int .u8 sign.toNat, .int .i64 nanos] w fun e w' => e = .returned (.tuple #[.agg #[.int .i64 T, .int .i64 nanos], .nilIface]) ∧ Below w.heap.size w w' := by
  obtain ⟨n, hnn⟩ : ∃ n, n = 8 := ⟨8, rfl⟩
  have hlen : n = ps.length := by subst hn; exact hnn
  have hdrop : ∀ j, n ≤ j → ps.drop j = [] := fun j h => List.drop_eq_nil_of_le (by omega)
  have hget : ∀ j, j < n → ∃ x, ps[j]? = some x ∧ ps.drop j = x :: ps.drop (j + 1) := fun j h => by
    have hlt' : j < ps.length := by omega
    exact ⟨ps[j], List.getElem?_eq_getElem hlt', List.drop_eq_getElem_cons hlt'⟩
  rw [← hnn] at hcap
  have hgo : Calls Tryd.prog 32 #[.slice (some ⟨g, 0, none⟩) n cap, .int .u8 sign.toNat, .int .i64 nanos] w fun e w' => e = .returned (.tuple #[.agg #[.int .i64 T, .int .i64 nanos], .nilIface]) ∧ Below w.heap.size w w' := by
   have q0 : ps[0]? = some x0 := by subst hn; rfl
   have q1 : ps[1]? = some x1 := by subst hn; rfl
   have q2 : ps[2]? = some x2 := by subst hn; rfl
   have q3 : ps[3]? = some x3 := by subst hn; rfl
   have q4 : ps[4]? = some x4 := by subst hn; rfl
   have q5 : ps[5]? = some x5 := by subst hn; rfl
   have q6 : ps[6]? = some x6 := by subst hn; rfl
   have q7 : ps[7]? = some x7 := by subst hn; rfl
   have HC : Hid (∀ i x, ps[i]? = some x → ∀ j, j < 4 → w.cell? ⟨g, i * 4 + j, none⟩ = x.vs[j]?) := hc
   have HI : Hid (ErrInv w) := hI
   have HK : Hid (∀ w1, ErrInv w1 → Calls Tryd.prog 16 #[.agg #[.int .i64 T, .int .i64 nanos]] w1 fun e w' => e = .returned .nilIface ∧ Below w1.heap.size w1 w') := fun w1 _ => check_good T nanos w1 (fun h => by rw [checkS, if_pos h] at hok; cases hok)
   have HNN : Hid (n = 8) := hnn
   have h00 : 0 < w.heap.size := by obtain ⟨a, he, -⟩ := hI.sent 4 (by decide); exact World.block_lt_of_cell? w _ he
   clear hc hn hlen hI hok hnn
   subst hT
   go_enter Tryd.func32, Tryd.ntmps32
   go_wp2
   go_loopw [17] (fun i wr => ∃ j : Nat, j ≤ n ∧ i = .int .i64 j ∧ madeL h2 j (ps.drop j) = none ∧ Below w.heap.size w wr ∧ w.heap.size + 1 ≤ wr.heap.size ∧
      wr.heap[w.heap.size]? = some (.cells #[.int .i64 0, .int .i64 0] 31 (0, 0)))
    (fun i _ => n - (intOf i).toNat)
   case atStart =>
    refine ⟨0, by omega, rfl, hR, (Below.refl _ _).alloc (Nat.le_refl _) _, by simp, heap_alloc_new w _⟩
   case round =>
    obtain ⟨j, hj, rfl, hm, hb, hsz, hT'⟩ := hrel
    by_cases hjn : j < n
    · have hn0N : 0 < n := by have := HNN.out; omega
      have hnz : ¬ n = 0 := by omega
      have hn1N : 1 < n := by have := HNN.out; omega
      have hn1L : ¬ (n : Int) ≤ 1 := by omega
      have hn1M : ¬ n ≤ 1 := by omega
      have hn8 : n ≤ 8 := by have := HNN.out; omega
      clear HK hR HNN
      obtain ⟨x, hx, hdr⟩ := hget j hjn
      clear hget hdrop
      have hc0 : wr.cell? ⟨g, j * 4, none⟩ = some (.int .i64 x.n) := cell_in hb (HC.out j x hx 0 (by omega))
      have hc1 : wr.cell? ⟨g, j * 4 + 1, none⟩ = some (.int .i64 x.p) := cell_in hb (HC.out j x hx 1 (by omega))
      have hc2 : wr.cell? ⟨g, j * 4 + 2, none⟩ = some (.int .i64 x.lo) := cell_in hb (HC.out j x hx 2 (by omega))
      have hc3 : wr.cell? ⟨g, j * 4 + 3, none⟩ = some (.int .i64 x.hi) := cell_in hb (HC.out j x hx 3 (by omega))
      have hg0 : wr.cell? ⟨g, 0, none⟩ = some (.int .i64 x0.n) := by simpa using cell_in hb (HC.out 0 x0 q0 0 (by omega))
      have hg1 : wr.cell? ⟨g, 4, none⟩ = some (.int .i64 x1.n) := by simpa using cell_in hb (HC.out 1 x1 q1 0 (by omega))
      have hg0' : ∀ o, (wr.alloc o).cell? ⟨g, 0, none⟩ = some (.int .i64 x0.n) := fun o => (World.cell?_alloc_lt wr o ⟨g, 0, none⟩ (World.block_lt_of_cell? wr _ hg0)).trans hg0
      have hg1' : ∀ o, (wr.alloc o).cell? ⟨g, 4, none⟩ = some (.int .i64 x1.n) := fun o => (World.cell?_alloc_lt wr o ⟨g, 4, none⟩ (World.block_lt_of_cell? wr _ hg1)).trans hg1
      have hlt : (j : Int) < (n : Int) := by omega
      have HB : Hid (Below w.heap.size w wr) := hb
      have HT : Hid (wr.heap[w.heap.size]? = some (.cells #[.int .i64 0, .int .i64 0] 31 (0, 0))) := hT'
      rw [hdr, madeL] at hm
      by_cases hbad : (x.n : Int) < x.lo ∨ (x.n : Int) > (if j = 2 then h2 else x.hi)
      · rw [if_pos hbad] at hm; cases hm
      · rw [if_neg hbad] at hm
        have HM : Hid (madeL h2 (j + 1) (ps.drop (j + 1)) = none) := hm
        have hlo : ¬ (x.n : Int) < x.lo := fun h => hbad (Or.inl h)
        clear hm hdr hx hT' hb q0 q1 q2 q3 q4 q5 q6 q7 hd hd1 hd2 hsg h3 h4 h5 h6 h7
        by_cases hj2 : j = 2
        · have hhi : ¬ (x.n : Int) > h2 := fun h => hbad (Or.inr (by rw [if_pos hj2]; exact h))
          clear hbad
          subst hj2
          have k0 : wr.cell? ⟨g, 8, none⟩ = some (.int .i64 x.n) := hc0
          have k1 : wr.cell? ⟨g, 9, none⟩ = some (.int .i64 x.p) := hc1
          have k2 : wr.cell? ⟨g, 10, none⟩ = some (.int .i64 x.lo) := hc2
          have k3 : wr.cell? ⟨g, 11, none⟩ = some (.int .i64 x.hi) := hc3
          have hlt2 : (2 : Int) < (n : Int) := by omega
          clear hc0 hc1 hc2 hc3 hlt
          go_wp2
          go_quiet (first | (go_at_call 25; refine (PSt.stamp_length.calls kl _ _ _ _ hl).mono ?_; rintro e w' ⟨rfl, ⟨nd, rfl⟩⟩; (first | exact ⟨rfl, _, World.drewN_drewN _ _ _⟩ | exact ⟨rfl, _, Eq.trans (World.drewN_drewN _ _ _) (congrArg (World.drewN _) (Nat.add_assoc _ _ _))⟩)))
          go_wp2
          refine ⟨⟨2 + 1, by omega, rfl, HM.out, Below.drewN (HB.out.alloc (by omega) _) _, by show w.heap.size + 1 ≤ (wr.alloc _).heap.size; simp; omega, (Below.heap_alloc wr _ _ (by omega)).trans HT.out⟩, ?_⟩
          show n - 3 < n - 2
          omega
        · have hhi : ¬ (x.n : Int) > x.hi := fun h => hbad (Or.inr (by rw [if_neg hj2]; exact h))
          have hj2' : ¬ (j : Int) = 2 := by omega
          clear hbad
          go_wp2
          refine ⟨⟨j + 1, by omega, rfl, HM.out, HB.out.alloc (by omega) _, by simp; omega, (Below.heap_alloc _ _ _ (by omega)).trans HT.out⟩, ?_⟩
          have e1 : (intOf (Value.int IntKind.i64 ((j : Int) + 1))).toNat = j + 1 := by show ((j : Int) + 1).toNat = j + 1; omega
          have e2 : (intOf (Value.int IntKind.i64 (j : Int))).toNat = j := by show (j : Int).toNat = j; omega
          rw [e1, e2]
          omega
    · have hje : j = n := by omega
      subst hje
      clear hget hdrop hm
      have k0 : wr.cell? ⟨g, 0, none⟩ = some (.int .i64 x0.n) := by simpa using cell_in hb (HC.out 0 x0 q0 0 (by omega))
      have k1 : wr.cell? ⟨g, 4, none⟩ = some (.int .i64 x1.n) := by simpa using cell_in hb (HC.out 1 x1 q1 0 (by omega))
      have k2 : wr.cell? ⟨g, 8, none⟩ = some (.int .i64 x2.n) := by simpa using cell_in hb (HC.out 2 x2 q2 0 (by omega))
      have k3 : wr.cell? ⟨g, 12, none⟩ = some (.int .i64 x3.n) := by simpa using cell_in hb (HC.out 3 x3 q3 0 (by omega))
      have k4 : wr.cell? ⟨g, 16, none⟩ = some (.int .i64 x4.n) := by simpa using cell_in hb (HC.out 4 x4 q4 0 (by omega))
      have k5 : wr.cell? ⟨g, 20, none⟩ = some (.int .i64 x5.n) := by simpa using cell_in hb (HC.out 5 x5 q5 0 (by omega))
      have k6 : wr.cell? ⟨g, 24, none⟩ = some (.int .i64 x6.n) := by simpa using cell_in hb (HC.out 6 x6 q6 0 (by omega))
      have k7 : wr.cell? ⟨g, 28, none⟩ = some (.int .i64 x7.n) := by simpa using cell_in hb (HC.out 7 x7 q7 0 (by omega))
      have HB : Hid (Below w.heap.size w wr) := hb
      have HT : Hid (wr.heap[w.heap.size]? = some (.cells #[.int .i64 0, .int .i64 0] 31 (0, 0))) := hT'
      clear hb hT' q0 q1 q2 q3 q4 q5 q6 q7 hR
      have hnn := HNN.out
      clear HNN
      subst hnn
      go_wp2
      go_quiet (first | (go_at_call 26; refine (PSt.stamp_days.calls _ _ _ _ _ hd).mono ?_; rintro e w' ⟨rfl, ⟨nd, rfl⟩⟩; (first | exact ⟨rfl, _, World.drewN_drewN _ _ _⟩ | exact ⟨rfl, _, Eq.trans (World.drewN_drewN _ _ _) (congrArg (World.drewN _) (Nat.add_assoc _ _ _))⟩)))
      generalize nq = z1
      go_wp2
      go_quiet (fail)
      have HB' : Hid (Below w.heap.size w ((wr.drewN z1).drewN nq)) := Below.drewN (Below.drewN HB.out z1) nq
      have HT' : Hid (((wr.drewN z1).drewN nq).heap[w.heap.size]? = some (.cells #[.int .i64 0, .int .i64 0] 31 (0, 0))) := HT.out
      have hsq : w.heap.size + 1 ≤ ((wr.drewN z1).drewN nq).heap.size := hsz
      clear HB HT hsz k0 k1 k2 k3 k4 k5 k6 k7
      generalize (wr.drewN z1).drewN nq = wq at HB' HT' hsq ⊢
      go_wp2_with (go_at_call 16; refine Calls.mono (HK.out _ ((HI.out.below (HB'.out.alloc (by omega) _)))) ?_; rintro e w' ⟨rfl, hbc⟩
                   have eT := (hbc.block w.heap.size (by simp; omega)).trans ((Below.heap_alloc wq _ _ (by omega)).trans HT'.out)
                   have eP := (hbc.block wq.heap.size (by simp)).trans (heap_alloc_new wq _)
                   have c0 := blk_cell eT 0
                   have c1 := blk_cell eT 1
                   have z0 := blk_fz eT 0
                   have z1 := blk_fz eT 1
                   have p0 := blk_cell eP 0
                   have p1 := blk_cell eP 1
                   simp at c0 c1 p0 p1
                   have HE : Hid (w'.heap[w.heap.size]? = some (.cells #[.int .i64 0, .int .i64 0] 31 (0, 0))) := eT
                   have HW := (show Hid _ from (HB'.out.alloc (by omega) _).trans (hbc.mono (by simp; omega)))
                   clear eT eP hbc)
      have e1 := blk_set (blk_set HE.out 0 (.int .i64 (dn * 86400 + x3.n * 3600 + x4.n * 60 + x5.n - ((x6.n : Int) * 3600 + x7.n * 60)))) 1 (.int .i64 nanos)
      refine bodyPost_ret_by (v := .tuple #[.agg #[.int .i64 (dn * 86400 + x3.n * 3600 + x4.n * 60 + x5.n - ((x6.n : Int) * 3600 + x7.n * 60)), .int .i64 nanos], .nilIface]) ?_ rfl ⟨rfl, (HW.out.setCell (Nat.le_refl _) _).setCell (Nat.le_refl _) _⟩
      generalize (World.setCell _ _ _).setCell _ _ = X at e1 ⊢
      have r0 := blk_cell e1 0
      have r1 := blk_cell e1 1
      simp at r0 r1
      clear e1
      simp [results, Tryd.results32, go_sem, r0, r1]
  rw [hnn] at hgo
  exact hgo

set_option maxHeartbeats 8000000 in
theorem made_eight_pos_bad (g cap : Nat) (ps : List Pt) (sign : UInt8) (nanos : Nat) (x0 x1 x2 x3 x4 x5 x6 x7 : Pt) (h2 : Int) (kl : Nat) (w : World) (hn : ps = [x0, x1, x2, x3, x4, x5, x6, x7]) (hcap : 8 ≤ cap) (hsg : ¬ (sign.toNat : Int) = 45) 
    (hc : ∀ i x, ps[i]? = some x → ∀ j, j < 4 → w.cell? ⟨g, i * 4 + j, none⟩ = x.vs[j]?) (hl : PSt.stamp_length.f kl x0.n x1.n = some h2) (hI : ErrInv w) (hR : madeL h2 0 ps = none)
    (dn : Int) (hd : PSt.stamp_days.f x0.n x1.n x2.n = some dn) (hd1 : -1000000 ≤ dn) (hd2 : dn ≤ 4000000) (h3 : x3.n ≤ 9999) (h4 : x4.n ≤ 9999) (h5 : x5.n ≤ 9999) (h6 : x6.n ≤ 9999) (h7 : x7.n ≤ 9999) (T : Int) (hT : T = dn * 86400 + x3.n * 3600 + x4.n * 60 + x5.n - ((x6.n : Int) * 3600 + x7.n * 60)) (hok : checkS T nanos = some (0, 4)) :
    Calls Tryd.prog 32 #[.slice (some ⟨g, 0, none⟩) 8 cap, .int .u8 sign.toNat, .int .i64 nanos] w fun e w' => ∃ v, e = .returned (.tuple #[.agg #[.int .i64 0, .int .i64 0], v]) ∧ FltIs w' v (some (0, 4)) ∧ Below w.heap.size w w' := by
  obtain ⟨n, hnn⟩ : ∃ n, n = 8 := ⟨8, rfl⟩
  have hlen : n = ps.length := by subst hn; exact hnn
  have hdrop : ∀ j, n ≤ j → ps.drop j = [] := fun j h => List.drop_eq_nil_of_le (by omega)
  have hget : ∀ j, j < n → ∃ x, ps[j]? = some x ∧ ps.drop j = x :: ps.drop (j + 1) := fun j h => by
    have hlt' : j < ps.length := by omega
    exact ⟨ps[j], List.getElem?_eq_getElem hlt', List.drop_eq_getElem_cons hlt'⟩
  rw [← hnn] at hcap
  have hgo : Calls Tryd.prog 32 #[.slice (some ⟨g, 0, none⟩) n cap, .int .u8 sign.toNat, .int .i64 nanos] w fun e w' => ∃ v, e = .returned (.tuple #[.agg #[.int .i64 0, .int .i64 0], v]) ∧ FltIs w' v (some (0, 4)) ∧ Below w.heap.size w w' := by
   have q0 : ps[0]? = some x0 := by subst hn; rfl
   have q1 : ps[1]? = some x1 := by subst hn; rfl
   have q2 : ps[2]? = some x2 := by subst hn; rfl
   have q3 : ps[3]? = some x3 := by subst hn; rfl
   have q4 : ps[4]? = some x4 := by subst hn; rfl
   have q5 : ps[5]? = some x5 := by subst hn; rfl
   have q6 : ps[6]? = some x6 := by subst hn; rfl
   have q7 : ps[7]? = some x7 := by subst hn; rfl
   have HC : Hid (∀ i x, ps[i]? = some x → ∀ j, j < 4 → w.cell? ⟨g, i * 4 + j, none⟩ = x.vs[j]?) := hc
   have HI : Hid (ErrInv w) := hI
   have HK : Hid (∀ w1, ErrInv w1 → Calls Tryd.prog 16 #[.agg #[.int .i64 T, .int .i64 nanos]] w1 fun e w' => ∃ v, e = .returned v ∧ FltIs w' v (some (0, 4)) ∧ Below w1.heap.size w1 w') := fun w1 hI1 => check_bad T nanos w1 hI1 (by
    rw [checkS] at hok
    split at hok
    · assumption
    · cases hok)
   have HNN : Hid (n = 8) := hnn
   have h00 : 0 < w.heap.size := by obtain ⟨a, he, -⟩ := hI.sent 4 (by decide); exact World.block_lt_of_cell? w _ he
   clear hc hn hlen hI hok hnn
   subst hT
   go_enter Tryd.func32, Tryd.ntmps32
   go_wp2
   go_loopw [17] (fun i wr => ∃ j : Nat, j ≤ n ∧ i = .int .i64 j ∧ madeL h2 j (ps.drop j) = none ∧ Below w.heap.size w wr ∧ w.heap.size + 1 ≤ wr.heap.size ∧
      wr.heap[w.heap.size]? = some (.cells #[.int .i64 0, .int .i64 0] 31 (0, 0)))
    (fun i _ => n - (intOf i).toNat)
   case atStart =>
    refine ⟨0, by omega, rfl, hR, (Below.refl _ _).alloc (Nat.le_refl _) _, by simp, heap_alloc_new w _⟩
   case round =>
    obtain ⟨j, hj, rfl, hm, hb, hsz, hT'⟩ := hrel
    by_cases hjn : j < n
    · have hn0N : 0 < n := by have := HNN.out; omega
      have hnz : ¬ n = 0 := by omega
      have hn1N : 1 < n := by have := HNN.out; omega
      have hn1L : ¬ (n : Int) ≤ 1 := by omega
      have hn1M : ¬ n ≤ 1 := by omega
      have hn8 : n ≤ 8 := by have := HNN.out; omega
      clear HK hR HNN
      obtain ⟨x, hx, hdr⟩ := hget j hjn
      clear hget hdrop
      have hc0 : wr.cell? ⟨g, j * 4, none⟩ = some (.int .i64 x.n) := cell_in hb (HC.out j x hx 0 (by omega))
      have hc1 : wr.cell? ⟨g, j * 4 + 1, none⟩ = some (.int .i64 x.p) := cell_in hb (HC.out j x hx 1 (by omega))
      have hc2 : wr.cell? ⟨g, j * 4 + 2, none⟩ = some (.int .i64 x.lo) := cell_in hb (HC.out j x hx 2 (by omega))
      have hc3 : wr.cell? ⟨g, j * 4 + 3, none⟩ = some (.int .i64 x.hi) := cell_in hb (HC.out j x hx 3 (by omega))
      have hg0 : wr.cell? ⟨g, 0, none⟩ = some (.int .i64 x0.n) := by simpa using cell_in hb (HC.out 0 x0 q0 0 (by omega))
      have hg1 : wr.cell? ⟨g, 4, none⟩ = some (.int .i64 x1.n) := by simpa using cell_in hb (HC.out 1 x1 q1 0 (by omega))
      have hg0' : ∀ o, (wr.alloc o).cell? ⟨g, 0, none⟩ = some (.int .i64 x0.n) := fun o => (World.cell?_alloc_lt wr o ⟨g, 0, none⟩ (World.block_lt_of_cell? wr _ hg0)).trans hg0
      have hg1' : ∀ o, (wr.alloc o).cell? ⟨g, 4, none⟩ = some (.int .i64 x1.n) := fun o => (World.cell?_alloc_lt wr o ⟨g, 4, none⟩ (World.block_lt_of_cell? wr _ hg1)).trans hg1
      have hlt : (j : Int) < (n : Int) := by omega
      have HB : Hid (Below w.heap.size w wr) := hb
      have HT : Hid (wr.heap[w.heap.size]? = some (.cells #[.int .i64 0, .int .i64 0] 31 (0, 0))) := hT'
      rw [hdr, madeL] at hm
      by_cases hbad : (x.n : Int) < x.lo ∨ (x.n : Int) > (if j = 2 then h2 else x.hi)
      · rw [if_pos hbad] at hm; cases hm
      · rw [if_neg hbad] at hm
        have HM : Hid (madeL h2 (j + 1) (ps.drop (j + 1)) = none) := hm
        have hlo : ¬ (x.n : Int) < x.lo := fun h => hbad (Or.inl h)
        clear hm hdr hx hT' hb q0 q1 q2 q3 q4 q5 q6 q7 hd hd1 hd2 hsg h3 h4 h5 h6 h7
        by_cases hj2 : j = 2
        · have hhi : ¬ (x.n : Int) > h2 := fun h => hbad (Or.inr (by rw [if_pos hj2]; exact h))
          clear hbad
          subst hj2
          have k0 : wr.cell? ⟨g, 8, none⟩ = some (.int .i64 x.n) := hc0
          have k1 : wr.cell? ⟨g, 9, none⟩ = some (.int .i64 x.p) := hc1
          have k2 : wr.cell? ⟨g, 10, none⟩ = some (.int .i64 x.lo) := hc2
          have k3 : wr.cell? ⟨g, 11, none⟩ = some (.int .i64 x.hi) := hc3
          have hlt2 : (2 : Int) < (n : Int) := by omega
          clear hc0 hc1 hc2 hc3 hlt
          go_wp2
          go_quiet (first | (go_at_call 25; refine (PSt.stamp_length.calls kl _ _ _ _ hl).mono ?_; rintro e w' ⟨rfl, ⟨nd, rfl⟩⟩; (first | exact ⟨rfl, _, World.drewN_drewN _ _ _⟩ | exact ⟨rfl, _, Eq.trans (World.drewN_drewN _ _ _) (congrArg (World.drewN _) (Nat.add_assoc _ _ _))⟩)))
          go_wp2
          refine ⟨⟨2 + 1, by omega, rfl, HM.out, Below.drewN (HB.out.alloc (by omega) _) _, by show w.heap.size + 1 ≤ (wr.alloc _).heap.size; simp; omega, (Below.heap_alloc wr _ _ (by omega)).trans HT.out⟩, ?_⟩
          show n - 3 < n - 2
          omega
        · have hhi : ¬ (x.n : Int) > x.hi := fun h => hbad (Or.inr (by rw [if_neg hj2]; exact h))
          have hj2' : ¬ (j : Int) = 2 := by omega
          clear hbad
          go_wp2
          refine ⟨⟨j + 1, by omega, rfl, HM.out, HB.out.alloc (by omega) _, by simp; omega, (Below.heap_alloc _ _ _ (by omega)).trans HT.out⟩, ?_⟩
          have e1 : (intOf (Value.int IntKind.i64 ((j : Int) + 1))).toNat = j + 1 := by show ((j : Int) + 1).toNat = j + 1; omega
          have e2 : (intOf (Value.int IntKind.i64 (j : Int))).toNat = j := by show (j : Int).toNat = j; omega
          rw [e1, e2]
          omega
    · have hje : j = n := by omega
      subst hje
      clear hget hdrop hm
      have k0 : wr.cell? ⟨g, 0, none⟩ = some (.int .i64 x0.n) := by simpa using cell_in hb (HC.out 0 x0 q0 0 (by omega))
      have k1 : wr.cell? ⟨g, 4, none⟩ = some (.int .i64 x1.n) := by simpa using cell_in hb (HC.out 1 x1 q1 0 (by omega))
      have k2 : wr.cell? ⟨g, 8, none⟩ = some (.int .i64 x2.n) := by simpa using cell_in hb (HC.out 2 x2 q2 0 (by omega))
      have k3 : wr.cell? ⟨g, 12, none⟩ = some (.int .i64 x3.n) := by simpa using cell_in hb (HC.out 3 x3 q3 0 (by omega))
      have k4 : wr.cell? ⟨g, 16, none⟩ = some (.int .i64 x4.n) := by simpa using cell_in hb (HC.out 4 x4 q4 0 (by omega))
      have k5 : wr.cell? ⟨g, 20, none⟩ = some (.int .i64 x5.n) := by simpa using cell_in hb (HC.out 5 x5 q5 0 (by omega))
      have k6 : wr.cell? ⟨g, 24, none⟩ = some (.int .i64 x6.n) := by simpa using cell_in hb (HC.out 6 x6 q6 0 (by omega))
      have k7 : wr.cell? ⟨g, 28, none⟩ = some (.int .i64 x7.n) := by simpa using cell_in hb (HC.out 7 x7 q7 0 (by omega))
      have HB : Hid (Below w.heap.size w wr) := hb
      have HT : Hid (wr.heap[w.heap.size]? = some (.cells #[.int .i64 0, .int .i64 0] 31 (0, 0))) := hT'
      clear hb hT' q0 q1 q2 q3 q4 q5 q6 q7 hR
      have hnn := HNN.out
      clear HNN
      subst hnn
      go_wp2
      go_quiet (first | (go_at_call 26; refine (PSt.stamp_days.calls _ _ _ _ _ hd).mono ?_; rintro e w' ⟨rfl, ⟨nd, rfl⟩⟩; (first | exact ⟨rfl, _, World.drewN_drewN _ _ _⟩ | exact ⟨rfl, _, Eq.trans (World.drewN_drewN _ _ _) (congrArg (World.drewN _) (Nat.add_assoc _ _ _))⟩)))
      generalize nq = z1
      go_wp2
      go_quiet (fail)
      have HB' : Hid (Below w.heap.size w ((wr.drewN z1).drewN nq)) := Below.drewN (Below.drewN HB.out z1) nq
      have HT' : Hid (((wr.drewN z1).drewN nq).heap[w.heap.size]? = some (.cells #[.int .i64 0, .int .i64 0] 31 (0, 0))) := HT.out
      have hsq : w.heap.size + 1 ≤ ((wr.drewN z1).drewN nq).heap.size := hsz
      clear HB HT hsz k0 k1 k2 k3 k4 k5 k6 k7
      generalize (wr.drewN z1).drewN nq = wq at HB' HT' hsq ⊢
      go_wp2_with (go_at_call 16; refine Calls.mono (HK.out _ ((HI.out.below (HB'.out.alloc (by omega) _)))) ?_; rintro e w' ⟨v, rfl, hf, hbc⟩; obtain ⟨_, _, gf, sf, rfl, hf1, hf2⟩ := hf; have HF := (show Hid _ from hf1); have HF2 := (show Hid _ from hf2); clear hf1 hf2
                   have eT := (hbc.block w.heap.size (by simp; omega)).trans ((Below.heap_alloc wq _ _ (by omega)).trans HT'.out)
                   have eP := (hbc.block wq.heap.size (by simp)).trans (heap_alloc_new wq _)
                   have c0 := blk_cell eT 0
                   have c1 := blk_cell eT 1
                   have z0 := blk_fz eT 0
                   have z1 := blk_fz eT 1
                   have p0 := blk_cell eP 0
                   have p1 := blk_cell eP 1
                   simp at c0 c1 p0 p1
                   have HE : Hid (w'.heap[w.heap.size]? = some (.cells #[.int .i64 0, .int .i64 0] 31 (0, 0))) := eT
                   have HW := (show Hid _ from (HB'.out.alloc (by omega) _).trans (hbc.mono (by simp; omega)))
                   clear eT eP hbc)
      have e1 := blk_set (blk_set HE.out 0 (.int .i64 0)) 1 (.int .i64 0)
      have HG := flt_far HE.out HF.out HF2.out h00
      refine bodyPost_ret_by (v := .tuple #[.agg #[.int .i64 0, .int .i64 0], .iface 47 (.pointer (some ⟨gf, 0, none⟩))]) ?_ rfl ⟨_, rfl, HG, (HW.out.setCell (Nat.le_refl _) _).setCell (Nat.le_refl _) _⟩
      clear HG
      generalize (World.setCell _ _ _).setCell _ _ = X at e1 ⊢
      have r0 := blk_cell e1 0
      have r1 := blk_cell e1 1
      simp at r0 r1
      clear e1
      simp [results, Tryd.results32, go_sem, r0, r1]
  rw [hnn] at hgo
  exact hgo

end Go.Proofs.YtlgdenihddkjaaaDoor
