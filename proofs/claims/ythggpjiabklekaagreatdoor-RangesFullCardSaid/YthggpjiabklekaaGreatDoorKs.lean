/- ranges.faults: the iterator's contract. -/
import Derived.Test.YthggpjiabklekaaGreatDoorKr
namespace Go.Proofs.YthggpjiabklekaaGreatDoor
set_option linter.unusedSimpArgs false
set_option linter.unusedVariables false
open Go.RowKit Go.Lib Go.Shelf
attribute [local go_sem] Oper.semAt_some

/-- A fault's number as an error. -/
def evF (t4 t6 : TypeId) (v4 v6 : Value) (c : Nat) : Value := if c = 4 then .iface t4 v4 else .iface t6 v6
/-- How the iterator ends: all have come; or a part has, a round having said 'no more'. -/
def IterEnd (F0 : List (Nat × Nat)) (J Jx : List (Nat × Nat) → World → Prop) (e : Ending) (W' : World) : Prop := (∃ v, e = .returned v) ∧ ((∃ ys, ys = F0 ∧ J ys W') ∨ (∃ pre, pre <+: F0 ∧ Jx pre W'))
set_option maxRecDepth 100000 in
set_option maxHeartbeats 4000000 in
theorem faults1_in (n l Bs n₀ n₁ c : Nat) (hn : 1 ≤ n) (A : Option Addr) (p : List Rg) (t4 t6 : TypeId) (v4 v6 : Value) (hl : p.length ≤ 1000000) (J Jx : List (Nat × Nat) → World → Prop)
    (hY : ∀ pre x W, J pre W → pre.length < p.length → YieldAt Fence.wide (n - 1) Tryz.prog l #[.int .i64 (x.1 : Int), evF t4 t6 v4 v6 x.2] W fun e W' =>
      (e = .returned (.bool true) ∧ J (pre ++ [x]) W' ∧ KeepsOwn n₀ n₁ W W') ∨ (e = .returned (.bool false) ∧ Jx (pre ++ [x]) W'))
    (W : World) (hn1 : n₁ ≤ W.heap.size) (hn0 : n₀ ≤ W.heap.size) (hJ : AbidesFrom W.heap.size J) (hBs : W.cell? ⟨Bs, 0, none⟩ = some (.slice A p.length c)) (hA : Lies W A p) (hAb : ∀ ad, A = some ad → 0 < p.length → ad.block < n₀)
    (h4 : W.cell? ⟨3, 0, none⟩ = some (.iface t4 v4)) (h6 : W.cell? ⟨8, 0, none⟩ = some (.iface t6 v6)) (hg : 8 < n₀) (h0 : J [] W) :
    CallsIn Fence.wide n Tryz.prog 70 #[.func (.yield l) #[] #[], .pointer (some ⟨Bs, 0, none⟩)] W (IterEnd (faultsL (-1) p 0) J Jx) := by
  have HY := Lib.hid hY
  have HA := Lib.hid hA
  have HAB := Lib.hid hAb
  have HJ := Lib.hid hJ
  have H4 := Lib.hid h4
  have H6 := Lib.hid h6
  obtain ⟨F0, hF0⟩ : ∃ F0, faultsL (-1) p 0 = F0 := ⟨_, rfl⟩
  rw [hF0]
  have HF0 := Lib.hid hF0
  clear hY hA hAb hJ h4 h6 hF0
  refine callsIn_of_wp Tryz.func70 rfl trivial ?_ rfl
  simp only [Tryz.ntmps70, List.size_toArray, List.length_cons, List.length_nil, Nat.reduceAdd, Nat.reduceSub, Array.replicate_succ, Array.replicate_zero, List.push_toArray, List.append_toArray, List.nil_append, List.cons_append]
  gi_wp2
  gi_loopw [3, 9] (fun last i wr => ∃ (k : Nat) (la : Int) (pre : List (Nat × Nat)), k ≤ p.length ∧ pre.length ≤ k ∧ i = .int .i64 k ∧ last = .int .i32 la ∧ F0 = pre ++ faultsL la (p.drop k) k ∧ J pre wr ∧ KeepsOwn n₀ n₁ W wr ∧ W.heap.size ≤ wr.heap.size)
    (fun _ i _ => p.length - (intOf i).toNat)
  case atStart => exact ⟨0, -1, [], by omega, by simp, rfl, rfl, by rw [List.drop_zero, HF0.out]; rfl, h0, KeepsOwn.refl _ _ _, Nat.le_refl _⟩
  case round =>
    obtain ⟨k, la, pre, hk, hpk, rfl, rfl, hF, hJs, hKp, hsz⟩ := hrel
    have HF := Lib.hid hF
    have HJs := Lib.hid hJs
    have HKp := Lib.hid hKp
    clear hF hJs hKp
    by_cases hlt : k < p.length
    · have hlt' : (k : Int) < (p.length : Int) := by omega
      obtain ⟨ad, rfl, hcs⟩ := HA.out (by omega)
      obtain ⟨a1, a2, a3⟩ := hcs k hlt
      have hb := HAB.out ad rfl (by omega)
      have hdr : p.drop k = p[k] :: p.drop (k + 1) := List.drop_eq_getElem_cons hlt
      generalize p[k] = x at a1 a2 a3 hdr
      obtain ⟨lo, hi, va⟩ := x
      dsimp only at a1 a2 a3
      have hb' : ∀ j, (ad.add j).block < n₀ := fun j => by have e : (ad.add j).block = ad.block := by unfold Addr.add; split <;> rfl
                                                           omega
      have b1 : wr.cell? (ad.add (k * 3)) = some (.int .i32 lo) := (HKp.out.1.cell (hb' _)).trans a1
      have b2 : wr.cell? { block := (ad.add (k * 3)).block, off := (ad.add (k * 3)).off + 1 } = some (.int .i32 hi) := by
        have h := (HKp.out.1.cell (hb' _)).trans a2
        rw [← Addr.add_add] at h
        exact h
      have b3 : wr.cell? { block := (ad.add (k * 3)).block, off := (ad.add (k * 3)).off + 2 } = some (.int .i64 va) := by
        have h := (HKp.out.1.cell (hb' _)).trans a3
        rw [← Addr.add_add] at h
        exact h
      have b4 : wr.cell? ⟨3, 0, none⟩ = some (.iface t4 v4) := (HKp.out.1.cell (p := ⟨3, 0, none⟩) (by show 3 < n₀; omega)).trans H4.out
      have b6 : wr.cell? ⟨8, 0, none⟩ = some (.iface t6 v6) := (HKp.out.1.cell (p := ⟨8, 0, none⟩) hg).trans H6.out
      clear a1 a2 a3 hcs
      cases hm : mayB (lo, hi, va) with
      | false =>
        gi_wp2_with (refine ⟨trivial, ?_⟩; gi_at_call 43; refine (callsIn_wide.2 (may_any lo hi va _)).mono ?_; rintro e w3 ⟨rfl, hb3⟩; rw [hm]; have hn3 := below_blk hb3 (blk_new wr (.cells #[.int .i32 lo, .int .i32 hi, .int .i64 va] 28)); have y0 := (blk_cell hn3 0).trans rfl; have y1 := (blk_cell hn3 1).trans rfl; have hbw := below_to ((Below.refl wr.heap.size wr).alloc (Nat.le_refl _) (.cells #[.int .i32 lo, .int .i32 hi, .int .i64 va] 28)) hb3; have g4 := cell_in hbw b4; have g6 := cell_in hbw b6; obtain ⟨fn, tmps, assign, body, hy, hR⟩ := HY.out pre (k, 4) w3 (abides_below HJ.out HJs.out hbw) (by omega); dsimp only [evF] at hy; rw [if_pos rfl] at hy; have HN3 := Lib.hid hn3; have HBW := Lib.hid hbw; clear hb3 hn3 hbw)
        refine hR.mono ?_
        have hK3 : KeepsOwn n₀ n₁ W w3 := HKp.out.trans (KeepsOwn.of_below HBW.out (by omega))
        have hs3 := HBW.out.size
        rintro e W3 (⟨rfl, hJ3, hk3⟩ | ⟨rfl, hJx3⟩)
        · have hn4 := hk3.2 _ _ _ _ (by omega) HN3.out
          have z1 := (blk_cell hn4 1).trans rfl
          have hKK := hK3.trans hk3
          have hss := hk3.1.size
          have HJ3 := Lib.hid hJ3
          have HKK := Lib.hid hKK
          clear y0 y1 g4 g6 hn4 hK3 hk3 hKK hJ3 hy hR
          gi_wp2
          go_roundw
          case rel => exact ⟨k + 1, hi, pre ++ [(k, 4)], by omega, by simp; omega, by go_num, rfl, by rw [HF.out, hdr, faultsL, if_pos hm]; simp, HJ3.out, HKK.out, by omega⟩
          case measure => simp [intOf]; omega
        · gi_wp2
          go_end0
          exact ⟨⟨_, rfl⟩, .inr ⟨pre ++ [(k, 4)], by rw [HF.out, hdr, faultsL, if_pos hm]; exact ⟨faultsL hi (p.drop (k + 1)) (k + 1), by simp⟩, hJx3⟩⟩
      | true =>
        by_cases hlo : lo ≤ la
        · skip
          gi_wp2_with (refine ⟨trivial, ?_⟩; gi_at_call 43; refine (callsIn_wide.2 (may_any lo hi va _)).mono ?_; rintro e w3 ⟨rfl, hb3⟩; rw [hm]; have hn3 := below_blk hb3 (blk_new wr (.cells #[.int .i32 lo, .int .i32 hi, .int .i64 va] 28)); have y0 := (blk_cell hn3 0).trans rfl; have y1 := (blk_cell hn3 1).trans rfl; have hbw := below_to ((Below.refl wr.heap.size wr).alloc (Nat.le_refl _) (.cells #[.int .i32 lo, .int .i32 hi, .int .i64 va] 28)) hb3; have g4 := cell_in hbw b4; have g6 := cell_in hbw b6; obtain ⟨fn, tmps, assign, body, hy, hR⟩ := HY.out pre (k, 6) w3 (abides_below HJ.out HJs.out hbw) (by omega); dsimp only [evF] at hy; rw [if_neg (by decide)] at hy; have HN3 := Lib.hid hn3; have HBW := Lib.hid hbw; clear hb3 hn3 hbw)
          refine hR.mono ?_
          have hK3 : KeepsOwn n₀ n₁ W w3 := HKp.out.trans (KeepsOwn.of_below HBW.out (by omega))
          have hs3 := HBW.out.size
          rintro e W3 (⟨rfl, hJ3, hk3⟩ | ⟨rfl, hJx3⟩)
          · have hn4 := hk3.2 _ _ _ _ (by omega) HN3.out
            have z1 := (blk_cell hn4 1).trans rfl
            have hKK := hK3.trans hk3
            have hss := hk3.1.size
            have HJ3 := Lib.hid hJ3
            have HKK := Lib.hid hKK
            clear y0 y1 g4 g6 hn4 hK3 hk3 hKK hJ3 hy hR
            gi_wp2
            go_roundw
            case rel => exact ⟨k + 1, hi, pre ++ [(k, 6)], by omega, by simp; omega, by go_num, rfl, by rw [HF.out, hdr, faultsL, if_neg (by rw [hm]; simp), if_pos hlo]; simp, HJ3.out, HKK.out, by omega⟩
            case measure => simp [intOf]; omega
          · gi_wp2
            go_end0
            exact ⟨⟨_, rfl⟩, .inr ⟨pre ++ [(k, 6)], by rw [HF.out, hdr, faultsL, if_neg (by rw [hm]; simp), if_pos hlo]; exact ⟨faultsL hi (p.drop (k + 1)) (k + 1), by simp⟩, hJx3⟩⟩
        · have hlo' : ¬ lo ≤ la := hlo
          have hK3 : ∀ w3, Below (wr.alloc (.cells #[.int .i32 lo, .int .i32 hi, .int .i64 va] 28)).heap.size (wr.alloc (.cells #[.int .i32 lo, .int .i32 hi, .int .i64 va] 28)) w3 → KeepsOwn n₀ n₁ W w3 ∧ J pre w3 ∧ wr.heap.size ≤ w3.heap.size := fun w3 hb3 => by
            have hbw := below_to ((Below.refl wr.heap.size wr).alloc (Nat.le_refl _) (.cells #[.int .i32 lo, .int .i32 hi, .int .i64 va] 28)) hb3
            exact ⟨HKp.out.trans (KeepsOwn.of_below hbw (by omega)), abides_below HJ.out HJs.out hbw, hbw.size⟩
          have HK3 := Lib.hid hK3
          clear hK3
          gi_wp2_with (refine ⟨trivial, ?_⟩; gi_at_call 43; refine (callsIn_wide.2 (may_any lo hi va _)).mono ?_; rintro e w3 ⟨rfl, hb3⟩; rw [hm]; have hn3 := below_blk hb3 (blk_new wr (.cells #[.int .i32 lo, .int .i32 hi, .int .i64 va] 28)); have y0 := (blk_cell hn3 0).trans rfl; have y1 := (blk_cell hn3 1).trans rfl; have HR3 := Lib.hid (HK3.out w3 hb3); clear hb3 hn3)
          refine ⟨fun _ h => (by cases h), ?_⟩
          gi_wp2
          go_roundw
          case rel => exact ⟨k + 1, hi, pre, by omega, by omega, by go_num, rfl, by rw [HF.out, hdr, faultsL, if_neg (by rw [hm]; simp), if_neg (show ¬ lo ≤ la by omega), List.nil_append], HR3.out.2.1, HR3.out.1, by have := HR3.out.2.2; omega⟩
          case measure => simp [intOf]; omega
    · have hkp : k = p.length := by omega
      have hlt' : ¬ (k : Int) < (p.length : Int) := by omega
      have hnil : p.drop k = [] := List.drop_eq_nil_of_le (by omega)
      have hF2 : F0 = pre := by rw [HF.out, hnil, faultsL, List.append_nil]
      have HF2 := Lib.hid hF2
      clear hF2 hnil hkp
      gi_wp2
      go_end0
      exact ⟨⟨_, rfl⟩, .inl ⟨_, rfl, by rw [HF2.out]; exact HJs.out⟩⟩
theorem faultsL_len : ∀ (p : List Rg) (la : Int) (i : Nat), (faultsL la p i).length ≤ p.length
  | [], _, _ => by simp [faultsL]
  | x :: r, la, i => by
    have := faultsL_len r x.2.1 (i + 1)
    rw [faultsL, List.length_append, List.length_cons]
    split
    · simp; omega
    · split <;> simp <;> omega
/-- The iterator's contract. -/
theorem faults_stops (n Bs n₀ n₁ c : Nat) (hn : 1 ≤ n) (A : Option Addr) (p : List Rg) (t4 t6 : TypeId) (v4 v6 : Value) (hl : p.length ≤ 1000000) (w : World) (hn1 : n₁ ≤ w.heap.size) (hn0 : n₀ ≤ w.heap.size)
    (hBs : w.cell? ⟨Bs, 0, none⟩ = some (.slice A p.length c)) (hA : Lies w A p) (hAb : ∀ ad, A = some ad → 0 < p.length → ad.block < n₀)
    (h4 : w.cell? ⟨3, 0, none⟩ = some (.iface t4 v4)) (h6 : w.cell? ⟨8, 0, none⟩ = some (.iface t6 v6)) (hg : 8 < n₀) :
    SeqStopsK Fence.wide n Tryz.prog 70 #[.pointer (some ⟨Bs, 0, none⟩)] (fun x : Nat × Nat => #[Value.int .i64 (x.1 : Int), evF t4 t6 v4 v6 x.2]) (KeepsOwn n₀ n₁) (fun ys => ys = faultsL (-1) p 0) (fun pre => pre <+: faultsL (-1) p 0) p.length w := fun l J Jx W hW hJ _ hY h0 =>
  faults1_in n l Bs n₀ n₁ c hn A p t4 t6 v4 v6 hl J Jx hY W (Nat.le_trans hn1 hW.size) (Nat.le_trans hn0 hW.size) hJ (cell_in hW hBs) (hA.below hW) hAb (cell_in hW h4) (cell_in hW h6) hg h0
end Go.Proofs.YthggpjiabklekaaGreatDoor
