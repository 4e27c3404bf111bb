/- ranges.All: the iterator's contract. -/
import Derived.Test.YthggpjiabklekaaGreatDoorCa
import Derived.Test.YthggpjiabklekaaGreatDoorGp
import Derived.Test.YthggpjiabklekaaGreatDoorKs
namespace Go.Proofs.YthggpjiabklekaaGreatDoor
set_option linter.unusedSimpArgs false
set_option linter.unusedVariables false
open Go.RowKit Go.Lib Go.Shelf
attribute [local go_sem] Oper.semAt_some

/-- Where the copied rows stand: in a block of the iterator's own. -/
def RowAt (n₁ : Nat) (W : World) (A : Option Addr) (p : List Rg) : Prop :=
  0 < p.length → ∃ (g : Nat) (cs : Array Value) (t : TypeId), A = some ⟨g, 0, none⟩ ∧ n₁ ≤ g ∧ W.heap[g]? = some (.cells cs t (0, 0)) ∧
    ∀ j (hj : j < p.length), cs[j * 3]? = some (.int .i32 p[j].1) ∧ cs[j * 3 + 1]? = some (.int .i32 p[j].2.1) ∧ cs[j * 3 + 2]? = some (.int .i64 p[j].2.2)
theorem tab_bds : ∀ (p : List Rg) (la : Int), Tab la p → ∀ x ∈ p, 0 ≤ x.1 ∧ x.1 ≤ x.2.1 ∧ x.2.1 ≤ 1114111
  | [], _, _, x, h => by cases h
  | y :: r, la, hT, x, h => by
    obtain ⟨h1, h2, h3⟩ := hT
    rcases List.mem_cons.1 h with rfl | h
    · have := of_decide_eq_true h1; exact ⟨this.1, this.2.1, this.2.2.1⟩
    · exact tab_bds r _ h3 x h
/-- How an iterator ends. -/
def IterEndG {α : Type} (F0 : List α) (J Jx : List α → World → Prop) (e : Ending) (W' : World) : Prop := (∃ v, e = .returned v) ∧ ((∃ ys, ys = F0 ∧ J ys W') ∨ (∃ pre, pre <+: F0 ∧ Jx pre W'))
theorem runs_cons (v r hi : Int) (h : r ≤ hi) : runsL v r (hi - r + 1).toNat = (r, v) :: runsL v (r + 1) (hi - (r + 1) + 1).toNat := by
  have e : (hi - r + 1).toNat = (hi - (r + 1) + 1).toNat + 1 := by omega
  rw [e, runsL]
theorem runs_nil (v r hi : Int) (h : ¬ r ≤ hi) : runsL v r (hi - r + 1).toNat = [] := by
  have e : (hi - r + 1).toNat = 0 := by omega
  rw [e, runsL]
set_option maxRecDepth 100000 in
set_option maxHeartbeats 4000000 in
theorem goes1_in (n l Bs n₀ n₁ c : Nat) (hn : 1 ≤ n) (A : Option Addr) (p : List Rg) (hT : Tab (-1) p) (hl : p.length ≤ 1000000) (J Jx : List (Int × Int) → World → Prop)
    (hY : ∀ pre x W, J pre W → pre.length < (goesL p).length → YieldAt Fence.wide (n - 1) Tryz.prog l #[.int .i32 x.1, .int .i64 x.2] W fun e W' =>
      (e = .returned (.bool true) ∧ J (pre ++ [x]) W' ∧ KeepsOwn n₀ n₁ W W') ∨ (e = .returned (.bool false) ∧ Jx (pre ++ [x]) W'))
    (W : World) (hn1 : n₁ ≤ W.heap.size) (hn0 : n₀ ≤ W.heap.size) (hJ : AbidesFrom W.heap.size J) (hBs : W.cell? ⟨Bs, 0, none⟩ = some (.slice A p.length c)) (hA : RowAt n₁ W A p) (h0 : J [] W) :
    CallsIn Fence.wide n Tryz.prog 41 #[.func (.yield l) #[] #[], .pointer (some ⟨Bs, 0, none⟩)] W (IterEndG (goesL p) J Jx) := by
  have HY := Lib.hid hY
  have HA := Lib.hid hA
  have HJ := Lib.hid hJ
  have HT := Lib.hid hT
  obtain ⟨F0, hF0⟩ : ∃ F0, goesL p = F0 := ⟨_, rfl⟩
  rw [hF0]
  have HF0 := Lib.hid hF0
  clear hY hA hJ hF0 hT
  refine callsIn_of_wp Tryz.func41 rfl trivial ?_ rfl
  simp only [Tryz.ntmps41, List.size_toArray, List.length_cons, List.length_nil, Nat.reduceAdd, Nat.reduceSub, Array.replicate_succ, Array.replicate_zero, List.push_toArray, List.append_toArray, List.nil_append, List.cons_append]
  gi_wp2
  gi_loopw [8] (fun i wr => ∃ (k : Nat) (pre : List (Int × Int)), k ≤ p.length ∧ i = .int .i64 k ∧ F0 = pre ++ goesL (p.drop k) ∧ J pre wr ∧ KeepsOwn n₀ n₁ W wr ∧ W.heap.size ≤ wr.heap.size)
    (fun i _ => p.length - (intOf i).toNat)
  case atStart => exact ⟨0, [], by omega, rfl, by rw [List.drop_zero, HF0.out]; rfl, h0, KeepsOwn.refl _ _ _, Nat.le_refl _⟩
  case round =>
    obtain ⟨k, pre, hk, rfl, hF, hJs, hKp, hsz⟩ := hrel
    have HF := Lib.hid hF
    have HJs := Lib.hid hJs
    have HKp := Lib.hid hKp
    clear hF hJs hKp
    by_cases hlt : k < p.length
    · have hlt' : (k : Int) < (p.length : Int) := by omega
      obtain ⟨g, cs, t, rfl, hg, hcs0, hcs⟩ := HA.out (by omega)
      obtain ⟨a1, a2, a3⟩ := hcs k hlt
      have hdr : p.drop k = p[k] :: p.drop (k + 1) := List.drop_eq_getElem_cons hlt
      have hxm : p[k] ∈ p := List.getElem_mem hlt
      have hbd := tab_bds p _ HT.out _ hxm
      generalize p[k] = x at a1 a2 a3 hdr hbd
      clear hxm
      obtain ⟨lo, hi, va⟩ := x
      dsimp only at a1 a2 a3 hbd
      obtain ⟨hb1, hb2, hb3⟩ := hbd
      have hcsr := HKp.out.2 g cs t _ hg hcs0
      have b1 : wr.cell? ⟨g, k * 3, none⟩ = some (.int .i32 lo) := (blk_cell hcsr (k * 3)).trans a1
      have b2 : wr.cell? ⟨g, k * 3 + 1, none⟩ = some (.int .i32 hi) := (blk_cell hcsr (k * 3 + 1)).trans a2
      have b3 : wr.cell? ⟨g, k * 3 + 2, none⟩ = some (.int .i64 va) := (blk_cell hcsr (k * 3 + 2)).trans a3
      clear a1 a2 a3 hcs hcsr
      have hN := blk_new wr (.cells #[.int .i32 lo, .int .i32 hi, .int .i64 va] 28)
      have HN := Lib.hid hN
      have hKn : KeepsOwn n₀ n₁ W (wr.alloc (.cells #[.int .i32 lo, .int .i32 hi, .int .i64 va] 28)) := HKp.out.trans (KeepsOwn.of_below ((Below.refl wr.heap.size wr).alloc (Nat.le_refl _) _) (by omega))
      have HKn := Lib.hid hKn
      have hJn : J pre (wr.alloc (.cells #[.int .i32 lo, .int .i32 hi, .int .i64 va] 28)) := abides_below HJ.out HJs.out ((Below.refl wr.heap.size wr).alloc (Nat.le_refl _) _)
      have HJn := Lib.hid hJn
      have y0 := (blk_cell hN 0).trans rfl
      have y1 := (blk_cell hN 1).trans rfl
      have y2 := (blk_cell hN 2).trans rfl
      clear hN hKn hJn
      gi_wp2
      gi_loopw [5] (fun r wr2 => ∃ (q : Int) (pre2 : List (Int × Int)), lo ≤ q ∧ q ≤ hi + 1 ∧ r = .int .i32 q ∧ F0 = pre2 ++ (runsL va q (hi - q + 1).toNat ++ goesL (p.drop (k + 1))) ∧ J pre2 wr2 ∧ KeepsOwn n₀ n₁ W wr2 ∧ wr2.heap[wr.heap.size]? = some (.cells #[.int .i32 lo, .int .i32 hi, .int .i64 va] 28 (0, 0)) ∧ W.heap.size ≤ wr2.heap.size)
        (fun r _ => (hi + 1 - intOf r).toNat)
      case atStart => exact ⟨lo, pre, by omega, by omega, rfl, by rw [HF.out, hdr, goesL], HJn.out, HKn.out, HN.out, by rw [World.size_alloc]; omega⟩
      case round =>
        obtain ⟨q, pre2, hq1, hq2, rfl, hF2, hJ2, hK2, hB2, hz2⟩ := hrel
        have HF2 := Lib.hid hF2
        have HJ2 := Lib.hid hJ2
        have HK2 := Lib.hid hK2
        have HB2 := Lib.hid hB2
        have z1 := (blk_cell hB2 1).trans rfl
        have z2 := (blk_cell hB2 2).trans rfl
        clear hF2 hJ2 hK2 hB2 y0 y1 y2
        have q0 : 0 ≤ q := by omega
        have qm : q ≤ 1114111 ∨ ¬ q ≤ hi := by omega
        by_cases hqh : q ≤ hi
        · have q3 : q ≤ 1114111 := by omega
          obtain ⟨fn, tmps, assign, body, hy, hR⟩ := HY.out pre2 (q, va) _ HJ2.out (by rw [HF0.out, HF2.out, runs_cons va q hi hqh]; simp)
          dsimp only at hy
          clear qm
          gi_wp2
          refine hR.mono ?_
          rintro e W3 (⟨rfl, hJ3, hk3⟩ | ⟨rfl, hJx3⟩)
          · have HKK := Lib.hid (HK2.out.trans hk3)
            have HBB := Lib.hid (hk3.2 _ _ _ _ (by omega) HB2.out)
            have hss := hk3.1.size
            have HJ3 := Lib.hid hJ3
            clear hk3 hJ3 hy hR
            gi_wp2
            go_roundw
            case rel => exact ⟨q + 1, pre2 ++ [(q, va)], by omega, by omega, by go_num, by rw [HF2.out, runs_cons va q hi hqh]; simp, HJ3.out, HKK.out, HBB.out, by omega⟩
            case measure => simp [intOf]; omega
          · gi_wp2
            go_end0
            exact ⟨⟨_, rfl⟩, .inr ⟨pre2 ++ [(q, va)], by rw [HF2.out, runs_cons va q hi hqh]; exact ⟨runsL va (q + 1) (hi - (q + 1) + 1).toNat ++ goesL (p.drop (k + 1)), by simp⟩, hJx3⟩⟩
        · clear qm
          gi_wp2
          go_roundw
          case rel => exact ⟨k + 1, pre2, by omega, by go_num, by rw [HF2.out, runs_nil va q hi hqh]; rfl, HJ2.out, HK2.out, by omega⟩
          case measure => simp [intOf]; omega
    · have hkp : k = p.length := by omega
      have hlt' : ¬ (k : Int) < (p.length : Int) := by omega
      have hnil : p.drop k = [] := List.drop_eq_nil_of_le (by omega)
      have hF2 : F0 = pre := by rw [HF.out, hnil, goesL, List.append_nil]
      have HF2 := Lib.hid hF2
      clear hF2 hnil hkp
      gi_wp2
      go_end0
      exact ⟨⟨_, rfl⟩, .inl ⟨_, rfl, by rw [HF2.out]; exact HJs.out⟩⟩
/-- The iterator's contract. -/
theorem goes_stops (n Bs n₀ n₁ c : Nat) (hn : 1 ≤ n) (A : Option Addr) (p : List Rg) (hT : Tab (-1) p) (hl : p.length ≤ 1000000) (w : World) (hn1 : n₁ ≤ w.heap.size) (hn0 : n₀ ≤ w.heap.size)
    (hBs : w.cell? ⟨Bs, 0, none⟩ = some (.slice A p.length c)) (hA : RowAt n₁ w A p) :
    SeqStopsK Fence.wide n Tryz.prog 41 #[.pointer (some ⟨Bs, 0, none⟩)] (fun x : Int × Int => #[Value.int .i32 x.1, .int .i64 x.2]) (KeepsOwn n₀ n₁) (fun ys => ys = goesL p) (fun pre => pre <+: goesL p) (goesL p).length w := fun l J Jx W hW hJ _ hY h0 =>
  goes1_in n l Bs n₀ n₁ c hn A p hT hl J Jx hY W (Nat.le_trans hn1 hW.size) (Nat.le_trans hn0 hW.size) hJ (cell_in hW hBs) (fun hp => by obtain ⟨g, cs, t, e, h1, h2, h3⟩ := hA hp; exact ⟨g, cs, t, e, h1, below_blk hW h2, h3⟩) h0
end Go.Proofs.YthggpjiabklekaaGreatDoor
