import Derived.Test.YtlgdenihddkjaaaDoorFrac
import Derived.Deep.RegionLaw
import Derived.Deep.RegionHeld3
import Derived.Deep.AppendLies
import Derived.KernelRfl
namespace Go.Proofs.YtlgdenihddkjaaaDoor
set_option linter.unusedSimpArgs false
set_option linter.unusedVariables false
open Go.RowKit

theorem info54 : (Tryd.prog.info? 54).map (fun i => (i.zero, i.size, i.bytes)) = some (some (.agg #[.int .i64 0, .int .i64 0, .int .i64 0, .int .i64 0]), 4, 32) := by kernel_rfl
/-- Nothing that was there turns, but what is named. -/
structure Keep (S : Nat → Prop) (w w' : World) : Prop where
  os : w'.os = w.os
  tape : w'.tape = w.tape
  output : w'.output = w.output
  size : w.heap.size ≤ w'.heap.size
  block : ∀ k, k < w.heap.size → ¬ S k → w'.heap[k]? = w.heap[k]?
theorem Keep.refl (S : Nat → Prop) (w : World) : Keep S w w := ⟨rfl, rfl, rfl, Nat.le_refl _, fun _ _ _ => rfl⟩
theorem Keep.trans {S : Nat → Prop} {x y z : World} (h : Keep S x y) (k : Keep S y z) : Keep S x z :=
  ⟨k.os.trans h.os, k.tape.trans h.tape, k.output.trans h.output, Nat.le_trans h.size k.size, fun i hi hb => (k.block i (Nat.lt_of_lt_of_le hi h.size) hb).trans (h.block i hi hb)⟩
theorem Keep.of_but {S : Nat → Prop} {b : Nat} {w w' : World} (h : But b w w') (hb : S b) : Keep S w w' :=
  ⟨h.os, h.tape, h.output, h.size, fun k hk hS => h.block k hk (fun e => hS (e ▸ hb))⟩
theorem Keep.below {S : Nat → Prop} {n : Nat} {w w' : World} (h : Keep S w w') (hS : ∀ k, k < n → ¬ S k) (hn : n ≤ w.heap.size) : Below n w w' :=
  ⟨h.os, h.tape, h.output, h.size, fun k hk => h.block k (by omega) (hS k hk)⟩
/-- The blocks that the closure may turn: the text's, the row's variable, and whatever lies from M on. -/
def Turns (b L M : Nat) (k : Nat) : Prop := k = b ∨ k = L ∨ M ≤ k
/-- What the closure finds. -/
structure Tk (w : World) (M L D b : Nat) (s : ByteArray) (k : Nat) (v : Value) (n : Nat) (xs : List Value) : Prop where
  l : w.heap[L]? = some (.cells #[v] 52 (0, 0))
  d : w.heap[D]? = some (.cells #[.pointer (some ⟨b, 0, none⟩)] 49 (0, 0))
  rd : Rd w b s k
  own : w.ownsRow M 54 4 v n xs
  hL : L < M
  hD : D < M
  hb : b < M
  hM : M ≤ w.heap.size
  hLb : b < L
  hLD : L ≠ D
  hDb : D ≠ b
theorem frozen_alloc {w : World} {L : Nat} (h : L < w.heap.size) (i : Nat) (o : Obj) : (w.alloc o).frozen? ⟨L, i, none⟩ = w.frozen? ⟨L, i, none⟩ := World.frozen?_of_block (Below.heap_alloc _ _ _ h)
/-- What the closure reads. -/
def takeS (s : ByteArray) (many : Nat) (behind : ByteArray) (k : Nat) : Except (Int × Nat) (Nat × UInt8 × Nat) :=
  match numS s many 0 k with
  | .error x => .error x
  | .ok a => if behind.size = 0 then .ok (a, 0, k + many) else match oneS s behind (k + many) with
    | .error x => .error x
    | .ok c => .ok (a, c, k + many + 1)

/-- What the closure leaves. -/
def TakeDone (M L D b : Nat) (s : ByteArray) (k : Nat) (low high : Int) (n : Nat) (xs : List Value) (w : World) (r : Except (Int × Nat) (Nat × UInt8 × Nat)) (e : Ending) (w' : World) : Prop :=
  Keep (Turns b L M) w w' ∧ match r with
    | .error x => ∃ v, e = .panicked [{ v := v, recovered := false }] ∧ FltIs w' v (some x)
    | .ok (a, c, k') => e = .returned (.int .u8 c.toNat) ∧ ∃ v', Tk w' M L D b s k' v' (n + 1) (xs ++ [.int .i64 a, .int .i64 k, .int .i64 low, .int .i64 high])

set_option maxHeartbeats 4000000 in
theorem take_bad (M L D b : Nat) (s : ByteArray) (k many : Nat) (low high : Int) (behind : ByteArray) (v : Value) (n : Nat) (xs : List Value) (w : World) (hT : Tk w M L D b s k v n xs)
    (hm : many ≤ 4) (hs : s.size < 4611686018427387904) (hk : k ≤ s.size) (hI : ErrAt b w) (x : Int × Nat) (hx : numS s many 0 k = .error x) :
    Calls Tryd.prog 28 #[.int .i64 many, .int .i64 low, .int .i64 high, .string behind, .pointer (some ⟨L, 0, none⟩), .pointer (some ⟨D, 0, none⟩)] w (TakeDone M L D b s k low high n xs w (.error x)) := by
  have hl := blk_cell hT.l 0
  have hd := blk_cell hT.d 0
  simp at hl hd
  have H : Hid (∀ w1 : World, w1.heap = w.heap → w1.os = w.os → w1.tape = w.tape → w1.output = w.output → Calls Tryd.prog 29 #[.pointer (some ⟨b, 0, none⟩), .int .i64 many, .int .i64 low, .int .i64 high] w1 (Done b s w (.error x))) := by
    intro w1 h1 h2 h3 h4
    have hb1 : But b w w1 := ⟨h2, h3, h4, by rw [h1]; exact Nat.le_refl _, fun _ _ _ => by rw [h1]⟩
    refine Calls.mono (number_any b s k many low high w1 (by unfold Rd; rw [h1]; exact hT.rd) hm hs hk (hI.but hb1)) ?_
    intro e w2 hd
    rw [hx] at hd
    obtain ⟨hb2, v, rfl, hf⟩ := hd
    exact ⟨hb1.trans hb2, v, rfl, hf⟩
  clear hT hI hx
  go_enter Tryd.func28, Tryd.ntmps28
  go_wp2
  go_region_dies
  all_goals
    refine Calls.mono (H.out _ rfl rfl rfl rfl) ?_
    rintro e w' ⟨hb, v, rfl, hf⟩
    exact ⟨rfl, Keep.of_but hb (Or.inl rfl), v, rfl, hf⟩

theorem owns_at {w w' : World} {M n : Nat} {v : Value} {xs : List Value} (h : w.ownsRow M 54 4 v n xs) (hb : ∀ k, M ≤ k → k < w.heap.size → w'.heap[k]? = w.heap[k]?) : w'.ownsRow M 54 4 v n xs := by
  obtain ⟨h7, h8⟩ := h
  refine ⟨h7, ?_⟩
  rcases h8 with h8 | ⟨g, cap, cur, rfl, hg, hh, hr2⟩
  · exact .inl h8
  · exact .inr ⟨g, cap, cur, rfl, hg, (hb g hg (heap_lt hh)).trans hh, hr2⟩
/-- Behind the append and the store. -/
theorem Tk.grow {w w2 w3 : World} {M L D b : Nat} {s : ByteArray} {k : Nat} {v v' : Value} {n n' : Nat} {xs ys : List Value} {o : Obj} (h : Tk w2 M L D b s k v n xs) (hb : Keep (Turns b L M) w w2)
    (hown : w3.ownsRow M 54 4 v' n' ys) (hg : (w2.alloc o).grownBy w3 v.ownBlock) (u : Value) (hu : u = v') :
    Keep (Turns b L M) w (w3.setCell ⟨L, 0, none⟩ u) ∧ Tk (w3.setCell ⟨L, 0, none⟩ u) M L D b s k v' n' ys := by
  subst hu
  have e0 : ∀ j, j < w2.heap.size → j < M → w3.heap[j]? = w2.heap[j]? := fun j hj hjM => by
    rw [hg.block j (by simp; omega) (fun e => by have := (h.own.lt _ e.symm).1; omega)]
    exact Below.heap_alloc _ _ _ hj
  have hM := h.hM; have hL := h.hL; have hD := h.hD; have hbM := h.hb
  have hsz : w2.heap.size ≤ w3.heap.size := by have := hg.size; simp at this; omega
  have k3 : Keep (Turns b L M) w (w3.setCell ⟨L, 0, none⟩ u) := by
    refine hb.trans ⟨hg.os, hg.tape, hg.output, by simpa [World.setCell] using hsz, fun j hj hS => ?_⟩
    have hjM : j < M := Nat.lt_of_not_le (fun e => hS (.inr (.inr e)))
    exact (Below.heap_setCell _ _ _ _ (fun e => hS (.inr (.inl e)))).trans (e0 j hj hjM)
  refine ⟨k3, ⟨?_, ?_, ?_, ?_, hL, hD, hbM, by simp [World.setCell]; omega, h.hLb, h.hLD, h.hDb⟩⟩
  · simpa using blk_set ((e0 L (by omega) hL).trans h.l) 0 u
  · exact (Below.heap_setCell _ _ _ _ (Ne.symm h.hLD)).trans ((e0 D (by omega) hD).trans h.d)
  · exact (Below.heap_setCell _ _ _ _ (Nat.ne_of_lt h.hLb)).trans ((e0 b (by omega) hbM).trans h.rd)
  · exact owns_at hown (fun j hj _ => Below.heap_setCell _ _ _ _ (by show j ≠ L; omega))

theorem Tk.but {w w' : World} {M L D b : Nat} {s : ByteArray} {k k' : Nat} {v : Value} {n : Nat} {xs : List Value} (h : Tk w M L D b s k v n xs) (hb : But b w w') (hr : Rd w' b s k') : Tk w' M L D b s k' v n xs := by
  have hM := h.hM; have hL := h.hL; have hD := h.hD; have hbM := h.hb
  exact ⟨(hb.block L (by omega) (Nat.ne_of_gt h.hLb)).trans h.l, (hb.block D (by omega) h.hDb).trans h.d, hr, owns_at h.own (fun j hj hl => hb.block j hl (by omega)), hL, hD, hbM, by have := hb.size; omega, h.hLb, h.hLD, h.hDb⟩
theorem ErrAt.keep {b L M : Nat} {w w' : World} (h : ErrAt b w) (hk : Keep (Turns b L M) w w') (hL : b < L) (hM : b < M) : ErrAt b w' :=
  let ⟨w0, hs, hI, h0⟩ := h
  ⟨w0, hs, hI, h0.trans (hk.below (fun k hk hT => by rcases hT with rfl | rfl | hT <;> omega) h0.size)⟩
theorem Tk.dcell {w : World} {M L D b : Nat} {s : ByteArray} {k : Nat} {v : Value} {n : Nat} {xs : List Value} (h : Tk w M L D b s k v n xs) : w.cell? ⟨D, 0, none⟩ = some (.pointer (some ⟨b, 0, none⟩)) := by
  simpa using blk_cell h.d 0
set_option maxRecDepth 100000 in
set_option maxHeartbeats 8000000 in
theorem take_none (M L D b : Nat) (s : ByteArray) (k many : Nat) (low high : Int) (v : Value) (n : Nat) (xs : List Value) (w : World) (hT : Tk w M L D b s k v n xs)
    (hm : many ≤ 4) (hs : s.size < 4611686018427387904) (hk : k ≤ s.size) (hn : n < 100) (hI : ErrAt b w) (a : Nat) (hx : numS s many 0 k = .ok a) :
    Calls Tryd.prog 28 #[.int .i64 many, .int .i64 low, .int .i64 high, .string ⟨#[]⟩, .pointer (some ⟨L, 0, none⟩), .pointer (some ⟨D, 0, none⟩)] w (TakeDone M L D b s k low high n xs w (.ok (a, 0, k + many))) := by
  obtain ⟨i0, hi0, hz0, hz1, hz2⟩ := info_parts info54
  have hl := blk_cell hT.l 0
  have hd := blk_cell hT.d 0
  have hzL := blk_fz hT.l 0
  simp at hl hd
  have H : Hid (∀ w1 : World, w1.heap = w.heap → w1.os = w.os → w1.tape = w.tape → w1.output = w.output → Calls Tryd.prog 29 #[.pointer (some ⟨b, 0, none⟩), .int .i64 many, .int .i64 low, .int .i64 high] w1 (fun e w' => e = .returned (.agg #[.int .i64 a, .int .i64 k, .int .i64 low, .int .i64 high]) ∧
      w'.cell? ⟨L, 0, none⟩ = some v ∧ w'.cell? ⟨D, 0, none⟩ = some (.pointer (some ⟨b, 0, none⟩)) ∧ But b w w' ∧ Tk w' M L D b s (k + many) v n xs)) := by
    intro w1 h1 h2 h3 h4
    have hb1 : But b w w1 := ⟨h2, h3, h4, by rw [h1]; exact Nat.le_refl _, fun _ _ _ => by rw [h1]⟩
    refine Calls.mono (number_any b s k many low high w1 (by unfold Rd; rw [h1]; exact hT.rd) hm hs hk (hI.but hb1)) ?_
    intro e w2 hd
    rw [hx] at hd
    obtain ⟨hb2, rfl, hr⟩ := hd
    have hb := hb1.trans hb2
    have hM := hT.hM
    have h5 := (hb.block L (by have := hT.hL; omega) (Nat.ne_of_gt hT.hLb)).trans hT.l
    have h6 := (hb.block D (by have := hT.hD; omega) hT.hDb).trans hT.d
    refine ⟨rfl, by simpa using blk_cell h5 0, by simpa using blk_cell h6 0, hb, ⟨h5, h6, hr, ?_, hT.hL, hT.hD, hT.hb, by have := hb.size; omega, hT.hLb, hT.hLD, hT.hDb⟩⟩
    obtain ⟨h7, h8⟩ := hT.own
    refine ⟨h7, ?_⟩
    rcases h8 with h8 | ⟨g, cap, cur, rfl, hg, hh, hr2⟩
    · exact .inl h8
    · exact .inr ⟨g, cap, cur, rfl, hg, (hb.block g (heap_lt hh) (by have := hT.hb; omega)).trans hh, hr2⟩
  have aL : v.ownBlock ≠ some L := fun e => by have := (hT.own.lt _ e).1; have := hT.hL; omega
  have aD : v.ownBlock ≠ some D := fun e => by have := (hT.own.lt _ e).1; have := hT.hD; omega
  clear hT hI hx
  go_enter Tryd.func28, Tryd.ntmps28
  go_wp2
  go_region_law
    (first
      | (go_simp; refine Calls.mono (H.out _ rfl rfl rfl rfl) ?_; rintro e w2 ⟨rfl, hl2, hd2, hb2, hT2⟩; have hM2 := hT2.hM; have hL2 := hT2.hL; have hD2 := hT2.hD; have hlU := fun o => (World.cell?_alloc_some w2 ⟨L, 0, none⟩ o (by rw [hl2]; rfl)).trans hl2; have hzT := blk_fz hT2.l 0; have hzU := fun o => (frozen_alloc (heap_lt hT2.l) 0 o).trans hzT; dsimp only)
      | (refine step_append_lies _ (by rfl) _ _ _ (by rfl) M 54 i0 _ 4 32 Tryd.underlying52 hi0 hz0 hz1 hz2 rfl (by omega) v n xs (by rfl) (hT2.own.alloc _)
          ⟨w2.heap.size, 0, none⟩ 1 1 [.int .i64 a, .int .i64 k, .int .i64 low, .int .i64 high] (by rfl) (by rfl) (World.news_of_block (cs := #[.int .i64 a, .int .i64 k, .int .i64 low, .int .i64 high]) (t := 54) (fr := (0, 0)) (heap_alloc_new w2 _)) (by simp [Value.oneCell'])
          (by omega) (by unfold maxLen; omega) (by omega) (by have := hT2.hM; simp; omega) (w2.heap.size + 1) (by simp) ?_; intro gg cap w3 hown3 hgrow hat hlt
         have hL3 : w3.cell? ⟨L, 0, none⟩ = some v := by rw [hgrow.cell_far _ (by simp; omega) (by simpa using Ne.symm aL)]; exact hlU _
         have hZ3 : w3.frozen? ⟨L, 0, none⟩ = false := by rw [hgrow.frozen_far _ (by simp; omega) (by simpa using Ne.symm aL)]; exact hzU _))
  all_goals
    rename_i hK
    have hG := hT2.grow (Keep.of_but hb2 (Or.inl rfl)) hown3 hgrow _ rfl
    refine hK _ _ ?_
    clear hK hgrow hown3 hL3 hZ3 hzU hlU
    generalize w3.setCell _ _ = w4 at hG ⊢
    obtain ⟨hK4, hT4⟩ := hG
    go_wp2
    go_ret
    exact ⟨hK4, rfl, _, hT4⟩

set_option maxRecDepth 100000 in
set_option maxHeartbeats 8000000 in
theorem take_bad2 (M L D b : Nat) (s : ByteArray) (k many : Nat) (low high : Int) (v : Value) (n : Nat) (xs : List Value) (w : World) (hT : Tk w M L D b s k v n xs)
    (hm : many ≤ 4) (hs : s.size < 4611686018427387904) (hk : k ≤ s.size) (hn : n < 100) (hI : ErrAt b w) (a : Nat) (hx : numS s many 0 k = .ok a) (be : ByteArray) (hbe : be.toList.isEmpty = false) (x : Int × Nat) (hy : oneS s be (k + many) = .error x) :
    Calls Tryd.prog 28 #[.int .i64 many, .int .i64 low, .int .i64 high, .string be, .pointer (some ⟨L, 0, none⟩), .pointer (some ⟨D, 0, none⟩)] w (TakeDone M L D b s k low high n xs w (.error x)) := by
  obtain ⟨i0, hi0, hz0, hz1, hz2⟩ := info_parts info54
  have hl := blk_cell hT.l 0
  have hd := blk_cell hT.d 0
  have hzL := blk_fz hT.l 0
  simp at hl hd
  have H : Hid (∀ w1 : World, w1.heap = w.heap → w1.os = w.os → w1.tape = w.tape → w1.output = w.output → Calls Tryd.prog 29 #[.pointer (some ⟨b, 0, none⟩), .int .i64 many, .int .i64 low, .int .i64 high] w1 (fun e w' => e = .returned (.agg #[.int .i64 a, .int .i64 k, .int .i64 low, .int .i64 high]) ∧
      w'.cell? ⟨L, 0, none⟩ = some v ∧ w'.cell? ⟨D, 0, none⟩ = some (.pointer (some ⟨b, 0, none⟩)) ∧ But b w w' ∧ Tk w' M L D b s (k + many) v n xs)) := by
    intro w1 h1 h2 h3 h4
    have hb1 : But b w w1 := ⟨h2, h3, h4, by rw [h1]; exact Nat.le_refl _, fun _ _ _ => by rw [h1]⟩
    refine Calls.mono (number_any b s k many low high w1 (by unfold Rd; rw [h1]; exact hT.rd) hm hs hk (hI.but hb1)) ?_
    intro e w2 hd
    rw [hx] at hd
    obtain ⟨hb2, rfl, hr⟩ := hd
    have hb := hb1.trans hb2
    have hM := hT.hM
    have h5 := (hb.block L (by have := hT.hL; omega) (Nat.ne_of_gt hT.hLb)).trans hT.l
    have h6 := (hb.block D (by have := hT.hD; omega) hT.hDb).trans hT.d
    refine ⟨rfl, by simpa using blk_cell h5 0, by simpa using blk_cell h6 0, hb, ⟨h5, h6, hr, ?_, hT.hL, hT.hD, hT.hb, by have := hb.size; omega, hT.hLb, hT.hLD, hT.hDb⟩⟩
    obtain ⟨h7, h8⟩ := hT.own
    refine ⟨h7, ?_⟩
    rcases h8 with h8 | ⟨g, cap, cur, rfl, hg, hh, hr2⟩
    · exact .inl h8
    · exact .inr ⟨g, cap, cur, rfl, hg, (hb.block g (heap_lt hh) (by have := hT.hb; omega)).trans hh, hr2⟩
  have aL : v.ownBlock ≠ some L := fun e => by have := (hT.own.lt _ e).1; have := hT.hL; omega
  have aD : v.ownBlock ≠ some D := fun e => by have := (hT.own.lt _ e).1; have := hT.hD; omega
  have HX := (show Hid _ from hy)
  have hI := (show Hid _ from hI)
  clear hT hx hy
  go_enter Tryd.func28, Tryd.ntmps28
  go_wp2
  go_region_law
    (first
      | (go_simp; refine Calls.mono (H.out _ rfl rfl rfl rfl) ?_; rintro e w2 ⟨rfl, hl2, hd2, hb2, hT2⟩; have hM2 := hT2.hM; have hL2 := hT2.hL; have hD2 := hT2.hD; have hlU := fun o => (World.cell?_alloc_some w2 ⟨L, 0, none⟩ o (by rw [hl2]; rfl)).trans hl2; have hzT := blk_fz hT2.l 0; have hzU := fun o => (frozen_alloc (heap_lt hT2.l) 0 o).trans hzT; dsimp only)
      | (refine step_append_lies _ (by rfl) _ _ _ (by rfl) M 54 i0 _ 4 32 Tryd.underlying52 hi0 hz0 hz1 hz2 rfl (by omega) v n xs (by rfl) (hT2.own.alloc _)
          ⟨w2.heap.size, 0, none⟩ 1 1 [.int .i64 a, .int .i64 k, .int .i64 low, .int .i64 high] (by rfl) (by rfl) (World.news_of_block (cs := #[.int .i64 a, .int .i64 k, .int .i64 low, .int .i64 high]) (t := 54) (fr := (0, 0)) (heap_alloc_new w2 _)) (by simp [Value.oneCell'])
          (by omega) (by unfold maxLen; omega) (by omega) (by have := hT2.hM; simp; omega) (w2.heap.size + 1) (by simp) ?_; intro gg cap w3 hown3 hgrow hat hlt
         have hL3 : w3.cell? ⟨L, 0, none⟩ = some v := by rw [hgrow.cell_far _ (by simp; omega) (by simpa using Ne.symm aL)]; exact hlU _
         have hZ3 : w3.frozen? ⟨L, 0, none⟩ = false := by rw [hgrow.frozen_far _ (by simp; omega) (by simpa using Ne.symm aL)]; exact hzU _))
  all_goals
    rename_i hK
    have hG := hT2.grow (Keep.of_but hb2 (Or.inl rfl)) hown3 hgrow _ rfl
    refine hK _ _ ?_
    clear hK hgrow hown3 hL3 hZ3 hzU hlU
    generalize w3.setCell _ _ = w4 at hG ⊢
    obtain ⟨hK4, hT4⟩ := hG
    have hd4 := hT4.dcell
    have HI : Hid (ErrInv w4) := (ErrAt.keep hI.out hK4 hT4.hLb hT4.hb).inv
    have HT := (show Hid _ from hT4)
    have HK := (show Hid _ from hK4)
    clear hT4 hK4
    go_wp2_with (go_at_call 30; refine Calls.mono (one_err b s be _ _ HT.out.rd HI.out x HX.out) ?_; rintro e w5 ⟨u, rfl, hf, hb5⟩)
    exact ⟨rfl, HK.out.trans (Keep.of_but (But.of_below hb5 (Nat.le_refl _)) (Or.inl rfl)), u, rfl, hf⟩

set_option maxRecDepth 100000 in
set_option maxHeartbeats 8000000 in
theorem take_some (M L D b : Nat) (s : ByteArray) (k many : Nat) (low high : Int) (v : Value) (n : Nat) (xs : List Value) (w : World) (hT : Tk w M L D b s k v n xs)
    (hm : many ≤ 4) (hs : s.size < 4611686018427387904) (hk : k ≤ s.size) (hn : n < 100) (hI : ErrAt b w) (a : Nat) (hx : numS s many 0 k = .ok a) (be : ByteArray) (hbe : be.toList.isEmpty = false) (c : UInt8) (hy : oneS s be (k + many) = .ok c) :
    Calls Tryd.prog 28 #[.int .i64 many, .int .i64 low, .int .i64 high, .string be, .pointer (some ⟨L, 0, none⟩), .pointer (some ⟨D, 0, none⟩)] w (TakeDone M L D b s k low high n xs w (.ok (a, c, k + many + 1))) := by
  obtain ⟨i0, hi0, hz0, hz1, hz2⟩ := info_parts info54
  have hl := blk_cell hT.l 0
  have hd := blk_cell hT.d 0
  have hzL := blk_fz hT.l 0
  simp at hl hd
  have H : Hid (∀ w1 : World, w1.heap = w.heap → w1.os = w.os → w1.tape = w.tape → w1.output = w.output → Calls Tryd.prog 29 #[.pointer (some ⟨b, 0, none⟩), .int .i64 many, .int .i64 low, .int .i64 high] w1 (fun e w' => e = .returned (.agg #[.int .i64 a, .int .i64 k, .int .i64 low, .int .i64 high]) ∧
      w'.cell? ⟨L, 0, none⟩ = some v ∧ w'.cell? ⟨D, 0, none⟩ = some (.pointer (some ⟨b, 0, none⟩)) ∧ But b w w' ∧ Tk w' M L D b s (k + many) v n xs)) := by
    intro w1 h1 h2 h3 h4
    have hb1 : But b w w1 := ⟨h2, h3, h4, by rw [h1]; exact Nat.le_refl _, fun _ _ _ => by rw [h1]⟩
    refine Calls.mono (number_any b s k many low high w1 (by unfold Rd; rw [h1]; exact hT.rd) hm hs hk (hI.but hb1)) ?_
    intro e w2 hd
    rw [hx] at hd
    obtain ⟨hb2, rfl, hr⟩ := hd
    have hb := hb1.trans hb2
    have hM := hT.hM
    have h5 := (hb.block L (by have := hT.hL; omega) (Nat.ne_of_gt hT.hLb)).trans hT.l
    have h6 := (hb.block D (by have := hT.hD; omega) hT.hDb).trans hT.d
    refine ⟨rfl, by simpa using blk_cell h5 0, by simpa using blk_cell h6 0, hb, ⟨h5, h6, hr, ?_, hT.hL, hT.hD, hT.hb, by have := hb.size; omega, hT.hLb, hT.hLD, hT.hDb⟩⟩
    obtain ⟨h7, h8⟩ := hT.own
    refine ⟨h7, ?_⟩
    rcases h8 with h8 | ⟨g, cap, cur, rfl, hg, hh, hr2⟩
    · exact .inl h8
    · exact .inr ⟨g, cap, cur, rfl, hg, (hb.block g (heap_lt hh) (by have := hT.hb; omega)).trans hh, hr2⟩
  have aL : v.ownBlock ≠ some L := fun e => by have := (hT.own.lt _ e).1; have := hT.hL; omega
  have aD : v.ownBlock ≠ some D := fun e => by have := (hT.own.lt _ e).1; have := hT.hD; omega
  have HX := (show Hid _ from hy)
  have hI := (show Hid _ from hI)
  clear hT hx hy
  go_enter Tryd.func28, Tryd.ntmps28
  go_wp2
  go_region_law
    (first
      | (go_simp; refine Calls.mono (H.out _ rfl rfl rfl rfl) ?_; rintro e w2 ⟨rfl, hl2, hd2, hb2, hT2⟩; have hM2 := hT2.hM; have hL2 := hT2.hL; have hD2 := hT2.hD; have hlU := fun o => (World.cell?_alloc_some w2 ⟨L, 0, none⟩ o (by rw [hl2]; rfl)).trans hl2; have hzT := blk_fz hT2.l 0; have hzU := fun o => (frozen_alloc (heap_lt hT2.l) 0 o).trans hzT; dsimp only)
      | (refine step_append_lies _ (by rfl) _ _ _ (by rfl) M 54 i0 _ 4 32 Tryd.underlying52 hi0 hz0 hz1 hz2 rfl (by omega) v n xs (by rfl) (hT2.own.alloc _)
          ⟨w2.heap.size, 0, none⟩ 1 1 [.int .i64 a, .int .i64 k, .int .i64 low, .int .i64 high] (by rfl) (by rfl) (World.news_of_block (cs := #[.int .i64 a, .int .i64 k, .int .i64 low, .int .i64 high]) (t := 54) (fr := (0, 0)) (heap_alloc_new w2 _)) (by simp [Value.oneCell'])
          (by omega) (by unfold maxLen; omega) (by omega) (by have := hT2.hM; simp; omega) (w2.heap.size + 1) (by simp) ?_; intro gg cap w3 hown3 hgrow hat hlt
         have hL3 : w3.cell? ⟨L, 0, none⟩ = some v := by rw [hgrow.cell_far _ (by simp; omega) (by simpa using Ne.symm aL)]; exact hlU _
         have hZ3 : w3.frozen? ⟨L, 0, none⟩ = false := by rw [hgrow.frozen_far _ (by simp; omega) (by simpa using Ne.symm aL)]; exact hzU _))
  all_goals
    rename_i hK
    have hG := hT2.grow (Keep.of_but hb2 (Or.inl rfl)) hown3 hgrow _ rfl
    refine hK _ _ ?_
    clear hK hgrow hown3 hL3 hZ3 hzU hlU
    generalize w3.setCell _ _ = w4 at hG ⊢
    obtain ⟨hK4, hT4⟩ := hG
    have hd4 := hT4.dcell
    have HT := (show Hid _ from hT4)
    have HK := (show Hid _ from hK4)
    clear hT4 hK4
    go_wp2_with (go_at_call 30; refine Calls.mono (one_val b s be _ _ HT.out.rd hs c HX.out) ?_; rintro e w5 ⟨rfl, hb5, hr5⟩)
    go_ret
    exact ⟨HK.out.trans (Keep.of_but hb5 (Or.inl rfl)), rfl, _, HT.out.but hb5 hr5⟩

/-- The closure, whatever it finds. -/
theorem take_any (M L D b : Nat) (s : ByteArray) (k many : Nat) (low high : Int) (v : Value) (n : Nat) (xs : List Value) (w : World) (hT : Tk w M L D b s k v n xs)
    (hm : many ≤ 4) (hs : s.size < 4611686018427387904) (hk : k ≤ s.size) (hn : n < 100) (hI : ErrAt b w) (be : ByteArray) (hbe : be = ⟨#[]⟩ ∨ (be.toList.isEmpty = false ∧ be.size ≠ 0)) :
    Calls Tryd.prog 28 #[.int .i64 many, .int .i64 low, .int .i64 high, .string be, .pointer (some ⟨L, 0, none⟩), .pointer (some ⟨D, 0, none⟩)] w (TakeDone M L D b s k low high n xs w (takeS s many be k)) := by
  unfold takeS
  cases hx : numS s many 0 k with
  | error x => exact take_bad M L D b s k many low high be v n xs w hT hm hs hk hI x hx
  | ok a =>
    rcases hbe with rfl | ⟨h1, h2⟩
    · exact take_none M L D b s k many low high v n xs w hT hm hs hk hn hI a hx
    · simp only [if_neg h2]
      cases hy : oneS s be (k + many) with
      | error x => exact take_bad2 M L D b s k many low high v n xs w hT hm hs hk hn hI a hx be h1 x hy
      | ok c => exact take_some M L D b s k many low high v n xs w hT hm hs hk hn hI a hx be h1 c hy
end Go.Proofs.YtlgdenihddkjaaaDoor
