/- http's reader: what a byte may be; peek, want, some on the good way. -/
import Derived.Test.YtpjjkejppgehaaaGreatDoorZa
import Derived.Test.YtpjjkejppgehaaaGreatDoorShelf
import Derived.WalkKit
import Derived.Defers
import Derived.Recover
import Derived.BigRegion
import Derived.BigQuiet
import Derived.RegionDies
import Derived.Deep.RegionLaw
import Derived.Deep.RegionHeld3
import Derived.Deep.AppendLies
import Derived.KernelRfl
import Derived.Lib.Hide
import Derived.Lib.ConvBytes
import Derived.Laws.BytesArg
namespace Go.Proofs.YtpjjkejppgehaaaGreatDoor
set_option linter.unusedSimpArgs false
set_option linter.unusedVariables false
open Go.RowKit

/-- Nothing that was there turns, but block b. -/
structure But (b : Nat) (w w' : World) : Prop where
  os : w'.os = w.os
  tape : w'.tape = w.tape
  output : w'.output = w.output
  size : w.heap.size ≤ w'.heap.size
  block : ∀ k, k < w.heap.size → k ≠ b → w'.heap[k]? = w.heap[k]?
theorem But.refl (b : Nat) (w : World) : But b w w := ⟨rfl, rfl, rfl, Nat.le_refl _, fun _ _ _ => rfl⟩
theorem But.trans {b : Nat} {x y z : World} (h : But b x y) (k : But b y z) : But b x z :=
  ⟨k.os.trans h.os, k.tape.trans h.tape, k.output.trans h.output, Nat.le_trans h.size k.size, fun i hi hb => (k.block i (Nat.lt_of_lt_of_le hi h.size) hb).trans (h.block i hi hb)⟩
theorem But.of_below {b n : Nat} {w w' : World} (h : Below n w w') (hn : w.heap.size ≤ n) : But b w w' :=
  ⟨h.os, h.tape, h.output, h.size, fun k hk _ => h.block k (by omega)⟩
theorem But.below {b n : Nat} {w w' : World} (h : But b w w') (hb : n ≤ b) (hn : n ≤ w.heap.size) : Below n w w' :=
  ⟨h.os, h.tape, h.output, h.size, fun k hk => h.block k (by omega) (by omega)⟩
theorem But.drew {b : Nat} {w w' : World} (h : But b w w') : But b w w'.drew := ⟨h.os, h.tape, h.output, h.size, h.block⟩
theorem Below.drewN {B : Nat} {a w : World} (h : Below B a w) (n : Nat) : Below B a (w.drewN n) := ⟨h.os, h.tape, h.output, h.size, h.block⟩
theorem But.alloc {b : Nat} {w w' : World} (h : But b w w') (o : Obj) : But b w (w'.alloc o) :=
  h.trans (But.of_below ((Below.refl w'.heap.size w').alloc (Nat.le_refl _) o) (Nat.le_refl _))
theorem But.setCell {b : Nat} {w w' : World} (h : But b w w') (i : Nat) (v : Value) : But b w (w'.setCell ⟨b, i, none⟩ v) :=
  h.trans ⟨rfl, rfl, rfl, by simp [World.setCell], fun k _ hb => Below.heap_setCell _ _ _ _ hb⟩
theorem But.cell {b : Nat} {w w' : World} (h : But b w w') {p : Addr} {v : Value} (hp : p.block ≠ b) (hv : w.cell? p = some v) : w'.cell? p = some v := by
  have hl := World.block_lt_of_cell? w p hv
  simpa [World.cell?, h.block p.block hl hp] using hv

theorem blk_cell {w : World} {n : Nat} {cs : Array Value} {t : TypeId} (h : w.heap[n]? = some (.cells cs t (0, 0))) (i : Nat) : w.cell? ⟨n, i, none⟩ = cs[i]? := by simp [World.cell?, h]
theorem blk_fz {w : World} {n : Nat} {cs : Array Value} {t : TypeId} (h : w.heap[n]? = some (.cells cs t (0, 0))) (i : Nat) : w.frozen? ⟨n, i, none⟩ = false := by simp [World.frozen?, h]
theorem blk_set {w : World} {n : Nat} {cs : Array Value} {t : TypeId} (h : w.heap[n]? = some (.cells cs t (0, 0))) (i : Nat) (v : Value) : (w.setCell ⟨n, i, none⟩ v).heap[n]? = some (.cells (cs.setIfInBounds i v) t (0, 0)) := by
  simp only [World.setCell, Array.getElem?_modify, h]
  simp
theorem But.setNew {b : Nat} {w w' : World} (h : But b w w') {n : Nat} (hn : w.heap.size ≤ n) (i : Nat) (v : Value) : But b w (w'.setCell ⟨n, i, none⟩ v) :=
  ⟨h.os, h.tape, h.output, by simpa [World.setCell] using h.size, fun k hk hb => (Below.heap_setCell _ _ _ _ (by show k ≠ n; omega)).trans (h.block k hk hb)⟩

theorem below_to {w x y : World} (h : Below w.heap.size w x) (k : Below x.heap.size x y) : Below w.heap.size w y := h.trans (k.mono h.size)
theorem below_blk {w w' : World} {n : Nat} {o : Obj} (hb : Below w.heap.size w w') (h : w.heap[n]? = some o) : w'.heap[n]? = some o := (hb.block n (heap_lt h)).trans h
/-- What a byte may be. -/
def kindN (b : Nat) : Nat := if 65 ≤ b ∧ b ≤ 90 then 15 else if (97 ≤ b ∧ b ≤ 122) ∨ (48 ≤ b ∧ b ≤ 57) ∨ b ∈ [33, 35, 36, 37, 38, 39, 42, 43, 45, 46, 94, 95, 124, 126, 96] then 7 else if b = 32 then 2 else if b = 13 ∨ b = 10 ∨ b = 0 then 0 else if (32 ≤ b ∧ b ≠ 127) ∨ b = 9 then 6 else 4
/-- The text in block b is read up to k. -/
def Rd (w : World) (b : Nat) (s : ByteArray) (k : Nat) : Prop := ∃ cs : Array Value, w.heap[b]? = some (.cells cs 77 (0, 0)) ∧ cs.size = 258 ∧ cs[0]? = some (.string s) ∧ cs[1]? = some (.int .i64 k) ∧ ∀ c : Nat, c < 256 → cs[2 + c]? = some (.int .u8 (kindN c))
theorem Rd.c0 {w : World} {b : Nat} {s : ByteArray} {k : Nat} (h : Rd w b s k) : w.cell? ⟨b, 0, none⟩ = some (.string s) := by
  obtain ⟨cs, h1, h2, h3, h4, h5⟩ := h; rw [blk_cell h1]; exact h3
theorem Rd.c1 {w : World} {b : Nat} {s : ByteArray} {k : Nat} (h : Rd w b s k) : w.cell? ⟨b, 1, none⟩ = some (.int .i64 k) := by
  obtain ⟨cs, h1, h2, h3, h4, h5⟩ := h; rw [blk_cell h1]; exact h4
theorem Rd.kx {w : World} {b : Nat} {s : ByteArray} {k : Nat} (h : Rd w b s k) (c : Nat) (hc : c < 256) : w.cell? ⟨b, 2 + c, none⟩ = some (.int .u8 (kindN c)) := by
  obtain ⟨cs, h1, h2, h3, h4, h5⟩ := h; rw [blk_cell h1]; exact h5 c hc
theorem Rd.fz {w : World} {b : Nat} {s : ByteArray} {k : Nat} (h : Rd w b s k) (i : Nat) : w.frozen? ⟨b, i, none⟩ = false := by
  obtain ⟨cs, h1, h2, h3, h4, h5⟩ := h; exact blk_fz h1 i
theorem Rd.lt {w : World} {b : Nat} {s : ByteArray} {k : Nat} (h : Rd w b s k) : b < w.heap.size := by
  obtain ⟨cs, h1, _⟩ := h; exact heap_lt h1
theorem Rd.at_ {w w' : World} {b : Nat} {s : ByteArray} {k : Nat} (h : Rd w b s k) (hb : w'.heap[b]? = w.heap[b]?) : Rd w' b s k := by
  obtain ⟨cs, h1, h2⟩ := h; exact ⟨cs, hb.trans h1, h2⟩
theorem Rd.but {w w' : World} {b : Nat} {s : ByteArray} {k : Nat} (h : Rd w b s k) (hb : Below w.heap.size w w') : Rd w' b s k := h.at_ (hb.block b h.lt)
theorem Rd.to {w : World} {b : Nat} {s : ByteArray} {k : Nat} (h : Rd w b s k) (i : Int) (k' : Nat) (hi : i = (k' : Int)) : Rd (w.setCell ⟨b, 1, none⟩ (.int .i64 i)) b s k' := by
  subst hi
  obtain ⟨cs, h1, h2, h3, h4, h5⟩ := h
  refine ⟨cs.setIfInBounds 1 (.int .i64 k'), blk_set h1 1 _, by simp [h2], ?_, ?_, fun c hc => ?_⟩
  · rw [Array.getElem?_setIfInBounds_ne (by omega)]; exact h3
  · rw [Array.getElem?_setIfInBounds_self_of_lt (by omega)]
  · rw [Array.getElem?_setIfInBounds_ne (by omega)]; exact h5 c hc
theorem Rd.drew {w : World} {b : Nat} {s : ByteArray} {k : Nat} (h : Rd w b s k) : Rd w.drew b s k := h
theorem peek_byte (b : Nat) (s : ByteArray) (k : Nat) (w : World) (hr : Rd w b s k) (hk : k < s.size) :
    Calls Tryz.prog 39 #[.pointer (some ⟨b, 0, none⟩)] w fun e w' => e = .returned (.int .u8 (s[k]'hk).toNat) ∧ Below w.heap.size w w' ∧ Rd w' b s k := by
  have h0 := hr.c0
  have h1 := hr.c1
  have hx : ¬ ((s.size : Int) ≤ (k : Int)) := by omega
  have HR := Lib.hid hr
  clear hr
  go_enter Tryz.func39, Tryz.ntmps39
  go_wp2
  go_quiet (fail)
  go_wp2
  go_quiet (fail)
  go_wp2
  go_ret
  refine ⟨?_, Below.drewN (Below.drewN (Below.refl _ _) _) _, HR.out⟩
  · simp
/-- A state of the reading: nothing turned but the reader's block, which is read up to k. -/
def At (b : Nat) (s : ByteArray) (w : World) (k : Nat) (x : World) : Prop := But b w x ∧ Rd x b s k
theorem At.drew {b : Nat} {s : ByteArray} {w x : World} {k : Nat} (h : At b s w k x) : At b s w k x.drew := ⟨h.1.drew, h.2.drew⟩
theorem At.to {b : Nat} {s : ByteArray} {w x y : World} {k : Nat} (h : At b s w k x) (hb : Below x.heap.size x y) : At b s w k y := ⟨h.1.trans (But.of_below hb (Nat.le_refl _)), h.2.but hb⟩
theorem At.step {b : Nat} {s : ByteArray} {w x : World} {k : Nat} (h : At b s w k x) (i : Int) (k' : Nat) (hi : i = (k' : Int)) : At b s w k' (x.setCell ⟨b, 1, none⟩ (.int .i64 i)) := ⟨h.1.setCell 1 _, h.2.to i k' hi⟩
theorem At.facts {b : Nat} {s : ByteArray} {w x : World} {k : Nat} (h : At b s w k x) : At b s w k x ∧ x.cell? ⟨b, 0, none⟩ = some (.string s) ∧ x.cell? ⟨b, 1, none⟩ = some (.int .i64 k) ∧ x.frozen? ⟨b, 1, none⟩ = false := ⟨h, h.2.c0, h.2.c1, h.2.fz 1⟩
theorem peek_at (b : Nat) (s : ByteArray) (w : World) (k : Nat) (hk : k < s.size) (c : Int) (hc : (s[k].toNat : Int) = c) (x : World) (h : At b s w k x) :
    Calls Tryz.prog 39 #[.pointer (some ⟨b, 0, none⟩)] x fun e w' => e = .returned (.int .u8 c) ∧ At b s w k w' := by
  subst hc
  exact Calls.mono (peek_byte b s k x h.2 hk) fun e w' ⟨h1, h2, h3⟩ => ⟨h1, h.to h2⟩

set_option maxHeartbeats 2000000 in
theorem want_at (b : Nat) (s t : ByteArray) (w : World) (k : Nat) (hs : s.size ≤ 70000) (ht : t.size ≤ 100) (hk : k + t.size ≤ s.size) (hw : ∀ i, i < t.size → ∀ (h1 : k + i < s.size) (h2 : i < t.size), s[k + i] = t[i]) (x : World) (h : At b s w k x) :
    Calls Tryz.prog 38 #[.pointer (some ⟨b, 0, none⟩), .string t] x fun e w' => e = .returned (.tuple #[]) ∧ At b s w (k + t.size) w' := by
  have HW := Lib.hid hw
  have H := Lib.hid h
  clear hw h
  go_enter Tryz.func38, Tryz.ntmps38
  go_wp2
  go_loopw [7] (fun n wr => ∃ i j : Nat, i ≤ t.size ∧ j ≤ k + i ∧ k + i ≤ j ∧ n = .int .i64 i ∧ At b s w j wr) (fun n _ => t.size - (RowKit.intOf n).toNat)
  case atStart => exact ⟨0, k, by omega, by omega, by omega, rfl, H.out⟩
  case round =>
    obtain ⟨i, j, hi, hj1, hj2, rfl, hA⟩ := hrel
    obtain ⟨nA, c0, c1, z1⟩ := hA.facts
    clear hA
    by_cases hit : i < t.size
    · have hjs : j < s.size := by omega
      have hit' : (i : Int) < (t.size : Int) := by omega
      have e : s[j] = t[i] := by have h := HW.out i hit (by omega) hit; have e : k + i = j := by omega
                                 subst e; exact h
      have HP := Lib.hid (peek_at b s w j hjs (t[i].toNat : Int) (by rw [e]))
      have e1 : IntKind.i64.wrap ((j : Int) + 1) = (j : Int) + 1 := IntWalk.i64_in _ (by omega)
      clear e
      go_wp2
      go_region_held3 (At b s w j) (first | assumption | exact At.drew (by assumption)) (first
        | (go_at_call 39; have kA := ‹At b s w j _›; with_reducible refine Calls.mono (HP.out _ kA) ?_; rintro e w' ⟨rfl, nA⟩; clear kA))
      all_goals
        obtain ⟨nA, c0, c1, z1⟩ := (‹At b s w j _›).facts
        go_wp2
        go_roundw
        case rel => exact ⟨i + 1, j + 1, by omega, by omega, by omega, by go_num, nA.step _ _ (by omega)⟩
        case measure => simp [RowKit.intOf]; omega
    · have hit' : ¬ (i : Int) < (t.size : Int) := by omega
      obtain rfl : i = t.size := by omega
      obtain rfl : j = k + t.size := by omega
      go_wp2
      exact ⟨rfl, .tuple #[], by simp [results, Tryz.results38, go_sem], rfl, nA⟩
end Go.Proofs.YtpjjkejppgehaaaGreatDoor

/- http's reader: some, on the good way. -/
namespace Go.Proofs.YtpjjkejppgehaaaGreatDoor
set_option linter.unusedSimpArgs false
set_option linter.unusedVariables false
open Go.RowKit

/-- A byte is of a sort. -/
def isSort (of : Nat) (b : UInt8) : Bool := (kindN b.toNat &&& of) != 0
theorem kind_16 (c : Nat) : kindN c < 16 := by
  unfold kindN
  split
  · omega
  split
  · omega
  split
  · omega
  split
  · omega
  split <;> omega
theorem bits_fin : ∀ a : Fin 16, ∀ i : Fin 4, (bits BinOp.and IntKind.u8 (a.val : Int) ((2 ^ i.val : Nat) : Int) == 0) = (a.val &&& 2 ^ i.val == 0) ∧ (bits BinOp.and IntKind.u8 (a.val : Int) ((2 ^ i.val : Nat) : Int) != 0) = (a.val &&& 2 ^ i.val != 0) := by decide +kernel
theorem bits_kind (c of : Nat) (hof : of = 1 ∨ of = 2 ∨ of = 4 ∨ of = 8) : (bits BinOp.and IntKind.u8 (kindN c : Int) (of : Int) == 0) = (kindN c &&& of == 0) ∧ (bits BinOp.and IntKind.u8 (kindN c : Int) (of : Int) != 0) = (kindN c &&& of != 0) := by
  have h := bits_fin ⟨kindN c, kind_16 c⟩
  rcases hof with rfl | rfl | rfl | rfl
  · exact h 0
  · exact h 1
  · exact h 2
  · exact h 3
theorem At.drewN {b : Nat} {s : ByteArray} {w x : World} {k : Nat} (h : At b s w k x) (n : Nat) : At b s w k (x.drewN n) := ⟨⟨h.1.os, h.1.tape, h.1.output, h.1.size, h.1.block⟩, h.2⟩
/-- What a region may read. -/
abbrev SX (b : Nat) (s : ByteArray) (w : World) (k c : Nat) (x : World) : Prop := At b s w k x ∧ x.cell? ⟨b, 0, none⟩ = some (.string s) ∧ x.cell? ⟨b, 1, none⟩ = some (.int .i64 k) ∧ x.cell? ⟨b, 2 + c, none⟩ = some (.int .u8 (kindN c)) ∧ x.frozen? ⟨b, 1, none⟩ = false
theorem SX.of {b : Nat} {s : ByteArray} {w x : World} {k c : Nat} (hc : c < 256) (h : At b s w k x) : SX b s w k c x := ⟨h, h.2.c0, h.2.c1, h.2.kx c hc, h.2.fz 1⟩
theorem SX.drew {b : Nat} {s : ByteArray} {w x : World} {k c : Nat} (h : SX b s w k c x) : SX b s w k c x.drew := ⟨h.1.drew, h.2⟩
theorem peek_sx (b : Nat) (s : ByteArray) (w : World) (k c : Nat) (hc : c < 256) (hk : k < s.size) (hcs : s[k].toNat = c) (x : World) (h : SX b s w k c x) :
    Calls Tryz.prog 39 #[.pointer (some ⟨b, 0, none⟩)] x fun e w' => e = .returned (.int .u8 c) ∧ SX b s w k c w' := by
  refine Calls.mono (peek_byte b s k x h.1.2 hk) ?_
  rintro e w' ⟨h1, h2, h3⟩
  exact ⟨by rw [h1, hcs], SX.of hc (h.1.to h2)⟩
set_option maxHeartbeats 4000000 in
theorem some_at (b : Nat) (s : ByteArray) (w : World) (k j most : Nat) (of : Nat) (hof : of = 1 ∨ of = 2 ∨ of = 4 ∨ of = 8) (hs : s.size ≤ 70000) (hm : most ≤ 70000) (hkj : k < j) (hjs : j ≤ s.size) (hjm : j ≤ k + most) (hin : ∀ i, k ≤ i → i < j → ∀ h : i < s.size, isSort of s[i] = true) (hend : j = k + most ∨ (j < s.size ∧ ∀ h : j < s.size, isSort of s[j] = false)) (x : World) (h : At b s w k x) :
    Calls Tryz.prog 37 #[.pointer (some ⟨b, 0, none⟩), .int .u8 of, .int .i64 most] x fun e w' => e = .returned (.string (s.extract k j)) ∧ At b s w j w' := by
  have HI := Lib.hid hin
  have HE := Lib.hid hend
  obtain ⟨nA, c0, c1, z1⟩ := h.facts
  clear hin hend h
  go_enter Tryz.func37, Tryz.ntmps37
  go_wp2
  go_loopg [] (j - k) (fun g wr => ∃ q : Nat, k ≤ q ∧ q ≤ j ∧ g ≤ j - q ∧ j - q ≤ g ∧ At b s w q wr)
  case atStart => exact ⟨k, by omega, by omega, by omega, by omega, nA⟩
  case round =>
    clear nA c0 c1 z1
    obtain ⟨q, hq1, hq2, hg1, hg2, hA⟩ := hrel
    obtain ⟨nA, c0, c1, z1⟩ := hA.facts
    clear hA
    have e2 : IntKind.i64.wrap ((q : Int) - (k : Int)) = (q : Int) - (k : Int) := IntWalk.i64_in _ (by omega)
    by_cases hqj : q < j
    · have hqs : q < s.size := by omega
      have hlt : (q : Int) - (k : Int) < (most : Int) := by omega
      obtain ⟨c, hc⟩ : ∃ c, s[q].toNat = c := ⟨_, rfl⟩
      have hc256 : c < 256 := by have := s[q].toNat_lt; omega
      have HP := Lib.hid (peek_sx b s w q c hc256 hqs hc)
      have hS := HI.out q hq1 hqj hqs
      unfold isSort at hS
      rw [hc] at hS
      have hb : (bits BinOp.and IntKind.u8 (kindN c : Int) (of : Int) == 0) = false := by rw [(bits_kind c of hof).1]; simpa using hS
      have e1 : IntKind.i64.wrap ((q : Int) + 1) = (q : Int) + 1 := IntWalk.i64_in _ (by omega)
      have hc1 : (c : Int) < 256 := by omega
      have nX := SX.of hc256 nA
      clear hS nA c0 c1 z1
      go_wp2
      go_region_held3 (SX b s w q c) (first | assumption | exact SX.drew (by assumption)) (first
        | (go_at_call 39; have kA := ‹SX b s w q c _›; with_reducible refine Calls.mono (HP.out _ kA) ?_; rintro e w' ⟨rfl, nX⟩; clear kA))
      all_goals
        clear nX
        obtain ⟨nA, c0, c1, c2, z1⟩ := ‹SX b s w q c _›
        go_wp2
        go_roundg (j - (q + 1))
        case measure => omega
        case rel => exact ⟨q + 1, by omega, by omega, by omega, by omega, nA.step _ _ (by omega)⟩
    · obtain rfl : q = j := by omega
      have hne : ((q : Int) == (k : Int)) = false := by rw [beq_eq_false_iff_ne]; omega
      have w1 : (0 : Int) ≤ (k : Int) := by omega
      have w2 : (k : Int) ≤ (q : Int) := by omega
      have w3 : (q : Int) ≤ (s.size : Int) := by omega
      rcases HE.out with hend | ⟨hqs, hS⟩
      · have hlt : ¬ (q : Int) - (k : Int) < (most : Int) := by omega
        clear hend
        have HA := Lib.hid nA
        clear nA
        go_wp2
        go_quiet (fail)
        go_wp2
        go_ret
        exact ⟨rfl, HA.out.drewN _⟩
      · by_cases hlt0 : q = k + most
        · have hlt : ¬ (q : Int) - (k : Int) < (most : Int) := by omega
          clear hlt0
          have HA := Lib.hid nA
          clear nA
          go_wp2
          go_quiet (fail)
          go_wp2
          go_ret
          exact ⟨rfl, HA.out.drewN _⟩
        · have hlt : (q : Int) - (k : Int) < (most : Int) := by omega
          obtain ⟨c, hc⟩ : ∃ c, s[q].toNat = c := ⟨_, rfl⟩
          have hc256 : c < 256 := by have := s[q].toNat_lt; omega
          have HP := Lib.hid (peek_sx b s w q c hc256 hqs hc)
          have hS := hS hqs
          unfold isSort at hS
          rw [hc] at hS
          have hb : (bits BinOp.and IntKind.u8 (kindN c : Int) (of : Int) == 0) = true := by rw [(bits_kind c of hof).1]; simpa using hS
          have hc1 : (c : Int) < 256 := by omega
          have nX := SX.of hc256 nA
          clear hS nA c0 c1 z1
          go_wp2
          go_region_held3 (SX b s w q c) (first | assumption | exact SX.drew (by assumption)) (first
            | (go_at_call 39; have kA := ‹SX b s w q c _›; with_reducible refine Calls.mono (HP.out _ kA) ?_; rintro e w' ⟨rfl, nX⟩; clear kA))
          all_goals
            clear nX
            obtain ⟨nA, c0, c1, c2, z1⟩ := ‹SX b s w q c _›
            have HA := Lib.hid nA
            clear nA
            go_wp2
            go_quiet (fail)
            go_wp2
            go_ret
            exact ⟨rfl, HA.out.drewN _⟩
end Go.Proofs.YtpjjkejppgehaaaGreatDoor

/- Small letters: http.Small and the document's own. -/
namespace Go.Proofs.YtpjjkejppgehaaaGreatDoor
set_option linter.unusedSimpArgs false
set_option linter.unusedVariables false
open Go.RowKit

/-- A letter in small. -/
def smallN (c : Nat) : Nat := if 65 ≤ c ∧ c ≤ 90 then c + 32 else c
/-- The small text's letters, as numbers. -/
def smallI (s : ByteArray) : List Int := s.data.toList.map fun c => (smallN c.toNat : Int)
def smallB (s : ByteArray) : ByteArray := strOfNums (smallI s)
theorem smallI_length (s : ByteArray) : (smallI s).length = s.size := by simp [smallI]
theorem smallI_at (s : ByteArray) (i : Nat) (h : i < s.size) : (smallI s).getD i 0 = (smallN s[i].toNat : Int) := by
  have h' : i < s.data.toList.length := by simpa using h
  simp only [smallI, List.getD, List.getElem?_map, List.getElem?_eq_getElem h', Option.map_some, Option.getD_some]
  rfl
/-- The bytes in block g are small up to i. -/
def Sm (w : World) (g : Nat) (s : ByteArray) (i : Nat) : Prop := ∃ (cs : Array Value) (fz : Nat × Nat), w.heap[g]? = some (.cells cs 5 fz) ∧ s.size ≤ cs.size ∧ s.size ≤ fz.1 ∧ ∀ j, (h : j < s.size) → cs[j]? = some (.int .u8 ((if j < i then smallN s[j].toNat else s[j].toNat : Nat) : Int))
theorem Sm.cell {w : World} {g : Nat} {s : ByteArray} {i : Nat} (h : Sm w g s i) (j : Nat) (hj : j < s.size) : w.cell? ⟨g, j, none⟩ = some (.int .u8 ((if j < i then smallN s[j].toNat else s[j].toNat : Nat) : Int)) := by
  obtain ⟨cs, fz, h1, h2, h3, h4⟩ := h
  simp [World.cell?, h1, h4 j hj]
theorem Sm.fz {w : World} {g : Nat} {s : ByteArray} {i : Nat} (h : Sm w g s i) (j : Nat) (hj : j < s.size) : w.frozen? ⟨g, j, none⟩ = false := by
  obtain ⟨cs, fz, h1, h2, h3, h4⟩ := h
  simp [World.frozen?, h1]
  omega
theorem Sm.lt {w : World} {g : Nat} {s : ByteArray} {i : Nat} (h : Sm w g s i) : g < w.heap.size := by obtain ⟨cs, fz, h1, _⟩ := h; exact heap_lt h1
theorem Sm.skip {w : World} {g : Nat} {s : ByteArray} {i : Nat} (h : Sm w g s i) (hi : i < s.size) (he : smallN s[i].toNat = s[i].toNat) : Sm w g s (i + 1) := by
  obtain ⟨cs, fz, h1, h2, h3, h4⟩ := h
  refine ⟨cs, fz, h1, h2, h3, fun j hj => ?_⟩
  rw [h4 j hj]
  by_cases e : j = i
  · subst e; simp [he]
  · by_cases l : j < i
    · rw [if_pos l, if_pos (by omega)]
    · rw [if_neg l, if_neg (by omega)]
theorem Sm.set {w : World} {g : Nat} {s : ByteArray} {i : Nat} (h : Sm w g s i) (hi : i < s.size) (v : Int) (hv : v = (smallN s[i].toNat : Int)) : Sm (w.setCell ⟨g, i, none⟩ (.int .u8 v)) g s (i + 1) := by
  subst hv
  obtain ⟨cs, fz, h1, h2, h3, h4⟩ := h
  refine ⟨cs.setIfInBounds i (.int .u8 (smallN s[i].toNat)), fz, ?_, by simpa using h2, h3, fun j hj => ?_⟩
  · simp only [World.setCell, Array.getElem?_modify, h1]
    simp
  · by_cases e : j = i
    · subst e
      rw [Array.getElem?_setIfInBounds_self_of_lt (by omega), if_pos (by omega)]
    · rw [Array.getElem?_setIfInBounds_ne (by omega), h4 j hj]
      by_cases l : j < i
      · rw [if_pos l, if_pos (by omega)]
      · rw [if_neg l, if_neg (by omega)]
theorem Sm.new (w : World) (s : ByteArray) : Sm (Lib.bytesWorld w 5 s) w.heap.size s 0 := by
  have hsz : (Lib.bytesCells w 5 s).size = s.size + (grownCap w s.size 0 5 - s.size) := by simp [Lib.bytesCells]
  refine ⟨_, _, Lib.bytesWorld_at_new w 5 s, by omega, by show s.size ≤ (Lib.bytesCells w 5 s).size; omega, fun j hj => ?_⟩
  have h := Lib.bytesWorld_cell w 5 s j hj
  have hg : (Lib.bytesWorld w 5 s).cell? ⟨w.heap.size, j, none⟩ = (Lib.bytesCells w 5 s)[j]? := by simp [World.cell?, Lib.bytesWorld_at_new]
  rw [← hg, h, if_neg (by omega)]
  have h' : j < s.data.toList.length := by simpa using hj
  simp only [List.getD, List.getElem?_eq_getElem h', Option.getD_some]
  rfl
theorem bytes_below (w : World) (s : ByteArray) : Below w.heap.size w (Lib.bytesWorld w 5 s) := ⟨rfl, rfl, rfl, by rw [Lib.bytesWorld_size]; omega, fun k hk => Lib.bytesWorld_at_old w 5 s k hk⟩

set_option maxHeartbeats 4000000 in
theorem small_any (s : ByteArray) (hs : s.size ≤ 1000000) (w : World) : Calls Tryz.prog 28 #[.string s] w fun e w' => e = .returned (.string (smallB s)) ∧ Below w.heap.size w w' := by
  have hconv := Lib.run_convert_string_bytes (P := Tryz.prog) w 9 47 5 s Tryz.underlying9 Tryz.underlying47 Tryz.underlying5
  have HN := Lib.hid (Sm.new w s)
  have HB := Lib.hid (bytes_below w s)
  generalize Lib.bytesWorld w 5 s = W0 at hconv HN HB
  generalize grownCap w s.size 0 5 = cap at hconv
  go_enter Tryz.func28, Tryz.ntmps28
  go_wp2
  go_loopw [9] (fun n wr => ∃ i : Nat, i ≤ s.size ∧ n = .int .i64 i ∧ Sm wr w.heap.size s i ∧ Below w.heap.size w wr) (fun n _ => s.size - (RowKit.intOf n).toNat)
  case atStart => exact ⟨0, by omega, rfl, HN.out, HB.out⟩
  case round =>
    obtain ⟨i, hi, rfl, hS, hB⟩ := hrel
    have nS := Lib.hid hS
    have nB := Lib.hid hB
    clear hS hB
    by_cases hit : i < s.size
    · have hit' : (i : Int) < (s.size : Int) := by omega
      have c0 := nS.out.cell i hit
      have z0 := nS.out.fz i hit
      rw [if_neg (by omega)] at c0
      by_cases hu : 65 ≤ s[i].toNat ∧ s[i].toNat ≤ 90
      · have u1 : (65 : Int) ≤ (s[i].toNat : Int) := by omega
        have u2 : (s[i].toNat : Int) ≤ 90 := by omega
        have e1 : IntKind.u8.wrap ((s[i].toNat : Int) + 32) = (s[i].toNat : Int) + 32 := IntWalk.u8_in _ (by omega)
        have HV : Hid (((s[i].toNat : Int) + 32) = (smallN s[i].toNat : Int)) := by show _ = _; unfold smallN; rw [if_pos hu]; omega
        clear hu
        go_wp2
        go_roundw
        case rel => exact ⟨i + 1, by omega, by go_num, nS.out.set hit _ HV.out, nB.out.setCell (Nat.le_refl _) _⟩
        case measure => simp [RowKit.intOf]; omega
      · have HV : Hid (smallN s[i].toNat = s[i].toNat) := by show _ = _; unfold smallN; rw [if_neg hu]
        by_cases h1 : 65 ≤ s[i].toNat
        · have u1 : (65 : Int) ≤ (s[i].toNat : Int) := by omega
          have u2 : ¬ (s[i].toNat : Int) ≤ 90 := by omega
          clear hu h1
          go_wp2
          go_roundw
          case rel => exact ⟨i + 1, by omega, by go_num, nS.out.skip hit HV.out, nB.out⟩
          case measure => simp [RowKit.intOf]; omega
        · have u1 : ¬ (65 : Int) ≤ (s[i].toNat : Int) := by omega
          clear hu h1
          go_wp2
          go_roundw
          case rel => exact ⟨i + 1, by omega, by go_num, nS.out.skip hit HV.out, nB.out⟩
          case measure => simp [RowKit.intOf]; omega
    · have hit' : ¬ (i : Int) < (s.size : Int) := by omega
      obtain rfl : i = s.size := by omega
      have hback := run_convert_bytes_arg (P := Tryz.prog) wr 47 5 Tryz.underlying47 Tryz.underlying5 w.heap.size 0 s.size cap (smallI s) (smallI_length s) (fun j hj => by rw [Nat.zero_add, nS.out.cell j hj, if_pos hj, smallI_at s j hj]) 9 Tryz.underlying9
      clear hit
      go_wp2
      go_ret
      exact ⟨rfl, nB.out⟩
end Go.Proofs.YtpjjkejppgehaaaGreatDoor

/- Small letters: the document's own. -/
namespace Go.Proofs.YtpjjkejppgehaaaGreatDoor
set_option linter.unusedSimpArgs false
set_option linter.unusedVariables false
open Go.RowKit

/-- The first i letters, in small. -/
def smallT (s : ByteArray) (i : Nat) : ByteArray := strOfNums ((smallI s).take i)
theorem smallT_0 (s : ByteArray) : smallT s 0 = ⟨#[]⟩ := rfl
theorem smallT_all (s : ByteArray) : smallT s s.size = smallB s := by unfold smallT smallB; rw [← smallI_length s, List.take_length]
theorem smallT_next (s : ByteArray) (i : Nat) (h : i < s.size) : smallT s i ++ strOfNums [(smallN s[i].toNat : Int)] = smallT s (i + 1) := by
  have hl : i < (smallI s).length := by rw [smallI_length]; exact h
  have e : (smallI s).take (i + 1) = (smallI s).take i ++ [(smallN s[i].toNat : Int)] := by
    rw [List.take_add_one, List.getElem?_eq_getElem hl]
    have := smallI_at s i h
    simp only [List.getD, List.getElem?_eq_getElem hl, Option.getD_some] at this
    rw [this]
    rfl
  unfold smallT
  rw [e]
  apply ByteArray.ext
  simp [strOfNums]
theorem smallT_size (s : ByteArray) (i : Nat) : (smallT s i).size ≤ s.size := by
  unfold smallT
  rw [strOfNums_size, List.length_take, smallI_length]
  omega
set_option maxRecDepth 20000 in
set_option maxHeartbeats 4000000 in
theorem ref_small_any (s : ByteArray) (hs : s.size ≤ 1000000) (w : World) : Calls Tryz.prog 15 #[.string s] w fun e w' => e = .returned (.string (smallB s)) ∧ Below w.heap.size w w' := by
  go_enter Tryz.func15, Tryz.ntmps15
  go_wp2
  go_loopw [3, 4] (fun t n wr => ∃ i : Nat, i ≤ s.size ∧ t = .string (smallT s i) ∧ n = .int .i64 i ∧ Below w.heap.size w wr) (fun _ n _ => s.size - (RowKit.intOf n).toNat)
  case atStart => exact ⟨0, by omega, by rw [smallT_0], rfl, Below.refl _ _⟩
  case round =>
    obtain ⟨i, hi, rfl, rfl, hB⟩ := hrel
    have nB := Lib.hid hB
    clear hB
    by_cases hit : i < s.size
    · have hit' : (i : Int) < (s.size : Int) := by omega
      have hsz := smallT_size s i
      have HN := Lib.hid (smallT_next s i hit)
      have hone : (strOfNums [(smallN s[i].toNat : Int)]).size = 1 := rfl
      have hc := run_convert_bytes_arg (P := Tryz.prog) (wr.alloc (.cells #[.int .u8 (smallN s[i].toNat : Int)] 5)) 47 5 Tryz.underlying47 Tryz.underlying5 wr.heap.size 0 1 1 [(smallN s[i].toNat : Int)] rfl (fun j hj => by
        obtain rfl : j = 0 := by omega
        simp) 9 Tryz.underlying9
      by_cases hu : 65 ≤ s[i].toNat ∧ s[i].toNat ≤ 90
      · have u1 : (65 : Int) ≤ (s[i].toNat : Int) := by omega
        have u2 : (s[i].toNat : Int) ≤ 90 := by omega
        have e1 : IntKind.u8.wrap ((s[i].toNat : Int) + 32) = (smallN s[i].toNat : Int) := by rw [IntWalk.u8_in _ (by omega)]; unfold smallN; rw [if_pos hu]; omega
        clear hu
        go_wp2
        go_roundw
        case rel => exact ⟨i + 1, by omega, by rw [HN.out], by go_num, nB.out.alloc nB.out.size _⟩
        case measure => simp [RowKit.intOf]; omega
      · have e0 : smallN s[i].toNat = s[i].toNat := by unfold smallN; rw [if_neg hu]
        rw [e0] at HN hone hc
        by_cases h1 : 65 ≤ s[i].toNat
        · have u1 : (65 : Int) ≤ (s[i].toNat : Int) := by omega
          have u2 : ¬ (s[i].toNat : Int) ≤ 90 := by omega
          clear hu h1 e0
          go_wp2
          go_roundw
          case rel => exact ⟨i + 1, by omega, by rw [HN.out], by go_num, nB.out.alloc nB.out.size _⟩
          case measure => simp [RowKit.intOf]; omega
        · have u1 : ¬ (65 : Int) ≤ (s[i].toNat : Int) := by omega
          clear hu h1 e0
          go_wp2
          go_roundw
          case rel => exact ⟨i + 1, by omega, by rw [HN.out], by go_num, nB.out.alloc nB.out.size _⟩
          case measure => simp [RowKit.intOf]; omega
    · have hit' : ¬ (i : Int) < (s.size : Int) := by omega
      obtain rfl : i = s.size := by omega
      clear hit
      go_wp2
      go_ret
      exact ⟨by rw [smallT_all]; rfl, nB.out⟩
end Go.Proofs.YtpjjkejppgehaaaGreatDoor
