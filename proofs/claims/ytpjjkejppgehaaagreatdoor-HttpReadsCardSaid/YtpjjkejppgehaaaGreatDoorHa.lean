/- http's reader: what a byte may be; peek, want, some on the good way. -/
import Derived.Test.YtpjjkejppgehaaaGreatDoorFlt
import Derived.Test.YtpjjkejppgehaaaGreatDoorShelf
import Derived.WalkKit
import Derived.Defers
import Derived.Recover
import Derived.BigRegion
import Derived.BigQuiet
import Derived.RegionDies
import Derived.Deep.RegionLaw
import Derived.Deep.RegionHeld3
import Derived.Deep.AppendLies
import Derived.KernelRfl
import Derived.Lib.Hide
namespace Go.Proofs.YtpjjkejppgehaaaGreatDoor
set_option linter.unusedSimpArgs false
set_option linter.unusedVariables false
open Go.RowKit

/-- Nothing that was there turns, but block b. -/
structure But (b : Nat) (w w' : World) : Prop where
  os : w'.os = w.os
  tape : w'.tape = w.tape
  output : w'.output = w.output
  size : w.heap.size ≤ w'.heap.size
  block : ∀ k, k < w.heap.size → k ≠ b → w'.heap[k]? = w.heap[k]?
theorem But.refl (b : Nat) (w : World) : But b w w := ⟨rfl, rfl, rfl, Nat.le_refl _, fun _ _ _ => rfl⟩
theorem But.trans {b : Nat} {x y z : World} (h : But b x y) (k : But b y z) : But b x z :=
  ⟨k.os.trans h.os, k.tape.trans h.tape, k.output.trans h.output, Nat.le_trans h.size k.size, fun i hi hb => (k.block i (Nat.lt_of_lt_of_le hi h.size) hb).trans (h.block i hi hb)⟩
theorem But.of_below {b n : Nat} {w w' : World} (h : Below n w w') (hn : w.heap.size ≤ n) : But b w w' :=
  ⟨h.os, h.tape, h.output, h.size, fun k hk _ => h.block k (by omega)⟩
theorem But.below {b n : Nat} {w w' : World} (h : But b w w') (hb : n ≤ b) (hn : n ≤ w.heap.size) : Below n w w' :=
  ⟨h.os, h.tape, h.output, h.size, fun k hk => h.block k (by omega) (by omega)⟩
theorem But.drew {b : Nat} {w w' : World} (h : But b w w') : But b w w'.drew := ⟨h.os, h.tape, h.output, h.size, h.block⟩
theorem Below.drewN {B : Nat} {a w : World} (h : Below B a w) (n : Nat) : Below B a (w.drewN n) := ⟨h.os, h.tape, h.output, h.size, h.block⟩
theorem But.alloc {b : Nat} {w w' : World} (h : But b w w') (o : Obj) : But b w (w'.alloc o) :=
  h.trans (But.of_below ((Below.refl w'.heap.size w').alloc (Nat.le_refl _) o) (Nat.le_refl _))
theorem But.setCell {b : Nat} {w w' : World} (h : But b w w') (i : Nat) (v : Value) : But b w (w'.setCell ⟨b, i, none⟩ v) :=
  h.trans ⟨rfl, rfl, rfl, by simp [World.setCell], fun k _ hb => Below.heap_setCell _ _ _ _ hb⟩
theorem But.cell {b : Nat} {w w' : World} (h : But b w w') {p : Addr} {v : Value} (hp : p.block ≠ b) (hv : w.cell? p = some v) : w'.cell? p = some v := by
  have hl := World.block_lt_of_cell? w p hv
  simpa [World.cell?, h.block p.block hl hp] using hv

theorem blk_cell {w : World} {n : Nat} {cs : Array Value} {t : TypeId} (h : w.heap[n]? = some (.cells cs t (0, 0))) (i : Nat) : w.cell? ⟨n, i, none⟩ = cs[i]? := by simp [World.cell?, h]
theorem blk_fz {w : World} {n : Nat} {cs : Array Value} {t : TypeId} (h : w.heap[n]? = some (.cells cs t (0, 0))) (i : Nat) : w.frozen? ⟨n, i, none⟩ = false := by simp [World.frozen?, h]
theorem blk_set {w : World} {n : Nat} {cs : Array Value} {t : TypeId} (h : w.heap[n]? = some (.cells cs t (0, 0))) (i : Nat) (v : Value) : (w.setCell ⟨n, i, none⟩ v).heap[n]? = some (.cells (cs.setIfInBounds i v) t (0, 0)) := by
  simp only [World.setCell, Array.getElem?_modify, h]
  simp
theorem But.setNew {b : Nat} {w w' : World} (h : But b w w') {n : Nat} (hn : w.heap.size ≤ n) (i : Nat) (v : Value) : But b w (w'.setCell ⟨n, i, none⟩ v) :=
  ⟨h.os, h.tape, h.output, by simpa [World.setCell] using h.size, fun k hk hb => (Below.heap_setCell _ _ _ _ (by show k ≠ n; omega)).trans (h.block k hk hb)⟩

theorem below_to {w x y : World} (h : Below w.heap.size w x) (k : Below x.heap.size x y) : Below w.heap.size w y := h.trans (k.mono h.size)
theorem below_blk {w w' : World} {n : Nat} {o : Obj} (hb : Below w.heap.size w w') (h : w.heap[n]? = some o) : w'.heap[n]? = some o := (hb.block n (heap_lt h)).trans h
/-- What a byte may be. -/
def kindN (b : Nat) : Nat := if 65 ≤ b ∧ b ≤ 90 then 15 else if (97 ≤ b ∧ b ≤ 122) ∨ (48 ≤ b ∧ b ≤ 57) ∨ b ∈ [33, 35, 36, 37, 38, 39, 42, 43, 45, 46, 94, 95, 124, 126, 96] then 7 else if b = 32 then 2 else if b = 13 ∨ b = 10 ∨ b = 0 then 0 else if (32 ≤ b ∧ b ≠ 127) ∨ b = 9 then 6 else 4
/-- The text in block b is read up to k. -/
def Rd (w : World) (b : Nat) (s : ByteArray) (k : Nat) : Prop := ∃ cs : Array Value, w.heap[b]? = some (.cells cs 77 (0, 0)) ∧ cs.size = 258 ∧ cs[0]? = some (.string s) ∧ cs[1]? = some (.int .i64 k) ∧ ∀ c : Nat, c < 256 → cs[2 + c]? = some (.int .u8 (kindN c))
theorem Rd.c0 {w : World} {b : Nat} {s : ByteArray} {k : Nat} (h : Rd w b s k) : w.cell? ⟨b, 0, none⟩ = some (.string s) := by
  obtain ⟨cs, h1, h2, h3, h4, h5⟩ := h; rw [blk_cell h1]; exact h3
theorem Rd.c1 {w : World} {b : Nat} {s : ByteArray} {k : Nat} (h : Rd w b s k) : w.cell? ⟨b, 1, none⟩ = some (.int .i64 k) := by
  obtain ⟨cs, h1, h2, h3, h4, h5⟩ := h; rw [blk_cell h1]; exact h4
theorem Rd.kx {w : World} {b : Nat} {s : ByteArray} {k : Nat} (h : Rd w b s k) (c : Nat) (hc : c < 256) : w.cell? ⟨b, 2 + c, none⟩ = some (.int .u8 (kindN c)) := by
  obtain ⟨cs, h1, h2, h3, h4, h5⟩ := h; rw [blk_cell h1]; exact h5 c hc
theorem Rd.fz {w : World} {b : Nat} {s : ByteArray} {k : Nat} (h : Rd w b s k) (i : Nat) : w.frozen? ⟨b, i, none⟩ = false := by
  obtain ⟨cs, h1, h2, h3, h4, h5⟩ := h; exact blk_fz h1 i
theorem Rd.lt {w : World} {b : Nat} {s : ByteArray} {k : Nat} (h : Rd w b s k) : b < w.heap.size := by
  obtain ⟨cs, h1, _⟩ := h; exact heap_lt h1
theorem Rd.at_ {w w' : World} {b : Nat} {s : ByteArray} {k : Nat} (h : Rd w b s k) (hb : w'.heap[b]? = w.heap[b]?) : Rd w' b s k := by
  obtain ⟨cs, h1, h2⟩ := h; exact ⟨cs, hb.trans h1, h2⟩
theorem Rd.but {w w' : World} {b : Nat} {s : ByteArray} {k : Nat} (h : Rd w b s k) (hb : Below w.heap.size w w') : Rd w' b s k := h.at_ (hb.block b h.lt)
theorem Rd.to {w : World} {b : Nat} {s : ByteArray} {k : Nat} (h : Rd w b s k) (i : Int) (k' : Nat) (hi : i = (k' : Int)) : Rd (w.setCell ⟨b, 1, none⟩ (.int .i64 i)) b s k' := by
  subst hi
  obtain ⟨cs, h1, h2, h3, h4, h5⟩ := h
  refine ⟨cs.setIfInBounds 1 (.int .i64 k'), blk_set h1 1 _, by simp [h2], ?_, ?_, fun c hc => ?_⟩
  · rw [Array.getElem?_setIfInBounds_ne (by omega)]; exact h3
  · rw [Array.getElem?_setIfInBounds_self_of_lt (by omega)]
  · rw [Array.getElem?_setIfInBounds_ne (by omega)]; exact h5 c hc
theorem Rd.drew {w : World} {b : Nat} {s : ByteArray} {k : Nat} (h : Rd w b s k) : Rd w.drew b s k := h
theorem peek_byte (b : Nat) (s : ByteArray) (k : Nat) (w : World) (hr : Rd w b s k) (hk : k < s.size) :
    Calls Tryz.prog 39 #[.pointer (some ⟨b, 0, none⟩)] w fun e w' => e = .returned (.int .u8 (s[k]'hk).toNat) ∧ Below w.heap.size w w' ∧ Rd w' b s k := by
  have h0 := hr.c0
  have h1 := hr.c1
  have hx : ¬ ((s.size : Int) ≤ (k : Int)) := by omega
  have HR := Lib.hid hr
  clear hr
  go_enter Tryz.func39, Tryz.ntmps39
  go_wp2
  go_quiet (fail)
  go_wp2
  go_quiet (fail)
  go_wp2
  go_ret
  refine ⟨?_, Below.drewN (Below.drewN (Below.refl _ _) _) _, HR.out⟩
  · simp
/-- A state of the reading: nothing turned but the reader's block, which is read up to k. -/
def At (b : Nat) (s : ByteArray) (w : World) (k : Nat) (x : World) : Prop := But b w x ∧ Rd x b s k
theorem At.drew {b : Nat} {s : ByteArray} {w x : World} {k : Nat} (h : At b s w k x) : At b s w k x.drew := ⟨h.1.drew, h.2.drew⟩
theorem At.to {b : Nat} {s : ByteArray} {w x y : World} {k : Nat} (h : At b s w k x) (hb : Below x.heap.size x y) : At b s w k y := ⟨h.1.trans (But.of_below hb (Nat.le_refl _)), h.2.but hb⟩
theorem At.step {b : Nat} {s : ByteArray} {w x : World} {k : Nat} (h : At b s w k x) (i : Int) (k' : Nat) (hi : i = (k' : Int)) : At b s w k' (x.setCell ⟨b, 1, none⟩ (.int .i64 i)) := ⟨h.1.setCell 1 _, h.2.to i k' hi⟩
theorem At.facts {b : Nat} {s : ByteArray} {w x : World} {k : Nat} (h : At b s w k x) : At b s w k x ∧ x.cell? ⟨b, 0, none⟩ = some (.string s) ∧ x.cell? ⟨b, 1, none⟩ = some (.int .i64 k) ∧ x.frozen? ⟨b, 1, none⟩ = false := ⟨h, h.2.c0, h.2.c1, h.2.fz 1⟩
theorem peek_at (b : Nat) (s : ByteArray) (w : World) (k : Nat) (hk : k < s.size) (c : Int) (hc : (s[k].toNat : Int) = c) (x : World) (h : At b s w k x) :
    Calls Tryz.prog 39 #[.pointer (some ⟨b, 0, none⟩)] x fun e w' => e = .returned (.int .u8 c) ∧ At b s w k w' := by
  subst hc
  exact Calls.mono (peek_byte b s k x h.2 hk) fun e w' ⟨h1, h2, h3⟩ => ⟨h1, h.to h2⟩

set_option maxHeartbeats 2000000 in
theorem want_at (b : Nat) (s t : ByteArray) (w : World) (k : Nat) (hs : s.size ≤ 70000) (ht : t.size ≤ 100) (hk : k + t.size ≤ s.size) (hw : ∀ i, i < t.size → ∀ (h1 : k + i < s.size) (h2 : i < t.size), s[k + i] = t[i]) (x : World) (h : At b s w k x) :
    Calls Tryz.prog 38 #[.pointer (some ⟨b, 0, none⟩), .string t] x fun e w' => e = .returned (.tuple #[]) ∧ At b s w (k + t.size) w' := by
  have HW := Lib.hid hw
  have H := Lib.hid h
  clear hw h
  go_enter Tryz.func38, Tryz.ntmps38
  go_wp2
  go_loopw [7] (fun n wr => ∃ i j : Nat, i ≤ t.size ∧ j ≤ k + i ∧ k + i ≤ j ∧ n = .int .i64 i ∧ At b s w j wr) (fun n _ => t.size - (RowKit.intOf n).toNat)
  case atStart => exact ⟨0, k, by omega, by omega, by omega, rfl, H.out⟩
  case round =>
    obtain ⟨i, j, hi, hj1, hj2, rfl, hA⟩ := hrel
    obtain ⟨nA, c0, c1, z1⟩ := hA.facts
    clear hA
    by_cases hit : i < t.size
    · have hjs : j < s.size := by omega
      have hit' : (i : Int) < (t.size : Int) := by omega
      have e : s[j] = t[i] := by have h := HW.out i hit (by omega) hit; have e : k + i = j := by omega
                                 subst e; exact h
      have HP := Lib.hid (peek_at b s w j hjs (t[i].toNat : Int) (by rw [e]))
      have e1 : IntKind.i64.wrap ((j : Int) + 1) = (j : Int) + 1 := IntWalk.i64_in _ (by omega)
      clear e
      go_wp2
      go_region_held3 (At b s w j) (first | assumption | exact At.drew (by assumption)) (first
        | (go_at_call 39; have kA := ‹At b s w j _›; with_reducible refine Calls.mono (HP.out _ kA) ?_; rintro e w' ⟨rfl, nA⟩; clear kA))
      all_goals
        obtain ⟨nA, c0, c1, z1⟩ := (‹At b s w j _›).facts
        go_wp2
        go_roundw
        case rel => exact ⟨i + 1, j + 1, by omega, by omega, by omega, by go_num, nA.step _ _ (by omega)⟩
        case measure => simp [RowKit.intOf]; omega
    · have hit' : ¬ (i : Int) < (t.size : Int) := by omega
      obtain rfl : i = t.size := by omega
      obtain rfl : j = k + t.size := by omega
      go_wp2
      exact ⟨rfl, .tuple #[], by simp [results, Tryz.results38, go_sem], rfl, nA⟩
end Go.Proofs.YtpjjkejppgehaaaGreatDoor
