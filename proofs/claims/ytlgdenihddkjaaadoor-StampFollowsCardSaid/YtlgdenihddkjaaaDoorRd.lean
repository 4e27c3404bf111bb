import Derived.Test.YtlgdenihddkjaaaDoorFlt
import Derived.Test.YtlgdenihddkjaaaDoorShelf
import Derived.WalkKit
import Derived.Defers
import Derived.Recover
import Derived.BigRegion
import Derived.BigQuiet
import Derived.RegionDies
namespace Go.Proofs.YtlgdenihddkjaaaDoor
set_option linter.unusedSimpArgs false
set_option linter.unusedVariables false
open Go.RowKit

/-- The text in block b is read up to k. -/
def Rd (w : World) (b : Nat) (s : ByteArray) (k : Nat) : Prop := w.heap[b]? = some (.cells #[.string s, .int .i64 k] 51 (0, 0))
/-- Nothing that was there turns, but block b. -/
structure But (b : Nat) (w w' : World) : Prop where
  os : w'.os = w.os
  tape : w'.tape = w.tape
  output : w'.output = w.output
  size : w.heap.size ≤ w'.heap.size
  block : ∀ k, k < w.heap.size → k ≠ b → w'.heap[k]? = w.heap[k]?
theorem But.refl (b : Nat) (w : World) : But b w w := ⟨rfl, rfl, rfl, Nat.le_refl _, fun _ _ _ => rfl⟩
theorem But.trans {b : Nat} {x y z : World} (h : But b x y) (k : But b y z) : But b x z :=
  ⟨k.os.trans h.os, k.tape.trans h.tape, k.output.trans h.output, Nat.le_trans h.size k.size, fun i hi hb => (k.block i (Nat.lt_of_lt_of_le hi h.size) hb).trans (h.block i hi hb)⟩
theorem But.of_below {b n : Nat} {w w' : World} (h : Below n w w') (hn : w.heap.size ≤ n) : But b w w' :=
  ⟨h.os, h.tape, h.output, h.size, fun k hk _ => h.block k (by omega)⟩
theorem But.below {b n : Nat} {w w' : World} (h : But b w w') (hb : n ≤ b) (hn : n ≤ w.heap.size) : Below n w w' :=
  ⟨h.os, h.tape, h.output, h.size, fun k hk => h.block k (by omega) (by omega)⟩
theorem But.drew {b : Nat} {w w' : World} (h : But b w w') : But b w w'.drew := ⟨h.os, h.tape, h.output, h.size, h.block⟩
theorem Below.drewN {B : Nat} {a w : World} (h : Below B a w) (n : Nat) : Below B a (w.drewN n) := ⟨h.os, h.tape, h.output, h.size, h.block⟩
theorem But.alloc {b : Nat} {w w' : World} (h : But b w w') (o : Obj) : But b w (w'.alloc o) :=
  h.trans (But.of_below ((Below.refl w'.heap.size w').alloc (Nat.le_refl _) o) (Nat.le_refl _))
theorem But.setCell {b : Nat} {w w' : World} (h : But b w w') (i : Nat) (v : Value) : But b w (w'.setCell ⟨b, i, none⟩ v) :=
  h.trans ⟨rfl, rfl, rfl, by simp [World.setCell], fun k _ hb => Below.heap_setCell _ _ _ _ hb⟩
theorem But.cell {b : Nat} {w w' : World} (h : But b w w') {p : Addr} {v : Value} (hp : p.block ≠ b) (hv : w.cell? p = some v) : w'.cell? p = some v := by
  have hl := World.block_lt_of_cell? w p hv
  simpa [World.cell?, h.block p.block hl hp] using hv

/-- The named errors lie below block b. -/
def ErrAt (b : Nat) (w : World) : Prop := ∃ w0 : World, w0.heap.size ≤ b ∧ ErrInv w0 ∧ Below w0.heap.size w0 w
theorem ErrAt.inv {b : Nat} {w : World} (h : ErrAt b w) : ErrInv w := let ⟨_, _, hI, hb⟩ := h; hI.below hb
theorem ErrAt.but {b : Nat} {w w' : World} (h : ErrAt b w) (hb : But b w w') : ErrAt b w' := let ⟨w0, hs, hI, h0⟩ := h; ⟨w0, hs, hI, h0.trans (hb.below hs h0.size)⟩
theorem Rd.c0 {w : World} {b : Nat} {s : ByteArray} {k : Nat} (h : Rd w b s k) : w.cell? ⟨b, 0, none⟩ = some (.string s) := by
  have h' : w.heap[b]? = some (.cells #[.string s, .int .i64 k] 51 (0, 0)) := h
  simp [World.cell?, h']
theorem Rd.c1 {w : World} {b : Nat} {s : ByteArray} {k : Nat} (h : Rd w b s k) : w.cell? ⟨b, 1, none⟩ = some (.int .i64 k) := by
  have h' : w.heap[b]? = some (.cells #[.string s, .int .i64 k] 51 (0, 0)) := h
  simp [World.cell?, h']
theorem Rd.fz {w : World} {b : Nat} {s : ByteArray} {k : Nat} (h : Rd w b s k) (i : Nat) : w.frozen? ⟨b, i, none⟩ = false := by
  have h' : w.heap[b]? = some (.cells #[.string s, .int .i64 k] 51 (0, 0)) := h
  simp [World.frozen?, h']
theorem Rd.step {w : World} {b : Nat} {s : ByteArray} {k : Nat} (h : Rd w b s k) : Rd (w.setCell ⟨b, 1, none⟩ (.int .i64 ((k : Int) + 1))) b s (k + 1) := by
  have h' : w.heap[b]? = some (.cells #[.string s, .int .i64 k] 51 (0, 0)) := h
  have hl := heap_lt h'
  simp only [Rd, World.setCell, Array.getElem?_modify, h']
  simp
theorem Rd.lt {w : World} {b : Nat} {s : ByteArray} {k : Nat} (h : Rd w b s k) : b < w.heap.size := heap_lt h
theorem Rd.but {w w' : World} {b : Nat} {s : ByteArray} {k : Nat} (h : Rd w b s k) (hb : Below w.heap.size w w') : Rd w' b s k := (hb.block b h.lt).trans h

theorem fault_any (a : Int) (t : TypeId) (x : Value) (w : World) :
    Calls Tryd.prog 24 #[.int .i64 a, .iface t x] w fun e w' => e = .returned (.iface 47 (.pointer (some ⟨w.heap.size, 0, none⟩))) ∧ w' = w.alloc (.cells #[.int .i64 a, .iface t x] 65) := by
  go_enter Tryd.func24, Tryd.ntmps24
  go_wp2
  go_ret
  exact ⟨rfl, rfl⟩

theorem flt_new (w : World) (n : Nat) (a : Int) (c : Nat) (s : Value) (h1 : 1 ≤ c) (h2 : c ≤ 18) (hs : w.cell? ⟨gidx c, 0, none⟩ = some s) :
    FltIs ((w.drewN n).alloc (.cells #[.int .i64 a, s] 65)) (.iface 47 (.pointer (some ⟨w.heap.size, 0, none⟩))) (some (a, c)) := by
  refine ⟨h1, h2, w.heap.size, s, rfl, ?_, ?_⟩
  · show (w.heap.push _)[w.heap.size]? = _
    simp
  · exact cell_in ((Below.drewN (Below.refl w.heap.size w) n).alloc (Nat.le_refl _) _) hs

theorem peek_byte (b : Nat) (s : ByteArray) (k : Nat) (w : World) (hr : Rd w b s k) (hk : k < s.size) :
    Calls Tryd.prog 47 #[.pointer (some ⟨b, 0, none⟩)] w fun e w' => e = .returned (.int .u8 (s[k]'hk).toNat) ∧ Below w.heap.size w w' ∧ Rd w' b s k := by
  have h0 := hr.c0
  have h1 := hr.c1
  have hx : ¬ ((s.size : Int) ≤ (k : Int)) := by omega
  go_enter Tryd.func47, Tryd.ntmps47
  go_wp2
  go_quiet (fail)
  go_wp2
  go_quiet (fail)
  go_wp2
  go_ret
  refine ⟨?_, Below.drewN (Below.drewN (Below.refl _ _) _) _, ?_⟩
  · simp
  · exact hr

theorem peek_end (b : Nat) (s : ByteArray) (k : Nat) (w : World) (hr : Rd w b s k) (hk : s.size ≤ k) (hI : ErrInv w) :
    Calls Tryd.prog 47 #[.pointer (some ⟨b, 0, none⟩)] w fun e w' => ∃ v, e = .panicked [{ v := v, recovered := false }] ∧ FltIs w' v (some (s.size, 2)) ∧ Below w.heap.size w w' := by
  have h0 := hr.c0
  have h1 := hr.c1
  have hx : (s.size : Int) ≤ (k : Int) := by omega
  obtain ⟨a, he, -⟩ := hI.sent 2 (by decide)
  have he' : w.cell? ⟨3, 0, none⟩ = _ := he
  go_enter Tryd.func47, Tryd.ntmps47
  go_wp2
  go_quiet (fail)
  go_wp2
  go_region_dies
  all_goals
    refine (fault_any _ _ _ _).mono ?_
    rintro e w' ⟨rfl, rfl⟩
    rename_i hK
    refine hK _ _ ?_
    refine wpAny_ready (rs := [7]) (by kernel_rfl) (by simp) ?_
    refine AllReady.cons rfl (fun K hK => ?_) AllReady.nil
    go_simp
    exact ⟨rfl, _, rfl, flt_new w _ _ _ _ (by omega) (by omega) he, (Below.drewN (Below.refl w.heap.size w) _).alloc (Nat.le_refl _) _⟩

/-- What a step of the reading comes to: a value and a place, or an error. -/
def Done (b : Nat) (s : ByteArray) (w : World) (r : Except (Int × Nat) (Value × Nat)) (e : Ending) (w' : World) : Prop :=
  But b w w' ∧ match r with
    | .ok (v, k) => e = .returned v ∧ Rd w' b s k
    | .error x => ∃ v, e = .panicked [{ v := v, recovered := false }] ∧ FltIs w' v (some x)

/-- The next byte. -/
def peekS (s : ByteArray) (k : Nat) : Except (Int × Nat) UInt8 := if h : k < s.size then .ok (s[k]'h) else .error (s.size, 2)
/-- The next byte, if it is one of some. -/
def oneS (s : ByteArray) (of : ByteArray) (k : Nat) : Except (Int × Nat) UInt8 :=
  if h : k < s.size then (if Lib.indexByte of.data.toList (s[k]'h) < 0 then .error (k, 1) else .ok (s[k]'h)) else .error (s.size, 2)

theorem one_end (b : Nat) (s of : ByteArray) (k : Nat) (w : World) (hr : Rd w b s k) (hk : s.size ≤ k) (hI : ErrInv w) :
    Calls Tryd.prog 30 #[.pointer (some ⟨b, 0, none⟩), .string of] w fun e w' => ∃ v, e = .panicked [{ v := v, recovered := false }] ∧ FltIs w' v (some (s.size, 2)) ∧ Below w.heap.size w w' := by
  go_enter Tryd.func30, Tryd.ntmps30
  go_wp2_with (go_at_call 47; refine (peek_end b s k _ hr hk hI).mono ?_; rintro e w' ⟨v, rfl, hf, hb⟩)
  exact ⟨rfl, v, rfl, hf, hb⟩

theorem one_bad (b : Nat) (s of : ByteArray) (k : Nat) (w : World) (hr : Rd w b s k) (hk : k < s.size) (hi : Lib.indexByte of.data.toList s[k] < 0) (hI : ErrInv w) :
    Calls Tryd.prog 30 #[.pointer (some ⟨b, 0, none⟩), .string of] w fun e w' => ∃ v, e = .panicked [{ v := v, recovered := false }] ∧ FltIs w' v (some ((k : Int), 1)) ∧ Below w.heap.size w w' := by
  have hx : (((s[k]'hk).toNat : Int).toNat).toUInt8 = s[k] := by simp
  obtain ⟨a, he, -⟩ := hI.sent 1 (by decide)
  go_enter Tryd.func30, Tryd.ntmps30
  go_wp2_with (first
    | (go_at_call 47; refine (peek_byte b s k _ hr hk).mono ?_; rintro e w1 ⟨rfl, hb1, hr1⟩)
    | (go_at_call 48; refine (Tryd.strings_IndexByte of _ _).mono ?_; rintro e w2 ⟨rfl, rfl⟩))
  have c1 := hr1.c1
  have he1 : w2.cell? ⟨1, 0, none⟩ = _ := cell_in hb1 he
  go_region_dies
  all_goals
    refine (fault_any _ _ _ _).mono ?_
    rintro e w' ⟨rfl, rfl⟩
    rename_i hK
    refine hK _ _ ?_
    refine wpAny_ready (rs := [6]) (by kernel_rfl) (by simp) ?_
    refine AllReady.cons rfl (fun K hK => ?_) AllReady.nil
    go_simp
    exact ⟨rfl, _, rfl, flt_new w2 _ _ _ _ (by omega) (by omega) he1, hb1.trans ((Below.drewN (Below.refl w.heap.size w2) _).alloc hb1.size _)⟩

theorem one_ok (b : Nat) (s of : ByteArray) (k : Nat) (w : World) (hr : Rd w b s k) (hk : k < s.size) (hs : s.size < 4611686018427387904) (hi : ¬ Lib.indexByte of.data.toList s[k] < 0) :
    Calls Tryd.prog 30 #[.pointer (some ⟨b, 0, none⟩), .string of] w fun e w' => e = .returned (.int .u8 (s[k]'hk).toNat) ∧ But b w w' ∧ Rd w' b s (k + 1) := by
  have hx : (((s[k]'hk).toNat : Int).toNat).toUInt8 = s[k] := by simp
  go_enter Tryd.func30, Tryd.ntmps30
  go_wp2_with (first
    | (go_at_call 47; refine (peek_byte b s k _ hr hk).mono ?_; rintro e w1 ⟨rfl, hb1, hr1⟩; have c1 := hr1.c1; have z1 := hr1.fz 1)
    | (go_at_call 48; refine (Tryd.strings_IndexByte of _ _).mono ?_; rintro e w2 ⟨rfl, rfl⟩))
  go_ret
  exact ⟨rfl, (But.of_below hb1 (Nat.le_refl _)).setCell 1 _, hr1.step⟩

end Go.Proofs.YtlgdenihddkjaaaDoor
