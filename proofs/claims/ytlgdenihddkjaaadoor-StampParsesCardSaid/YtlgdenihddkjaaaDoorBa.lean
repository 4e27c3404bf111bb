/- What the deferred closure of stamp.Parse does: nothing, if nothing panics; else the fault is the error and the stamp is naught. -/
import Derived.Test.YtlgdenihddkjaaaDoorFlt
import Derived.Test.YtlgdenihddkjaaaDoorShelf
import Derived.WalkKit
import Derived.Defers
import Derived.Recover
import Derived.BigRegion
import Derived.BigQuiet
import Derived.RegionDies
import Derived.Deep.RegionLaw
import Derived.Deep.RegionHeld3
import Derived.Deep.AppendLies
import Derived.KernelRfl
namespace Go.Proofs.YtlgdenihddkjaaaDoor
set_option linter.unusedSimpArgs false
set_option linter.unusedVariables false
open Go.RowKit

/-- The text in block b is read up to k. -/
def Rd (w : World) (b : Nat) (s : ByteArray) (k : Nat) : Prop := w.heap[b]? = some (.cells #[.string s, .int .i64 k] 51 (0, 0))
/-- Nothing that was there turns, but block b. -/
structure But (b : Nat) (w w' : World) : Prop where
  os : w'.os = w.os
  tape : w'.tape = w.tape
  output : w'.output = w.output
  size : w.heap.size ≤ w'.heap.size
  block : ∀ k, k < w.heap.size → k ≠ b → w'.heap[k]? = w.heap[k]?
theorem But.refl (b : Nat) (w : World) : But b w w := ⟨rfl, rfl, rfl, Nat.le_refl _, fun _ _ _ => rfl⟩
theorem But.trans {b : Nat} {x y z : World} (h : But b x y) (k : But b y z) : But b x z :=
  ⟨k.os.trans h.os, k.tape.trans h.tape, k.output.trans h.output, Nat.le_trans h.size k.size, fun i hi hb => (k.block i (Nat.lt_of_lt_of_le hi h.size) hb).trans (h.block i hi hb)⟩
theorem But.of_below {b n : Nat} {w w' : World} (h : Below n w w') (hn : w.heap.size ≤ n) : But b w w' :=
  ⟨h.os, h.tape, h.output, h.size, fun k hk _ => h.block k (by omega)⟩
theorem But.below {b n : Nat} {w w' : World} (h : But b w w') (hb : n ≤ b) (hn : n ≤ w.heap.size) : Below n w w' :=
  ⟨h.os, h.tape, h.output, h.size, fun k hk => h.block k (by omega) (by omega)⟩
theorem But.drew {b : Nat} {w w' : World} (h : But b w w') : But b w w'.drew := ⟨h.os, h.tape, h.output, h.size, h.block⟩
theorem Below.drewN {B : Nat} {a w : World} (h : Below B a w) (n : Nat) : Below B a (w.drewN n) := ⟨h.os, h.tape, h.output, h.size, h.block⟩
theorem But.alloc {b : Nat} {w w' : World} (h : But b w w') (o : Obj) : But b w (w'.alloc o) :=
  h.trans (But.of_below ((Below.refl w'.heap.size w').alloc (Nat.le_refl _) o) (Nat.le_refl _))
theorem But.setCell {b : Nat} {w w' : World} (h : But b w w') (i : Nat) (v : Value) : But b w (w'.setCell ⟨b, i, none⟩ v) :=
  h.trans ⟨rfl, rfl, rfl, by simp [World.setCell], fun k _ hb => Below.heap_setCell _ _ _ _ hb⟩
theorem But.cell {b : Nat} {w w' : World} (h : But b w w') {p : Addr} {v : Value} (hp : p.block ≠ b) (hv : w.cell? p = some v) : w'.cell? p = some v := by
  have hl := World.block_lt_of_cell? w p hv
  simpa [World.cell?, h.block p.block hl hp] using hv

/-- The named errors lie below block b. -/
def ErrAt (b : Nat) (w : World) : Prop := ∃ w0 : World, w0.heap.size ≤ b ∧ ErrInv w0 ∧ Below w0.heap.size w0 w
theorem ErrAt.inv {b : Nat} {w : World} (h : ErrAt b w) : ErrInv w := let ⟨_, _, hI, hb⟩ := h; hI.below hb
theorem ErrAt.but {b : Nat} {w w' : World} (h : ErrAt b w) (hb : But b w w') : ErrAt b w' := let ⟨w0, hs, hI, h0⟩ := h; ⟨w0, hs, hI, h0.trans (hb.below hs h0.size)⟩
theorem Rd.c0 {w : World} {b : Nat} {s : ByteArray} {k : Nat} (h : Rd w b s k) : w.cell? ⟨b, 0, none⟩ = some (.string s) := by
  have h' : w.heap[b]? = some (.cells #[.string s, .int .i64 k] 51 (0, 0)) := h
  simp [World.cell?, h']
theorem Rd.c1 {w : World} {b : Nat} {s : ByteArray} {k : Nat} (h : Rd w b s k) : w.cell? ⟨b, 1, none⟩ = some (.int .i64 k) := by
  have h' : w.heap[b]? = some (.cells #[.string s, .int .i64 k] 51 (0, 0)) := h
  simp [World.cell?, h']
theorem Rd.fz {w : World} {b : Nat} {s : ByteArray} {k : Nat} (h : Rd w b s k) (i : Nat) : w.frozen? ⟨b, i, none⟩ = false := by
  have h' : w.heap[b]? = some (.cells #[.string s, .int .i64 k] 51 (0, 0)) := h
  simp [World.frozen?, h']
theorem Rd.step {w : World} {b : Nat} {s : ByteArray} {k : Nat} (h : Rd w b s k) : Rd (w.setCell ⟨b, 1, none⟩ (.int .i64 ((k : Int) + 1))) b s (k + 1) := by
  have h' : w.heap[b]? = some (.cells #[.string s, .int .i64 k] 51 (0, 0)) := h
  have hl := heap_lt h'
  simp only [Rd, World.setCell, Array.getElem?_modify, h']
  simp
theorem Rd.lt {w : World} {b : Nat} {s : ByteArray} {k : Nat} (h : Rd w b s k) : b < w.heap.size := heap_lt h
theorem Rd.but {w w' : World} {b : Nat} {s : ByteArray} {k : Nat} (h : Rd w b s k) (hb : Below w.heap.size w w') : Rd w' b s k := (hb.block b h.lt).trans h

theorem fault_any (a : Int) (t : TypeId) (x : Value) (w : World) :
    Calls Tryd.prog 24 #[.int .i64 a, .iface t x] w fun e w' => e = .returned (.iface 47 (.pointer (some ⟨w.heap.size, 0, none⟩))) ∧ w' = w.alloc (.cells #[.int .i64 a, .iface t x] 65) := by
  go_enter Tryd.func24, Tryd.ntmps24
  go_wp2
  go_ret
  exact ⟨rfl, rfl⟩

theorem flt_new (w : World) (n : Nat) (a : Int) (c : Nat) (s : Value) (h1 : 1 ≤ c) (h2 : c ≤ 18) (hs : w.cell? ⟨gidx c, 0, none⟩ = some s) :
    FltIs ((w.drewN n).alloc (.cells #[.int .i64 a, s] 65)) (.iface 47 (.pointer (some ⟨w.heap.size, 0, none⟩))) (some (a, c)) := by
  refine ⟨h1, h2, w.heap.size, s, rfl, ?_, ?_⟩
  · show (w.heap.push _)[w.heap.size]? = _
    simp
  · exact cell_in ((Below.drewN (Below.refl w.heap.size w) n).alloc (Nat.le_refl _) _) hs

theorem peek_byte (b : Nat) (s : ByteArray) (k : Nat) (w : World) (hr : Rd w b s k) (hk : k < s.size) :
    Calls Tryd.prog 47 #[.pointer (some ⟨b, 0, none⟩)] w fun e w' => e = .returned (.int .u8 (s[k]'hk).toNat) ∧ Below w.heap.size w w' ∧ Rd w' b s k := by
  have h0 := hr.c0
  have h1 := hr.c1
  have hx : ¬ ((s.size : Int) ≤ (k : Int)) := by omega
  go_enter Tryd.func47, Tryd.ntmps47
  go_wp2
  go_quiet (fail)
  go_wp2
  go_quiet (fail)
  go_wp2
  go_ret
  refine ⟨?_, Below.drewN (Below.drewN (Below.refl _ _) _) _, ?_⟩
  · simp
  · exact hr

theorem peek_end (b : Nat) (s : ByteArray) (k : Nat) (w : World) (hr : Rd w b s k) (hk : s.size ≤ k) (hI : ErrInv w) :
    Calls Tryd.prog 47 #[.pointer (some ⟨b, 0, none⟩)] w fun e w' => ∃ v, e = .panicked [{ v := v, recovered := false }] ∧ FltIs w' v (some (s.size, 2)) ∧ Below w.heap.size w w' := by
  have h0 := hr.c0
  have h1 := hr.c1
  have hx : (s.size : Int) ≤ (k : Int) := by omega
  obtain ⟨a, he, -⟩ := hI.sent 2 (by decide)
  have he' : w.cell? ⟨3, 0, none⟩ = _ := he
  go_enter Tryd.func47, Tryd.ntmps47
  go_wp2
  go_quiet (fail)
  go_wp2
  go_region_dies
  all_goals
    refine (fault_any _ _ _ _).mono ?_
    rintro e w' ⟨rfl, rfl⟩
    rename_i hK
    refine hK _ _ ?_
    refine wpAny_ready (rs := [7]) (by kernel_rfl) (by simp) ?_
    refine AllReady.cons rfl (fun K hK => ?_) AllReady.nil
    go_simp
    exact ⟨rfl, _, rfl, flt_new w _ _ _ _ (by omega) (by omega) he, (Below.drewN (Below.refl w.heap.size w) _).alloc (Nat.le_refl _) _⟩

/-- What a step of the reading comes to: a value and a place, or an error. -/
def Done (b : Nat) (s : ByteArray) (w : World) (r : Except (Int × Nat) (Value × Nat)) (e : Ending) (w' : World) : Prop :=
  But b w w' ∧ match r with
    | .ok (v, k) => e = .returned v ∧ Rd w' b s k
    | .error x => ∃ v, e = .panicked [{ v := v, recovered := false }] ∧ FltIs w' v (some x)

/-- The next byte. -/
def peekS (s : ByteArray) (k : Nat) : Except (Int × Nat) UInt8 := if h : k < s.size then .ok (s[k]'h) else .error (s.size, 2)
/-- The next byte, if it is one of some. -/
def oneS (s : ByteArray) (of : ByteArray) (k : Nat) : Except (Int × Nat) UInt8 :=
  if h : k < s.size then (if Lib.indexByte of.data.toList (s[k]'h) < 0 then .error (k, 1) else .ok (s[k]'h)) else .error (s.size, 2)

theorem one_end (b : Nat) (s of : ByteArray) (k : Nat) (w : World) (hr : Rd w b s k) (hk : s.size ≤ k) (hI : ErrInv w) :
    Calls Tryd.prog 30 #[.pointer (some ⟨b, 0, none⟩), .string of] w fun e w' => ∃ v, e = .panicked [{ v := v, recovered := false }] ∧ FltIs w' v (some (s.size, 2)) ∧ Below w.heap.size w w' := by
  go_enter Tryd.func30, Tryd.ntmps30
  go_wp2_with (go_at_call 47; refine (peek_end b s k _ hr hk hI).mono ?_; rintro e w' ⟨v, rfl, hf, hb⟩)
  exact ⟨rfl, v, rfl, hf, hb⟩

theorem one_bad (b : Nat) (s of : ByteArray) (k : Nat) (w : World) (hr : Rd w b s k) (hk : k < s.size) (hi : Lib.indexByte of.data.toList s[k] < 0) (hI : ErrInv w) :
    Calls Tryd.prog 30 #[.pointer (some ⟨b, 0, none⟩), .string of] w fun e w' => ∃ v, e = .panicked [{ v := v, recovered := false }] ∧ FltIs w' v (some ((k : Int), 1)) ∧ Below w.heap.size w w' := by
  have hx : (((s[k]'hk).toNat : Int).toNat).toUInt8 = s[k] := by simp
  obtain ⟨a, he, -⟩ := hI.sent 1 (by decide)
  go_enter Tryd.func30, Tryd.ntmps30
  go_wp2_with (first
    | (go_at_call 47; refine (peek_byte b s k _ hr hk).mono ?_; rintro e w1 ⟨rfl, hb1, hr1⟩)
    | (go_at_call 48; refine (Tryd.strings_IndexByte of _ _).mono ?_; rintro e w2 ⟨rfl, rfl⟩))
  have c1 := hr1.c1
  have he1 : w2.cell? ⟨1, 0, none⟩ = _ := cell_in hb1 he
  go_region_dies
  all_goals
    refine (fault_any _ _ _ _).mono ?_
    rintro e w' ⟨rfl, rfl⟩
    rename_i hK
    refine hK _ _ ?_
    refine wpAny_ready (rs := [6]) (by kernel_rfl) (by simp) ?_
    refine AllReady.cons rfl (fun K hK => ?_) AllReady.nil
    go_simp
    exact ⟨rfl, _, rfl, flt_new w2 _ _ _ _ (by omega) (by omega) he1, hb1.trans ((Below.drewN (Below.refl w.heap.size w2) _).alloc hb1.size _)⟩

theorem one_ok (b : Nat) (s of : ByteArray) (k : Nat) (w : World) (hr : Rd w b s k) (hk : k < s.size) (hs : s.size < 4611686018427387904) (hi : ¬ Lib.indexByte of.data.toList s[k] < 0) :
    Calls Tryd.prog 30 #[.pointer (some ⟨b, 0, none⟩), .string of] w fun e w' => e = .returned (.int .u8 (s[k]'hk).toNat) ∧ But b w w' ∧ Rd w' b s (k + 1) := by
  have hx : (((s[k]'hk).toNat : Int).toNat).toUInt8 = s[k] := by simp
  go_enter Tryd.func30, Tryd.ntmps30
  go_wp2_with (first
    | (go_at_call 47; refine (peek_byte b s k _ hr hk).mono ?_; rintro e w1 ⟨rfl, hb1, hr1⟩; have c1 := hr1.c1; have z1 := hr1.fz 1)
    | (go_at_call 48; refine (Tryd.strings_IndexByte of _ _).mono ?_; rintro e w2 ⟨rfl, rfl⟩))
  go_ret
  exact ⟨rfl, (But.of_below hb1 (Nat.le_refl _)).setCell 1 _, hr1.step⟩

end Go.Proofs.YtlgdenihddkjaaaDoor

namespace Go.Proofs.YtlgdenihddkjaaaDoor
set_option linter.unusedSimpArgs false
set_option linter.unusedVariables false
open Go.RowKit

theorem blk_cell {w : World} {n : Nat} {cs : Array Value} {t : TypeId} (h : w.heap[n]? = some (.cells cs t (0, 0))) (i : Nat) : w.cell? ⟨n, i, none⟩ = cs[i]? := by simp [World.cell?, h]
theorem blk_fz {w : World} {n : Nat} {cs : Array Value} {t : TypeId} (h : w.heap[n]? = some (.cells cs t (0, 0))) (i : Nat) : w.frozen? ⟨n, i, none⟩ = false := by simp [World.frozen?, h]
theorem blk_set {w : World} {n : Nat} {cs : Array Value} {t : TypeId} (h : w.heap[n]? = some (.cells cs t (0, 0))) (i : Nat) (v : Value) : (w.setCell ⟨n, i, none⟩ v).heap[n]? = some (.cells (cs.setIfInBounds i v) t (0, 0)) := by
  simp only [World.setCell, Array.getElem?_modify, h]
  simp
theorem But.setNew {b : Nat} {w w' : World} (h : But b w w') {n : Nat} (hn : w.heap.size ≤ n) (i : Nat) (v : Value) : But b w (w'.setCell ⟨n, i, none⟩ v) :=
  ⟨h.os, h.tape, h.output, by simpa [World.setCell] using h.size, fun k hk hb => (Below.heap_setCell _ _ _ _ (by show k ≠ n; omega)).trans (h.block k hk hb)⟩
theorem Rd.set {w : World} {b : Nat} {s : ByteArray} {k : Nat} (h : Rd w b s k) {n : Nat} (hn : b ≠ n) (i : Nat) (v : Value) : Rd (w.setCell ⟨n, i, none⟩ v) b s k :=
  (Below.heap_setCell _ _ _ _ hn).trans h
/-- The ten digits. -/
def digs : ByteArray := ⟨#[48, 49, 50, 51, 52, 53, 54, 55, 56, 57]⟩
theorem digit_in : ∀ n : Fin 256, ¬ Lib.indexByte digs.data.toList (UInt8.ofNat n.val) < 0 → 48 ≤ n.val ∧ n.val ≤ 57 := by decide +kernel
theorem digit_of (c : UInt8) (h : ¬ Lib.indexByte digs.data.toList c < 0) : 48 ≤ c.toNat ∧ c.toNat ≤ 57 := by
  refine digit_in ⟨c.toNat, c.toNat_lt⟩ ?_
  simpa using h
/-- A number of so many digits, from a place on. -/
def numS (s : ByteArray) : Nat → Nat → Nat → Except (Int × Nat) Nat
  | 0, a, _ => .ok a
  | m + 1, a, k => match oneS s digs k with
    | .error x => .error x
    | .ok c => numS s m (10 * a + (c.toNat - 48)) (k + 1)

def numR (k0 many : Nat) (low high : Int) : Except (Int × Nat) Nat → Except (Int × Nat) (Value × Nat)
  | .ok n => .ok (.agg #[.int .i64 n, .int .i64 k0, .int .i64 low, .int .i64 high], k0 + many)
  | .error x => .error x

set_option maxHeartbeats 2000000 in
theorem number_any (b : Nat) (s : ByteArray) (k0 : Nat) (many : Nat) (low high : Int) (w : World) (hr : Rd w b s k0) (hm : many ≤ 4) (hs : s.size < 4611686018427387904) (hk0 : k0 ≤ s.size) (hI : ErrAt b w) :
    Calls Tryd.prog 29 #[.pointer (some ⟨b, 0, none⟩), .int .i64 many, .int .i64 low, .int .i64 high] w (Done b s w (numR k0 many low high (numS s many 0 k0))) := by
  generalize hR : numS s many 0 k0 = R
  have hbl := hr.lt
  have c1 := hr.c1
  go_enter Tryd.func29, Tryd.ntmps29
  go_wp2
  go_loopw [18] (fun i wr => ∃ j a : Nat, j ≤ many ∧ i = .int .i64 j ∧ a < 10 ^ j ∧ numS s (many - j) a (k0 + j) = R ∧ k0 + j ≤ s.size ∧ Rd wr b s (k0 + j) ∧ But b w wr ∧ w.heap.size + 2 ≤ wr.heap.size ∧
      wr.heap[w.heap.size]? = some (.cells #[.int .i64 0, .int .i64 0, .int .i64 0, .int .i64 0] 54 (0, 0)) ∧ wr.heap[w.heap.size + 1]? = some (.cells #[.int .i64 a, .int .i64 k0, .int .i64 low, .int .i64 high] 54 (0, 0)))
    (fun i _ => many - (intOf i).toNat)
  case atStart =>
    refine ⟨0, 0, Nat.zero_le _, rfl, by simp, hR, hk0, hr.but (((Below.refl _ _).alloc (Nat.le_refl _) _).alloc (by simp) _), ((But.refl b w).alloc _).alloc _, by simp, ?_, ?_⟩
    · show ((w.heap.push _).push _)[w.heap.size]? = _
      simp [Array.getElem?_push]
    · show ((w.heap.push _).push _)[w.heap.size + 1]? = _
      rw [Array.getElem?_push, if_pos (by simp)]
      rfl
  case round =>
    obtain ⟨j, a, hj, rfl, ha, hn, hkj, hrr, hbut, hsz, hq, hp⟩ := hrel
    have ha' : a < 10000 := Nat.lt_of_lt_of_le ha (Nat.pow_le_pow_right (by omega) (by omega : j ≤ 4))
    have p0 := blk_cell hp 0
    have q0 := blk_cell hq 0
    have z0 := blk_fz hq 0
    have p1 := blk_cell hp 1
    have q1 := blk_cell hq 1
    have z1 := blk_fz hq 1
    have p2 := blk_cell hp 2
    have q2 := blk_cell hq 2
    have z2 := blk_fz hq 2
    have p3 := blk_cell hp 3
    have q3 := blk_cell hq 3
    have z3 := blk_fz hq 3
    have y0 := blk_fz hp 0
    simp at p0 p1 p2 p3 q0 q1 q2 q3
    have hIr : ErrInv wr.drew := (hI.but hbut).inv.drewN 1
    have hrd : Rd wr.drew b s (k0 + j) := hrr
    have HB : Hid (But b w wr) := hbut
    have HN : Hid (numS s (many - j) a (k0 + j) = R) := hn
    have HP : Hid (wr.heap[w.heap.size + 1]? = some (.cells #[.int .i64 a, .int .i64 k0, .int .i64 low, .int .i64 high] 54 (0, 0))) := hp
    have HQ : Hid (wr.heap[w.heap.size]? = some (.cells #[.int .i64 0, .int .i64 0, .int .i64 0, .int .i64 0] 54 (0, 0))) := hq
    have HR : Hid (Rd wr b s (k0 + j)) := hrr
    clear hbut hn hp hq hrr
    by_cases hjm : j = many
    · subst hjm
      clear y0 hIr hI hrd
      go_wp2
      have HN' := HN.out
      rw [Nat.sub_self, numS] at HN'
      subst HN'
      have e1 := blk_set (blk_set (blk_set (blk_set HQ.out 0 (.int .i64 a)) 1 (.int .i64 k0)) 2 (.int .i64 low)) 3 (.int .i64 high)
      refine bodyPost_ret_by (v := .agg #[.int .i64 a, .int .i64 k0, .int .i64 low, .int .i64 high]) ?_ rfl ?_
      · generalize (((wr.setCell _ _).setCell _ _).setCell _ _).setCell _ _ = W at e1
        have r0 := blk_cell e1 0
        have r1 := blk_cell e1 1
        have r2 := blk_cell e1 2
        have r3 := blk_cell e1 3
        simp at r0 r1 r2 r3
        clear e1
        simp [results, Tryd.results29, go_sem, r0, r1, r2, r3]
      · exact ⟨(((HB.out.setNew (Nat.le_refl _) 0 _).setNew (Nat.le_refl _) 1 _).setNew (Nat.le_refl _) 2 _).setNew (Nat.le_refl _) 3 _, rfl,
          (((HR.out.set (by omega) 0 _).set (by omega) 1 _).set (by omega) 2 _).set (by omega) 3 _⟩
    · have hlt : (j : Int) < (many : Int) := by omega
      obtain ⟨m', hm'⟩ : ∃ m', many - j = m' + 1 := ⟨many - j - 1, by omega⟩
      clear q0 q1 q2 q3 z0 z1 z2 z3 p1 p2 p3
      by_cases hk : k0 + j < s.size
      · by_cases hi : Lib.indexByte digs.data.toList s[k0 + j] < 0
        · have H := (show Hid _ from one_bad b s digs (k0 + j) wr.drew hrd hk hi hIr)
          have hR' : R = .error (((k0 + j : Nat) : Int), 1) := by have hn := HN.out; rw [hm', numS] at hn; rw [← hn]; simp [oneS, hk, hi]
          subst hR'
          clear hrd hi hIr hI hR hm'
          go_wp2
          go_region_dies
          all_goals
            refine Calls.mono H.out ?_
            rintro e w' ⟨v, rfl, hf, hb⟩
            exact ⟨rfl, HB.out.trans (But.of_below (w := wr) ⟨hb.os, hb.tape, hb.output, hb.size, hb.block⟩ (Nat.le_refl _)), v, rfl, hf⟩
        · have hd := digit_of _ hi
          have H := (show Hid _ from one_ok b s digs (k0 + j) wr.drew hrd hk hs hi)
          have HN' : Hid (numS s m' (10 * a + (s[k0 + j].toNat - 48)) (k0 + j + 1) = R) := by show _ = _; have hn := HN.out; rw [hm', numS] at hn; rw [← hn]; simp [oneS, hk, hi]
          clear hrd hi hIr hI hR
          go_wp2
          go_region_with (refine Calls.mono H.out ?_; rintro e w' ⟨rfl, hb1, hr1⟩; have hp' := (hb1.block (w.heap.size + 1) (show w.heap.size + 1 < wr.heap.size by omega) (by omega)).trans HP.out; have p0' := blk_cell hp' 0; have y0' := blk_fz hp' 0; simp at p0')
          all_goals go_wp2
          all_goals
            refine ⟨⟨j + 1, 10 * a + (s[k0 + j].toNat - 48), by omega, by push_cast; rfl, ?_, ?_, by omega, ?_, ?_, ?_, ?_, ?_⟩, ?_⟩
            · rw [Nat.pow_succ]; omega
            · rw [show many - (j + 1) = m' by omega]; exact HN'.out
            · exact hr1.set (by omega) 0 _
            · exact (HB.out.trans (z := w') ⟨hb1.os, hb1.tape, hb1.output, hb1.size, hb1.block⟩).setNew (by omega) 0 _
            · have := hb1.size
              have h2 : wr.drew.heap.size = wr.heap.size := rfl
              simp [World.setCell]
              omega
            · exact (Below.heap_setCell _ _ _ _ (by simp)).trans ((hb1.block w.heap.size (show w.heap.size < wr.heap.size by omega) (by omega)).trans HQ.out)
            · refine (blk_set hp' 0 _).trans ?_
              simp
              omega
            · simp [intOf]
              omega
      · have H := (show Hid _ from one_end b s digs (k0 + j) wr.drew hrd (by omega) hIr)
        have hR' : R = .error ((s.size : Int), 2) := by have hn := HN.out; rw [hm', numS] at hn; rw [← hn]; simp [oneS, hk]
        subst hR'
        clear hrd hIr hI hR hm'
        go_wp2
        go_region_dies
        all_goals
          refine Calls.mono H.out ?_
          rintro e w' ⟨v, rfl, hf, hb⟩
          exact ⟨rfl, HB.out.trans (But.of_below (w := wr) ⟨hb.os, hb.tape, hb.output, hb.size, hb.block⟩ (Nat.le_refl _)), v, rfl, hf⟩

end Go.Proofs.YtlgdenihddkjaaaDoor

namespace Go.Proofs.YtlgdenihddkjaaaDoor
set_option linter.unusedSimpArgs false
set_option linter.unusedVariables false
open Go.RowKit

/-- The digits behind a fraction's first one. -/
def fracL (s : ByteArray) : Nat → Nat → Nat → Nat → Except (Int × Nat) (Nat × Nat)
  | 0, _, n, k => .ok (n, k)
  | m + 1, unit, n, k => match peekS s k with
    | .error x => .error x
    | .ok c => if c.toNat < 48 ∨ 57 < c.toNat then .ok (n, k) else fracL s m (unit / 10) (n + (c.toNat - 48) * (unit / 10)) (k + 1)
/-- A fraction, if there is one. -/
def fracS (s : ByteArray) (k : Nat) : Except (Int × Nat) (Nat × Nat) :=
  match peekS s k with
  | .error x => .error x
  | .ok c => if c.toNat = 46 then (match oneS s digs (k + 1) with
      | .error x => .error x
      | .ok d => fracL s 8 100000000 ((d.toNat - 48) * 100000000) (k + 2)) else .ok (0, k)
def fracR : Except (Int × Nat) (Nat × Nat) → Except (Int × Nat) (Value × Nat)
  | .ok (n, k) => .ok (.int .i64 n, k)
  | .error x => .error x
theorem digs_of : ∀ n : Fin 256, 48 ≤ n.val → n.val ≤ 57 → ¬ Lib.indexByte digs.data.toList (UInt8.ofNat n.val) < 0 := by decide +kernel
theorem of_digit (c : UInt8) (h1 : 48 ≤ c.toNat) (h2 : c.toNat ≤ 57) : ¬ Lib.indexByte digs.data.toList c < 0 := by
  have := digs_of ⟨c.toNat, c.toNat_lt⟩ h1 h2
  simpa using this

set_option maxHeartbeats 2000000 in
theorem frac_none (b : Nat) (s : ByteArray) (k : Nat) (w : World) (hr : Rd w b s k) (hk : k < s.size) (hc : ¬ (s[k].toNat : Int) = 46) :
    Calls Tryd.prog 31 #[.pointer (some ⟨b, 0, none⟩)] w (Done b s w (.ok (.int .i64 0, k))) := by
  have H := (show Hid _ from peek_byte b s k w hr hk)
  clear hr
  go_enter Tryd.func31, Tryd.ntmps31
  go_wp2_with (go_at_call 47; refine Calls.mono H.out ?_; rintro e w1 ⟨rfl, hb1, hr1⟩)
  go_ret
  exact ⟨But.of_below hb1 (Nat.le_refl _), rfl, hr1⟩

set_option maxHeartbeats 2000000 in
theorem frac_end (b : Nat) (s : ByteArray) (k : Nat) (w : World) (hr : Rd w b s k) (hk : s.size ≤ k) (hI : ErrInv w) :
    Calls Tryd.prog 31 #[.pointer (some ⟨b, 0, none⟩)] w (Done b s w (.error ((s.size : Int), 2))) := by
  have H := (show Hid _ from peek_end b s k w hr hk hI)
  clear hr hI
  go_enter Tryd.func31, Tryd.ntmps31
  go_wp2_with (go_at_call 47; refine Calls.mono H.out ?_; rintro e w1 ⟨v, rfl, hf, hb1⟩)
  exact ⟨rfl, But.of_below hb1 (Nat.le_refl _), v, rfl, hf⟩

theorem one_err (b : Nat) (s of : ByteArray) (k : Nat) (w : World) (hr : Rd w b s k) (hI : ErrInv w) (x : Int × Nat) (hx : oneS s of k = .error x) :
    Calls Tryd.prog 30 #[.pointer (some ⟨b, 0, none⟩), .string of] w fun e w' => ∃ v, e = .panicked [{ v := v, recovered := false }] ∧ FltIs w' v (some x) ∧ Below w.heap.size w w' := by
  unfold oneS at hx
  split at hx
  · split at hx
    · cases hx
      exact one_bad b s of k w hr (by assumption) (by assumption) hI
    · cases hx
  · cases hx
    exact one_end b s of k w hr (by omega) hI
theorem one_val (b : Nat) (s of : ByteArray) (k : Nat) (w : World) (hr : Rd w b s k) (hs : s.size < 4611686018427387904) (c : UInt8) (hx : oneS s of k = .ok c) :
    Calls Tryd.prog 30 #[.pointer (some ⟨b, 0, none⟩), .string of] w fun e w' => e = .returned (.int .u8 c.toNat) ∧ But b w w' ∧ Rd w' b s (k + 1) := by
  unfold oneS at hx
  split at hx
  · split at hx
    · cases hx
    · cases hx
      exact one_ok b s of k w hr (by assumption) hs (by assumption)
  · cases hx

set_option maxHeartbeats 2000000 in
theorem frac_dot_end (b : Nat) (s : ByteArray) (k : Nat) (w : World) (hr : Rd w b s k) (hk : k < s.size) (hc : (s[k].toNat : Int) = 46) (hs : s.size < 4611686018427387904) (hI : ErrAt b w) (x : Int × Nat) (hx : oneS s digs (k + 1) = .error x) :
    Calls Tryd.prog 31 #[.pointer (some ⟨b, 0, none⟩)] w (Done b s w (.error x)) := by
  have H := (show Hid _ from peek_byte b s k w hr hk)
  have H2 : Hid (∀ w1 : World, Below w.heap.size w w1 → Rd w1 b s k → Calls Tryd.prog 30 #[.pointer (some ⟨b, 0, none⟩), .string ⟨#[48, 49, 50, 51, 52, 53, 54, 55, 56, 57]⟩] (w1.setCell ⟨b, 1, none⟩ (.int .i64 ((k : Int) + 1))) (Done b s w (.error x))) := by
    intro w1 hb1 hr1
    have hbt : But b w (w1.setCell ⟨b, 1, none⟩ (.int .i64 ((k : Int) + 1))) := (But.of_below hb1 (Nat.le_refl _)).setCell 1 _
    refine Calls.mono (one_err b s digs (k + 1) _ hr1.step (hI.but hbt).inv x hx) ?_
    rintro e w2 ⟨v, rfl, hf, hb⟩
    exact ⟨hbt.trans (But.of_below hb (Nat.le_refl _)), v, rfl, hf⟩
  clear hr hI hx
  go_enter Tryd.func31, Tryd.ntmps31
  go_wp2_with (first
    | (go_at_call 47; refine Calls.mono H.out ?_; rintro e w1 ⟨rfl, hb1, hr1⟩; have c1 := hr1.c1; have z1 := hr1.fz 1)
    | (go_at_call 30; refine Calls.mono (H2.out _ hb1 hr1) ?_; rintro e w2 ⟨hb2, v, rfl, hf⟩))
  exact ⟨rfl, hb2, v, rfl, hf⟩

set_option maxHeartbeats 4000000 in
theorem frac_dot (b : Nat) (s : ByteArray) (k : Nat) (w : World) (hr : Rd w b s k) (hk : k < s.size) (hc : (s[k].toNat : Int) = 46) (hs : s.size < 4611686018427387904) (hI : ErrAt b w) (c : UInt8) (hx : oneS s digs (k + 1) = .ok c) (hd : 48 ≤ c.toNat ∧ c.toNat ≤ 57) :
    Calls Tryd.prog 31 #[.pointer (some ⟨b, 0, none⟩)] w (Done b s w (fracR (fracL s 8 100000000 ((c.toNat - 48) * 100000000) (k + 2)))) := by
  have H := (show Hid _ from peek_byte b s k w hr hk)
  have H2 : Hid (∀ w1 : World, Below w.heap.size w w1 → Rd w1 b s k → Calls Tryd.prog 30 #[.pointer (some ⟨b, 0, none⟩), .string ⟨#[48, 49, 50, 51, 52, 53, 54, 55, 56, 57]⟩] (w1.setCell ⟨b, 1, none⟩ (.int .i64 ((k : Int) + 1))) (fun e w' => e = .returned (.int .u8 c.toNat) ∧ But b w w' ∧ Rd w' b s (k + 2))) := by
    intro w1 hb1 hr1
    have hbt : But b w (w1.setCell ⟨b, 1, none⟩ (.int .i64 ((k : Int) + 1))) := (But.of_below hb1 (Nat.le_refl _)).setCell 1 _
    refine Calls.mono (one_val b s digs (k + 1) _ hr1.step hs c hx) ?_
    rintro e w2 ⟨rfl, hb, hr2⟩
    exact ⟨rfl, hbt.trans hb, hr2⟩
  have HI : Hid (ErrAt b w) := hI
  generalize hR : fracL s 8 100000000 ((c.toNat - 48) * 100000000) (k + 2) = R
  have HR : Hid _ := hR
  clear hr hI hx hR
  go_enter Tryd.func31, Tryd.ntmps31
  go_wp2_with (first
    | (go_at_call 47; refine Calls.mono H.out ?_; rintro e w1 ⟨rfl, hb1, hr1⟩; have c1 := hr1.c1; have z1 := hr1.fz 1)
    | (go_at_call 30; refine Calls.mono (H2.out _ hb1 hr1) ?_; rintro e w2 ⟨rfl, hb2, hr2⟩))
  go_loopw [3, 4, 24] (fun n u i wr => ∃ j k' a uN : Nat, j ≤ 8 ∧ i = .int .i64 j ∧ u = .int .i64 uN ∧ uN = 10 ^ (8 - j) ∧ n = .int .i64 a ∧ a + uN ≤ 1000000000 ∧ fracL s (8 - j) uN a k' = R ∧ Rd wr b s k' ∧ But b w wr)
    (fun _ _ i _ => 8 - (intOf i).toNat)
  case atStart =>
    refine ⟨0, k + 2, (c.toNat - 48) * 100000000, 100000000, by omega, rfl, rfl, by simp, ?_, by omega, HR.out, hr2, hb2⟩
    congr 1
    omega
  case round =>
    obtain ⟨j, k', a, uN, hj, rfl, rfl, hu, rfl, ha, hf, hrr, hbb⟩ := hrel
    have HF : Hid _ := hf
    have HB : Hid _ := hbb
    have HD : Hid _ := hrr
    have HU : Hid _ := hu
    by_cases hj8 : j = 8
    · subst hj8
      clear hf hbb hrr hu
      go_wp2
      have hR := HF.out
      rw [Nat.sub_self, fracL] at hR
      subst hR
      go_ret
      exact ⟨HB.out, rfl, HD.out⟩
    · have hlt : (j : Int) < 8 := by omega
      obtain ⟨m, hm⟩ : ∃ m, 8 - j = m + 1 := ⟨7 - j, by omega⟩
      have hu1 : uN = 10 * 10 ^ m := by rw [hu, hm, Nat.pow_succ]; omega
      have hu2 : uN / 10 = 10 ^ m := by omega
      have hu3 : ((uN : Int)).tdiv 10 = ((uN / 10 : Nat) : Int) := by rw [Int.tdiv_eq_ediv_of_nonneg (by omega)]; omega
      by_cases hk1 : k' < s.size
      · have HP := (show Hid _ from peek_byte b s k' wr hrr hk1)
        by_cases hd1 : s[k'].toNat < 48 ∨ 57 < s[k'].toNat
        · have hR : fracR R = .ok (.int .i64 a, k') := by
            have hR := HF.out
            rw [hm, fracL] at hR
            rw [← hR]
            simp [peekS, hk1, hd1, fracR]
          have HRR : Hid _ := hR
          clear hf hbb hrr hu hu1 hu2 hR
          rcases hd1 with hd1 | hd1
          · have hd1' : (s[k'].toNat : Int) < 48 := by omega
            go_wp2_with (go_at_call 47; refine Calls.mono HP.out ?_; rintro e w1 ⟨rfl, hb1, hr1⟩)
            go_ret
            rw [HRR.out]
            exact ⟨HB.out.trans (But.of_below hb1 (Nat.le_refl _)), rfl, hr1⟩
          · have hd1' : ¬ (s[k'].toNat : Int) < 48 := by omega
            have hd2' : (57 : Int) < (s[k'].toNat : Int) := by omega
            go_wp2_with (go_at_call 47; refine Calls.mono HP.out ?_; rintro e w1 ⟨rfl, hb1, hr1⟩)
            go_ret
            rw [HRR.out]
            exact ⟨HB.out.trans (But.of_below hb1 (Nat.le_refl _)), rfl, hr1⟩
        · have hd3 : 48 ≤ s[k'].toNat ∧ s[k'].toNat ≤ 57 := by omega
          have hR : fracL s m (uN / 10) (a + (s[k'].toNat - 48) * (uN / 10)) (k' + 1) = R := by
            have hR := HF.out
            rw [hm, fracL] at hR
            rw [← hR]
            simp [peekS, hk1, hd1]
          have HR2 : Hid _ := hR
          have H3 : Hid (∀ w1 : World, Below wr.heap.size wr w1 → Rd w1 b s k' → Calls Tryd.prog 30 #[.pointer (some ⟨b, 0, none⟩), .string ⟨#[48, 49, 50, 51, 52, 53, 54, 55, 56, 57]⟩] w1 (fun e w' => e = .returned (.int .u8 s[k'].toNat) ∧ But b w w' ∧ Rd w' b s (k' + 1))) := by
            intro w1 hb1 hr1
            refine Calls.mono (one_ok b s digs k' w1 hr1 hk1 hs (of_digit _ hd3.1 hd3.2)) ?_
            rintro e w2 ⟨rfl, hb, hr2⟩
            exact ⟨rfl, (HB.out.trans (But.of_below hb1 (Nat.le_refl _))).trans hb, hr2⟩
          have hq : (s[k'].toNat - 48) * (uN / 10) + uN / 10 ≤ uN := by
            have h9 : s[k'].toNat - 48 ≤ 9 := by omega
            have := Nat.mul_le_mul_right (uN / 10) h9
            omega
          have hqI : ((s[k'].toNat : Int) - 48) * ((uN / 10 : Nat) : Int) = (((s[k'].toNat - 48) * (uN / 10) : Nat) : Int) := by
            push_cast
            rw [Int.ofNat_sub hd3.1]
            rfl
          generalize hprod : (s[k'].toNat - 48) * (uN / 10) = prod at hq hqI HR2
          generalize hqq : uN / 10 = q at *
          have HU2 : Hid (q = 10 ^ m) := hu2
          have hb9 : q ≤ 1000000000 := by omega
          have hp9 : a + prod ≤ 1000000000 := by omega
          clear hf hbb hrr hu hu1 hR hprod hu2
          have hd1' : ¬ (s[k'].toNat : Int) < 48 := by omega
          have hd2' : ¬ (57 : Int) < (s[k'].toNat : Int) := by omega
          go_wp2_with (first
            | (go_at_call 47; refine Calls.mono HP.out ?_; rintro e w1 ⟨rfl, hb1, hr1⟩)
            | (go_at_call 30; refine Calls.mono (H3.out _ hb1 hr1) ?_; rintro e w2 ⟨rfl, hb2, hr2⟩))
          refine ⟨⟨j + 1, k' + 1, a + prod, q, by omega, by push_cast; rfl, rfl, ?_, by push_cast; rfl, by omega, ?_, hr2, hb2⟩, ?_⟩
          · rw [HU2.out, show 8 - (j + 1) = m by omega]
          · rw [show 8 - (j + 1) = m by omega]
            exact HR2.out
          · simp [intOf]
            omega
      · have HE := (show Hid _ from peek_end b s k' wr hrr (by omega) (HI.out.but hbb).inv)
        have hR : fracR R = .error ((s.size : Int), 2) := by
          have hR := HF.out
          rw [hm, fracL] at hR
          rw [← hR]
          simp [peekS, hk1, fracR]
        have HRR : Hid _ := hR
        clear hf hbb hrr hu hu1 hu2 hR
        go_wp2_with (go_at_call 47; refine Calls.mono HE.out ?_; rintro e w1 ⟨v, rfl, hf, hb1⟩)
        refine ⟨rfl, ?_⟩
        rw [HRR.out]
        exact ⟨HB.out.trans (But.of_below hb1 (Nat.le_refl _)), v, rfl, hf⟩

theorem frac_any (b : Nat) (s : ByteArray) (k : Nat) (w : World) (hr : Rd w b s k) (hs : s.size < 4611686018427387904) (hI : ErrAt b w) :
    Calls Tryd.prog 31 #[.pointer (some ⟨b, 0, none⟩)] w (Done b s w (fracR (fracS s k))) := by
  by_cases hk : k < s.size
  · by_cases hc : s[k].toNat = 46
    · have hc' : (s[k].toNat : Int) = 46 := by omega
      cases hx : oneS s digs (k + 1) with
      | error x =>
        have e : fracR (fracS s k) = .error x := by simp [fracS, peekS, hk, hc, hx, fracR]
        rw [e]
        exact frac_dot_end b s k w hr hk hc' hs hI x hx
      | ok c =>
        have e : fracR (fracS s k) = fracR (fracL s 8 100000000 ((c.toNat - 48) * 100000000) (k + 2)) := by simp [fracS, peekS, hk, hc, hx]
        rw [e]
        refine frac_dot b s k w hr hk hc' hs hI c hx ?_
        unfold oneS at hx
        split at hx
        · split at hx
          · cases hx
          · cases hx
            exact digit_of _ (by assumption)
        · cases hx
    · have e : fracR (fracS s k) = .ok (.int .i64 0, k) := by simp [fracS, peekS, hk, hc, fracR]
      rw [e]
      exact frac_none b s k w hr hk (by omega)
  · have e : fracR (fracS s k) = .error ((s.size : Int), 2) := by simp [fracS, peekS, hk, fracR]
    rw [e]
    exact frac_end b s k w hr (by omega) hI.inv

end Go.Proofs.YtlgdenihddkjaaaDoor

namespace Go.Proofs.YtlgdenihddkjaaaDoor
set_option linter.unusedSimpArgs false
set_option linter.unusedVariables false
open Go.RowKit

theorem info54 : (Tryd.prog.info? 54).map (fun i => (i.zero, i.size, i.bytes)) = some (some (.agg #[.int .i64 0, .int .i64 0, .int .i64 0, .int .i64 0]), 4, 32) := by kernel_rfl
/-- Nothing that was there turns, but what is named. -/
structure Keep (S : Nat → Prop) (w w' : World) : Prop where
  os : w'.os = w.os
  tape : w'.tape = w.tape
  output : w'.output = w.output
  size : w.heap.size ≤ w'.heap.size
  block : ∀ k, k < w.heap.size → ¬ S k → w'.heap[k]? = w.heap[k]?
theorem Keep.refl (S : Nat → Prop) (w : World) : Keep S w w := ⟨rfl, rfl, rfl, Nat.le_refl _, fun _ _ _ => rfl⟩
theorem Keep.trans {S : Nat → Prop} {x y z : World} (h : Keep S x y) (k : Keep S y z) : Keep S x z :=
  ⟨k.os.trans h.os, k.tape.trans h.tape, k.output.trans h.output, Nat.le_trans h.size k.size, fun i hi hb => (k.block i (Nat.lt_of_lt_of_le hi h.size) hb).trans (h.block i hi hb)⟩
theorem Keep.of_but {S : Nat → Prop} {b : Nat} {w w' : World} (h : But b w w') (hb : S b) : Keep S w w' :=
  ⟨h.os, h.tape, h.output, h.size, fun k hk hS => h.block k hk (fun e => hS (e ▸ hb))⟩
theorem Keep.below {S : Nat → Prop} {n : Nat} {w w' : World} (h : Keep S w w') (hS : ∀ k, k < n → ¬ S k) (hn : n ≤ w.heap.size) : Below n w w' :=
  ⟨h.os, h.tape, h.output, h.size, fun k hk => h.block k (by omega) (hS k hk)⟩
/-- The blocks that the closure may turn: the text's, the row's variable, and whatever lies from M on. -/
def Turns (b L M : Nat) (k : Nat) : Prop := k = b ∨ k = L ∨ M ≤ k
/-- What the closure finds. -/
structure Tk (w : World) (M L D b : Nat) (s : ByteArray) (k : Nat) (v : Value) (n : Nat) (xs : List Value) : Prop where
  l : w.heap[L]? = some (.cells #[v] 52 (0, 0))
  d : w.heap[D]? = some (.cells #[.pointer (some ⟨b, 0, none⟩)] 49 (0, 0))
  rd : Rd w b s k
  own : w.ownsRow M 54 4 v n xs
  hL : L < M
  hD : D < M
  hb : b < M
  hM : M ≤ w.heap.size
  hLb : b < L
  hLD : L ≠ D
  hDb : D ≠ b
theorem frozen_alloc {w : World} {L : Nat} (h : L < w.heap.size) (i : Nat) (o : Obj) : (w.alloc o).frozen? ⟨L, i, none⟩ = w.frozen? ⟨L, i, none⟩ := World.frozen?_of_block (Below.heap_alloc _ _ _ h)
/-- What the closure reads. -/
def takeS (s : ByteArray) (many : Nat) (behind : ByteArray) (k : Nat) : Except (Int × Nat) (Nat × UInt8 × Nat) :=
  match numS s many 0 k with
  | .error x => .error x
  | .ok a => if behind.size = 0 then .ok (a, 0, k + many) else match oneS s behind (k + many) with
    | .error x => .error x
    | .ok c => .ok (a, c, k + many + 1)

/-- What the closure leaves. -/
def TakeDone (M L D b : Nat) (s : ByteArray) (k : Nat) (low high : Int) (n : Nat) (xs : List Value) (w : World) (r : Except (Int × Nat) (Nat × UInt8 × Nat)) (e : Ending) (w' : World) : Prop :=
  Keep (Turns b L M) w w' ∧ match r with
    | .error x => ∃ v, e = .panicked [{ v := v, recovered := false }] ∧ FltIs w' v (some x)
    | .ok (a, c, k') => e = .returned (.int .u8 c.toNat) ∧ ∃ v', Tk w' M L D b s k' v' (n + 1) (xs ++ [.int .i64 a, .int .i64 k, .int .i64 low, .int .i64 high])

set_option maxHeartbeats 4000000 in
theorem take_bad (M L D b : Nat) (s : ByteArray) (k many : Nat) (low high : Int) (behind : ByteArray) (v : Value) (n : Nat) (xs : List Value) (w : World) (hT : Tk w M L D b s k v n xs)
    (hm : many ≤ 4) (hs : s.size < 4611686018427387904) (hk : k ≤ s.size) (hI : ErrAt b w) (x : Int × Nat) (hx : numS s many 0 k = .error x) :
    Calls Tryd.prog 28 #[.int .i64 many, .int .i64 low, .int .i64 high, .string behind, .pointer (some ⟨L, 0, none⟩), .pointer (some ⟨D, 0, none⟩)] w (TakeDone M L D b s k low high n xs w (.error x)) := by
  have hl := blk_cell hT.l 0
  have hd := blk_cell hT.d 0
  simp at hl hd
  have H : Hid (∀ w1 : World, w1.heap = w.heap → w1.os = w.os → w1.tape = w.tape → w1.output = w.output → Calls Tryd.prog 29 #[.pointer (some ⟨b, 0, none⟩), .int .i64 many, .int .i64 low, .int .i64 high] w1 (Done b s w (.error x))) := by
    intro w1 h1 h2 h3 h4
    have hb1 : But b w w1 := ⟨h2, h3, h4, by rw [h1]; exact Nat.le_refl _, fun _ _ _ => by rw [h1]⟩
    refine Calls.mono (number_any b s k many low high w1 (by unfold Rd; rw [h1]; exact hT.rd) hm hs hk (hI.but hb1)) ?_
    intro e w2 hd
    rw [hx] at hd
    obtain ⟨hb2, v, rfl, hf⟩ := hd
    exact ⟨hb1.trans hb2, v, rfl, hf⟩
  clear hT hI hx
  go_enter Tryd.func28, Tryd.ntmps28
  go_wp2
  go_region_dies
  all_goals
    refine Calls.mono (H.out _ rfl rfl rfl rfl) ?_
    rintro e w' ⟨hb, v, rfl, hf⟩
    exact ⟨rfl, Keep.of_but hb (Or.inl rfl), v, rfl, hf⟩

theorem owns_at {w w' : World} {M n : Nat} {v : Value} {xs : List Value} (h : w.ownsRow M 54 4 v n xs) (hb : ∀ k, M ≤ k → k < w.heap.size → w'.heap[k]? = w.heap[k]?) : w'.ownsRow M 54 4 v n xs := by
  obtain ⟨h7, h8⟩ := h
  refine ⟨h7, ?_⟩
  rcases h8 with h8 | ⟨g, cap, cur, rfl, hg, hh, hr2⟩
  · exact .inl h8
  · exact .inr ⟨g, cap, cur, rfl, hg, (hb g hg (heap_lt hh)).trans hh, hr2⟩
/-- Behind the append and the store. -/
theorem Tk.grow {w w2 w3 : World} {M L D b : Nat} {s : ByteArray} {k : Nat} {v v' : Value} {n n' : Nat} {xs ys : List Value} {o : Obj} (h : Tk w2 M L D b s k v n xs) (hb : Keep (Turns b L M) w w2)
    (hown : w3.ownsRow M 54 4 v' n' ys) (hg : (w2.alloc o).grownBy w3 v.ownBlock) (u : Value) (hu : u = v') :
    Keep (Turns b L M) w (w3.setCell ⟨L, 0, none⟩ u) ∧ Tk (w3.setCell ⟨L, 0, none⟩ u) M L D b s k v' n' ys := by
  subst hu
  have e0 : ∀ j, j < w2.heap.size → j < M → w3.heap[j]? = w2.heap[j]? := fun j hj hjM => by
    rw [hg.block j (by simp; omega) (fun e => by have := (h.own.lt _ e.symm).1; omega)]
    exact Below.heap_alloc _ _ _ hj
  have hM := h.hM; have hL := h.hL; have hD := h.hD; have hbM := h.hb
  have hsz : w2.heap.size ≤ w3.heap.size := by have := hg.size; simp at this; omega
  have k3 : Keep (Turns b L M) w (w3.setCell ⟨L, 0, none⟩ u) := by
    refine hb.trans ⟨hg.os, hg.tape, hg.output, by simpa [World.setCell] using hsz, fun j hj hS => ?_⟩
    have hjM : j < M := Nat.lt_of_not_le (fun e => hS (.inr (.inr e)))
    exact (Below.heap_setCell _ _ _ _ (fun e => hS (.inr (.inl e)))).trans (e0 j hj hjM)
  refine ⟨k3, ⟨?_, ?_, ?_, ?_, hL, hD, hbM, by simp [World.setCell]; omega, h.hLb, h.hLD, h.hDb⟩⟩
  · simpa using blk_set ((e0 L (by omega) hL).trans h.l) 0 u
  · exact (Below.heap_setCell _ _ _ _ (Ne.symm h.hLD)).trans ((e0 D (by omega) hD).trans h.d)
  · exact (Below.heap_setCell _ _ _ _ (Nat.ne_of_lt h.hLb)).trans ((e0 b (by omega) hbM).trans h.rd)
  · exact owns_at hown (fun j hj _ => Below.heap_setCell _ _ _ _ (by show j ≠ L; omega))

theorem Tk.but {w w' : World} {M L D b : Nat} {s : ByteArray} {k k' : Nat} {v : Value} {n : Nat} {xs : List Value} (h : Tk w M L D b s k v n xs) (hb : But b w w') (hr : Rd w' b s k') : Tk w' M L D b s k' v n xs := by
  have hM := h.hM; have hL := h.hL; have hD := h.hD; have hbM := h.hb
  exact ⟨(hb.block L (by omega) (Nat.ne_of_gt h.hLb)).trans h.l, (hb.block D (by omega) h.hDb).trans h.d, hr, owns_at h.own (fun j hj hl => hb.block j hl (by omega)), hL, hD, hbM, by have := hb.size; omega, h.hLb, h.hLD, h.hDb⟩
theorem ErrAt.keep {b L M : Nat} {w w' : World} (h : ErrAt b w) (hk : Keep (Turns b L M) w w') (hL : b < L) (hM : b < M) : ErrAt b w' :=
  let ⟨w0, hs, hI, h0⟩ := h
  ⟨w0, hs, hI, h0.trans (hk.below (fun k hk hT => by rcases hT with rfl | rfl | hT <;> omega) h0.size)⟩
theorem Tk.dcell {w : World} {M L D b : Nat} {s : ByteArray} {k : Nat} {v : Value} {n : Nat} {xs : List Value} (h : Tk w M L D b s k v n xs) : w.cell? ⟨D, 0, none⟩ = some (.pointer (some ⟨b, 0, none⟩)) := by
  simpa using blk_cell h.d 0
set_option maxRecDepth 100000 in
set_option maxHeartbeats 8000000 in
theorem take_none (M L D b : Nat) (s : ByteArray) (k many : Nat) (low high : Int) (v : Value) (n : Nat) (xs : List Value) (w : World) (hT : Tk w M L D b s k v n xs)
    (hm : many ≤ 4) (hs : s.size < 4611686018427387904) (hk : k ≤ s.size) (hn : n < 100) (hI : ErrAt b w) (a : Nat) (hx : numS s many 0 k = .ok a) :
    Calls Tryd.prog 28 #[.int .i64 many, .int .i64 low, .int .i64 high, .string ⟨#[]⟩, .pointer (some ⟨L, 0, none⟩), .pointer (some ⟨D, 0, none⟩)] w (TakeDone M L D b s k low high n xs w (.ok (a, 0, k + many))) := by
  obtain ⟨i0, hi0, hz0, hz1, hz2⟩ := info_parts info54
  have hl := blk_cell hT.l 0
  have hd := blk_cell hT.d 0
  have hzL := blk_fz hT.l 0
  simp at hl hd
  have H : Hid (∀ w1 : World, w1.heap = w.heap → w1.os = w.os → w1.tape = w.tape → w1.output = w.output → Calls Tryd.prog 29 #[.pointer (some ⟨b, 0, none⟩), .int .i64 many, .int .i64 low, .int .i64 high] w1 (fun e w' => e = .returned (.agg #[.int .i64 a, .int .i64 k, .int .i64 low, .int .i64 high]) ∧
      w'.cell? ⟨L, 0, none⟩ = some v ∧ w'.cell? ⟨D, 0, none⟩ = some (.pointer (some ⟨b, 0, none⟩)) ∧ But b w w' ∧ Tk w' M L D b s (k + many) v n xs)) := by
    intro w1 h1 h2 h3 h4
    have hb1 : But b w w1 := ⟨h2, h3, h4, by rw [h1]; exact Nat.le_refl _, fun _ _ _ => by rw [h1]⟩
    refine Calls.mono (number_any b s k many low high w1 (by unfold Rd; rw [h1]; exact hT.rd) hm hs hk (hI.but hb1)) ?_
    intro e w2 hd
    rw [hx] at hd
    obtain ⟨hb2, rfl, hr⟩ := hd
    have hb := hb1.trans hb2
    have hM := hT.hM
    have h5 := (hb.block L (by have := hT.hL; omega) (Nat.ne_of_gt hT.hLb)).trans hT.l
    have h6 := (hb.block D (by have := hT.hD; omega) hT.hDb).trans hT.d
    refine ⟨rfl, by simpa using blk_cell h5 0, by simpa using blk_cell h6 0, hb, ⟨h5, h6, hr, ?_, hT.hL, hT.hD, hT.hb, by have := hb.size; omega, hT.hLb, hT.hLD, hT.hDb⟩⟩
    obtain ⟨h7, h8⟩ := hT.own
    refine ⟨h7, ?_⟩
    rcases h8 with h8 | ⟨g, cap, cur, rfl, hg, hh, hr2⟩
    · exact .inl h8
    · exact .inr ⟨g, cap, cur, rfl, hg, (hb.block g (heap_lt hh) (by have := hT.hb; omega)).trans hh, hr2⟩
  have aL : v.ownBlock ≠ some L := fun e => by have := (hT.own.lt _ e).1; have := hT.hL; omega
  have aD : v.ownBlock ≠ some D := fun e => by have := (hT.own.lt _ e).1; have := hT.hD; omega
  clear hT hI hx
  go_enter Tryd.func28, Tryd.ntmps28
  go_wp2
  go_region_law
    (first
      | (go_simp; refine Calls.mono (H.out _ rfl rfl rfl rfl) ?_; rintro e w2 ⟨rfl, hl2, hd2, hb2, hT2⟩; have hM2 := hT2.hM; have hL2 := hT2.hL; have hD2 := hT2.hD; have hlU := fun o => (World.cell?_alloc_some w2 ⟨L, 0, none⟩ o (by rw [hl2]; rfl)).trans hl2; have hzT := blk_fz hT2.l 0; have hzU := fun o => (frozen_alloc (heap_lt hT2.l) 0 o).trans hzT; dsimp only)
      | (refine step_append_lies _ (by rfl) _ _ _ (by rfl) M 54 i0 _ 4 32 Tryd.underlying52 hi0 hz0 hz1 hz2 rfl (by omega) v n xs (by rfl) (hT2.own.alloc _)
          ⟨w2.heap.size, 0, none⟩ 1 1 [.int .i64 a, .int .i64 k, .int .i64 low, .int .i64 high] (by rfl) (by rfl) (World.news_of_block (cs := #[.int .i64 a, .int .i64 k, .int .i64 low, .int .i64 high]) (t := 54) (fr := (0, 0)) (heap_alloc_new w2 _)) (by simp [Value.oneCell'])
          (by omega) (by unfold maxLen; omega) (by omega) (by have := hT2.hM; simp; omega) (w2.heap.size + 1) (by simp) ?_; intro gg cap w3 hown3 hgrow hat hlt
         have hL3 : w3.cell? ⟨L, 0, none⟩ = some v := by rw [hgrow.cell_far _ (by simp; omega) (by simpa using Ne.symm aL)]; exact hlU _
         have hZ3 : w3.frozen? ⟨L, 0, none⟩ = false := by rw [hgrow.frozen_far _ (by simp; omega) (by simpa using Ne.symm aL)]; exact hzU _))
  all_goals
    rename_i hK
    have hG := hT2.grow (Keep.of_but hb2 (Or.inl rfl)) hown3 hgrow _ rfl
    refine hK _ _ ?_
    clear hK hgrow hown3 hL3 hZ3 hzU hlU
    generalize w3.setCell _ _ = w4 at hG ⊢
    obtain ⟨hK4, hT4⟩ := hG
    go_wp2
    go_ret
    exact ⟨hK4, rfl, _, hT4⟩

set_option maxRecDepth 100000 in
set_option maxHeartbeats 8000000 in
theorem take_bad2 (M L D b : Nat) (s : ByteArray) (k many : Nat) (low high : Int) (v : Value) (n : Nat) (xs : List Value) (w : World) (hT : Tk w M L D b s k v n xs)
    (hm : many ≤ 4) (hs : s.size < 4611686018427387904) (hk : k ≤ s.size) (hn : n < 100) (hI : ErrAt b w) (a : Nat) (hx : numS s many 0 k = .ok a) (be : ByteArray) (hbe : be.toList.isEmpty = false) (x : Int × Nat) (hy : oneS s be (k + many) = .error x) :
    Calls Tryd.prog 28 #[.int .i64 many, .int .i64 low, .int .i64 high, .string be, .pointer (some ⟨L, 0, none⟩), .pointer (some ⟨D, 0, none⟩)] w (TakeDone M L D b s k low high n xs w (.error x)) := by
  obtain ⟨i0, hi0, hz0, hz1, hz2⟩ := info_parts info54
  have hl := blk_cell hT.l 0
  have hd := blk_cell hT.d 0
  have hzL := blk_fz hT.l 0
  simp at hl hd
  have H : Hid (∀ w1 : World, w1.heap = w.heap → w1.os = w.os → w1.tape = w.tape → w1.output = w.output → Calls Tryd.prog 29 #[.pointer (some ⟨b, 0, none⟩), .int .i64 many, .int .i64 low, .int .i64 high] w1 (fun e w' => e = .returned (.agg #[.int .i64 a, .int .i64 k, .int .i64 low, .int .i64 high]) ∧
      w'.cell? ⟨L, 0, none⟩ = some v ∧ w'.cell? ⟨D, 0, none⟩ = some (.pointer (some ⟨b, 0, none⟩)) ∧ But b w w' ∧ Tk w' M L D b s (k + many) v n xs)) := by
    intro w1 h1 h2 h3 h4
    have hb1 : But b w w1 := ⟨h2, h3, h4, by rw [h1]; exact Nat.le_refl _, fun _ _ _ => by rw [h1]⟩
    refine Calls.mono (number_any b s k many low high w1 (by unfold Rd; rw [h1]; exact hT.rd) hm hs hk (hI.but hb1)) ?_
    intro e w2 hd
    rw [hx] at hd
    obtain ⟨hb2, rfl, hr⟩ := hd
    have hb := hb1.trans hb2
    have hM := hT.hM
    have h5 := (hb.block L (by have := hT.hL; omega) (Nat.ne_of_gt hT.hLb)).trans hT.l
    have h6 := (hb.block D (by have := hT.hD; omega) hT.hDb).trans hT.d
    refine ⟨rfl, by simpa using blk_cell h5 0, by simpa using blk_cell h6 0, hb, ⟨h5, h6, hr, ?_, hT.hL, hT.hD, hT.hb, by have := hb.size; omega, hT.hLb, hT.hLD, hT.hDb⟩⟩
    obtain ⟨h7, h8⟩ := hT.own
    refine ⟨h7, ?_⟩
    rcases h8 with h8 | ⟨g, cap, cur, rfl, hg, hh, hr2⟩
    · exact .inl h8
    · exact .inr ⟨g, cap, cur, rfl, hg, (hb.block g (heap_lt hh) (by have := hT.hb; omega)).trans hh, hr2⟩
  have aL : v.ownBlock ≠ some L := fun e => by have := (hT.own.lt _ e).1; have := hT.hL; omega
  have aD : v.ownBlock ≠ some D := fun e => by have := (hT.own.lt _ e).1; have := hT.hD; omega
  have HX := (show Hid _ from hy)
  have hI := (show Hid _ from hI)
  clear hT hx hy
  go_enter Tryd.func28, Tryd.ntmps28
  go_wp2
  go_region_law
    (first
      | (go_simp; refine Calls.mono (H.out _ rfl rfl rfl rfl) ?_; rintro e w2 ⟨rfl, hl2, hd2, hb2, hT2⟩; have hM2 := hT2.hM; have hL2 := hT2.hL; have hD2 := hT2.hD; have hlU := fun o => (World.cell?_alloc_some w2 ⟨L, 0, none⟩ o (by rw [hl2]; rfl)).trans hl2; have hzT := blk_fz hT2.l 0; have hzU := fun o => (frozen_alloc (heap_lt hT2.l) 0 o).trans hzT; dsimp only)
      | (refine step_append_lies _ (by rfl) _ _ _ (by rfl) M 54 i0 _ 4 32 Tryd.underlying52 hi0 hz0 hz1 hz2 rfl (by omega) v n xs (by rfl) (hT2.own.alloc _)
          ⟨w2.heap.size, 0, none⟩ 1 1 [.int .i64 a, .int .i64 k, .int .i64 low, .int .i64 high] (by rfl) (by rfl) (World.news_of_block (cs := #[.int .i64 a, .int .i64 k, .int .i64 low, .int .i64 high]) (t := 54) (fr := (0, 0)) (heap_alloc_new w2 _)) (by simp [Value.oneCell'])
          (by omega) (by unfold maxLen; omega) (by omega) (by have := hT2.hM; simp; omega) (w2.heap.size + 1) (by simp) ?_; intro gg cap w3 hown3 hgrow hat hlt
         have hL3 : w3.cell? ⟨L, 0, none⟩ = some v := by rw [hgrow.cell_far _ (by simp; omega) (by simpa using Ne.symm aL)]; exact hlU _
         have hZ3 : w3.frozen? ⟨L, 0, none⟩ = false := by rw [hgrow.frozen_far _ (by simp; omega) (by simpa using Ne.symm aL)]; exact hzU _))
  all_goals
    rename_i hK
    have hG := hT2.grow (Keep.of_but hb2 (Or.inl rfl)) hown3 hgrow _ rfl
    refine hK _ _ ?_
    clear hK hgrow hown3 hL3 hZ3 hzU hlU
    generalize w3.setCell _ _ = w4 at hG ⊢
    obtain ⟨hK4, hT4⟩ := hG
    have hd4 := hT4.dcell
    have HI : Hid (ErrInv w4) := (ErrAt.keep hI.out hK4 hT4.hLb hT4.hb).inv
    have HT := (show Hid _ from hT4)
    have HK := (show Hid _ from hK4)
    clear hT4 hK4
    go_wp2_with (go_at_call 30; refine Calls.mono (one_err b s be _ _ HT.out.rd HI.out x HX.out) ?_; rintro e w5 ⟨u, rfl, hf, hb5⟩)
    exact ⟨rfl, HK.out.trans (Keep.of_but (But.of_below hb5 (Nat.le_refl _)) (Or.inl rfl)), u, rfl, hf⟩

set_option maxRecDepth 100000 in
set_option maxHeartbeats 8000000 in
theorem take_some (M L D b : Nat) (s : ByteArray) (k many : Nat) (low high : Int) (v : Value) (n : Nat) (xs : List Value) (w : World) (hT : Tk w M L D b s k v n xs)
    (hm : many ≤ 4) (hs : s.size < 4611686018427387904) (hk : k ≤ s.size) (hn : n < 100) (hI : ErrAt b w) (a : Nat) (hx : numS s many 0 k = .ok a) (be : ByteArray) (hbe : be.toList.isEmpty = false) (c : UInt8) (hy : oneS s be (k + many) = .ok c) :
    Calls Tryd.prog 28 #[.int .i64 many, .int .i64 low, .int .i64 high, .string be, .pointer (some ⟨L, 0, none⟩), .pointer (some ⟨D, 0, none⟩)] w (TakeDone M L D b s k low high n xs w (.ok (a, c, k + many + 1))) := by
  obtain ⟨i0, hi0, hz0, hz1, hz2⟩ := info_parts info54
  have hl := blk_cell hT.l 0
  have hd := blk_cell hT.d 0
  have hzL := blk_fz hT.l 0
  simp at hl hd
  have H : Hid (∀ w1 : World, w1.heap = w.heap → w1.os = w.os → w1.tape = w.tape → w1.output = w.output → Calls Tryd.prog 29 #[.pointer (some ⟨b, 0, none⟩), .int .i64 many, .int .i64 low, .int .i64 high] w1 (fun e w' => e = .returned (.agg #[.int .i64 a, .int .i64 k, .int .i64 low, .int .i64 high]) ∧
      w'.cell? ⟨L, 0, none⟩ = some v ∧ w'.cell? ⟨D, 0, none⟩ = some (.pointer (some ⟨b, 0, none⟩)) ∧ But b w w' ∧ Tk w' M L D b s (k + many) v n xs)) := by
    intro w1 h1 h2 h3 h4
    have hb1 : But b w w1 := ⟨h2, h3, h4, by rw [h1]; exact Nat.le_refl _, fun _ _ _ => by rw [h1]⟩
    refine Calls.mono (number_any b s k many low high w1 (by unfold Rd; rw [h1]; exact hT.rd) hm hs hk (hI.but hb1)) ?_
    intro e w2 hd
    rw [hx] at hd
    obtain ⟨hb2, rfl, hr⟩ := hd
    have hb := hb1.trans hb2
    have hM := hT.hM
    have h5 := (hb.block L (by have := hT.hL; omega) (Nat.ne_of_gt hT.hLb)).trans hT.l
    have h6 := (hb.block D (by have := hT.hD; omega) hT.hDb).trans hT.d
    refine ⟨rfl, by simpa using blk_cell h5 0, by simpa using blk_cell h6 0, hb, ⟨h5, h6, hr, ?_, hT.hL, hT.hD, hT.hb, by have := hb.size; omega, hT.hLb, hT.hLD, hT.hDb⟩⟩
    obtain ⟨h7, h8⟩ := hT.own
    refine ⟨h7, ?_⟩
    rcases h8 with h8 | ⟨g, cap, cur, rfl, hg, hh, hr2⟩
    · exact .inl h8
    · exact .inr ⟨g, cap, cur, rfl, hg, (hb.block g (heap_lt hh) (by have := hT.hb; omega)).trans hh, hr2⟩
  have aL : v.ownBlock ≠ some L := fun e => by have := (hT.own.lt _ e).1; have := hT.hL; omega
  have aD : v.ownBlock ≠ some D := fun e => by have := (hT.own.lt _ e).1; have := hT.hD; omega
  have HX := (show Hid _ from hy)
  have hI := (show Hid _ from hI)
  clear hT hx hy
  go_enter Tryd.func28, Tryd.ntmps28
  go_wp2
  go_region_law
    (first
      | (go_simp; refine Calls.mono (H.out _ rfl rfl rfl rfl) ?_; rintro e w2 ⟨rfl, hl2, hd2, hb2, hT2⟩; have hM2 := hT2.hM; have hL2 := hT2.hL; have hD2 := hT2.hD; have hlU := fun o => (World.cell?_alloc_some w2 ⟨L, 0, none⟩ o (by rw [hl2]; rfl)).trans hl2; have hzT := blk_fz hT2.l 0; have hzU := fun o => (frozen_alloc (heap_lt hT2.l) 0 o).trans hzT; dsimp only)
      | (refine step_append_lies _ (by rfl) _ _ _ (by rfl) M 54 i0 _ 4 32 Tryd.underlying52 hi0 hz0 hz1 hz2 rfl (by omega) v n xs (by rfl) (hT2.own.alloc _)
          ⟨w2.heap.size, 0, none⟩ 1 1 [.int .i64 a, .int .i64 k, .int .i64 low, .int .i64 high] (by rfl) (by rfl) (World.news_of_block (cs := #[.int .i64 a, .int .i64 k, .int .i64 low, .int .i64 high]) (t := 54) (fr := (0, 0)) (heap_alloc_new w2 _)) (by simp [Value.oneCell'])
          (by omega) (by unfold maxLen; omega) (by omega) (by have := hT2.hM; simp; omega) (w2.heap.size + 1) (by simp) ?_; intro gg cap w3 hown3 hgrow hat hlt
         have hL3 : w3.cell? ⟨L, 0, none⟩ = some v := by rw [hgrow.cell_far _ (by simp; omega) (by simpa using Ne.symm aL)]; exact hlU _
         have hZ3 : w3.frozen? ⟨L, 0, none⟩ = false := by rw [hgrow.frozen_far _ (by simp; omega) (by simpa using Ne.symm aL)]; exact hzU _))
  all_goals
    rename_i hK
    have hG := hT2.grow (Keep.of_but hb2 (Or.inl rfl)) hown3 hgrow _ rfl
    refine hK _ _ ?_
    clear hK hgrow hown3 hL3 hZ3 hzU hlU
    generalize w3.setCell _ _ = w4 at hG ⊢
    obtain ⟨hK4, hT4⟩ := hG
    have hd4 := hT4.dcell
    have HT := (show Hid _ from hT4)
    have HK := (show Hid _ from hK4)
    clear hT4 hK4
    go_wp2_with (go_at_call 30; refine Calls.mono (one_val b s be _ _ HT.out.rd hs c HX.out) ?_; rintro e w5 ⟨rfl, hb5, hr5⟩)
    go_ret
    exact ⟨HK.out.trans (Keep.of_but hb5 (Or.inl rfl)), rfl, _, HT.out.but hb5 hr5⟩

/-- The closure, whatever it finds. -/
theorem take_any (M L D b : Nat) (s : ByteArray) (k many : Nat) (low high : Int) (v : Value) (n : Nat) (xs : List Value) (w : World) (hT : Tk w M L D b s k v n xs)
    (hm : many ≤ 4) (hs : s.size < 4611686018427387904) (hk : k ≤ s.size) (hn : n < 100) (hI : ErrAt b w) (be : ByteArray) (hbe : be = ⟨#[]⟩ ∨ (be.toList.isEmpty = false ∧ be.size ≠ 0)) :
    Calls Tryd.prog 28 #[.int .i64 many, .int .i64 low, .int .i64 high, .string be, .pointer (some ⟨L, 0, none⟩), .pointer (some ⟨D, 0, none⟩)] w (TakeDone M L D b s k low high n xs w (takeS s many be k)) := by
  unfold takeS
  cases hx : numS s many 0 k with
  | error x => exact take_bad M L D b s k many low high be v n xs w hT hm hs hk hI x hx
  | ok a =>
    rcases hbe with rfl | ⟨h1, h2⟩
    · exact take_none M L D b s k many low high v n xs w hT hm hs hk hn hI a hx
    · simp only [if_neg h2]
      cases hy : oneS s be (k + many) with
      | error x => exact take_bad2 M L D b s k many low high v n xs w hT hm hs hk hn hI a hx be h1 x hy
      | ok c => exact take_some M L D b s k many low high v n xs w hT hm hs hk hn hI a hx be h1 c hy
end Go.Proofs.YtlgdenihddkjaaaDoor

/- What the deferred closure of stamp.Parse does: nothing, if nothing panics; else the fault is the error and the stamp is naught. -/
namespace Go.Proofs.YtlgdenihddkjaaaDoor
set_option linter.unusedSimpArgs false
set_option linter.unusedVariables false
open Go.RowKit

theorem assert_nil (w : World) : (Instr.typeAssert Value.nilIface 20 47 true).run Tryd.prog w = .ok (.tuple #[.pointer none, .bool false]) w := by kernel_rfl
theorem assert_flt (g : Addr) (w : World) : (Instr.typeAssert (.iface 47 (.pointer (some g))) 20 47 true).run Tryd.prog w = .ok (.tuple #[.pointer (some g), .bool true]) w := by kernel_rfl

set_option maxRecDepth 100000 in
theorem catch_idle (p q : Addr) (w : World) :
    CallsD Tryd.prog 27 #[.pointer (some p), .pointer (some q)] .returning w fun e u' w' => e = .returned (.tuple #[]) ∧ u' = .returning ∧ w' = w := by
  refine callsD_of_wpS Tryd.func27 rfl fun c₀ cs hu => ?_
  apply wpS_seq
  apply wpS_region
  simp [wpOpsS, go_sem, recoverD, hu, assert_nil, assert_flt, Tryd.ntmps27, Exit.thenS]
  apply wpS_seq
  apply wpS_region
  simp [wpOpsS, go_sem, Exit.thenS]
  refine wpS_cond (t := false) (by simp [Act.eval, Array.replicate]) ?_
  simp only [Bool.false_eq_true, if_false]
  refine wpS_of_wp (wp_skip ?_)
  cases c₀
  simp_all [bodyPostS, results, Tryd.results27]

set_option maxRecDepth 100000 in
theorem catch_fault (T E : Nat) (g : Addr) (a0 a1 b0 : Value) (older : List PanicEntry) (w : World) (hT : w.heap[T]? = some (.cells #[a0, a1] 31 (0, 0))) (hE : w.heap[E]? = some (.cells #[b0] 26 (0, 0))) (hTE : T ≠ E) :
    CallsD Tryd.prog 27 #[.pointer (some ⟨T, 0, none⟩), .pointer (some ⟨E, 0, none⟩)] (.panicking ({ v := .iface 47 (.pointer (some g)), recovered := false } :: older)) w fun e u' w' =>
      e = .returned (.tuple #[]) ∧ u' = .panicking ({ v := .iface 47 (.pointer (some g)), recovered := true } :: older) ∧
        w' = ((w.setCell ⟨T, 0, none⟩ (.int .i64 0)).setCell ⟨T, 1, none⟩ (.int .i64 0)).setCell ⟨E, 0, none⟩ (.iface 47 (.pointer (some g))) := by
  refine callsD_of_wpS Tryd.func27 rfl fun c₀ cs hu => ?_
  apply wpS_seq
  apply wpS_region
  simp [wpOpsS, go_sem, recoverD, hu, assert_nil, assert_flt, Tryd.ntmps27, Exit.thenS]
  apply wpS_seq
  apply wpS_region
  simp [wpOpsS, go_sem, Exit.thenS]
  refine wpS_cond (t := true) (by simp [Act.eval, Array.replicate]) ?_
  simp only [if_true]
  have c0 := blk_cell hT 0
  have c1 := blk_cell hT 1
  have e0 := blk_cell hE 0
  have z0 := blk_fz hT 0
  have z1 := blk_fz hT 1
  have ze := blk_fz hE 0
  simp at c0 c1 e0
  apply wpS_region
  simp [wpOpsS, go_sem, c0, c1, e0, z0, z1, ze, hTE, Ne.symm hTE, bodyPostS, results, Tryd.results27]
  trace_state
end Go.Proofs.YtlgdenihddkjaaaDoor

/- What stamp.Check tells: none, or the named error number 4 at 0. -/
namespace Go.Proofs.YtlgdenihddkjaaaDoor
set_option linter.unusedSimpArgs false
set_option linter.unusedVariables false
open Go.RowKit

def checkS (sec nanos : Int) : Option (Int × Nat) := if nanos < 0 ∨ nanos ≥ 1000000000 ∨ sec < -62167219200 ∨ sec > 253402300799 then some (0, 4) else none

set_option maxHeartbeats 2000000 in
theorem check_bad (sec nanos : Int) (w : World) (hI : ErrInv w) (h : nanos < 0 ∨ nanos ≥ 1000000000 ∨ sec < -62167219200 ∨ sec > 253402300799) :
    Calls Tryd.prog 16 #[.agg #[.int .i64 sec, .int .i64 nanos]] w fun e w' => ∃ v, e = .returned v ∧ FltIs w' v (some (0, 4)) ∧ Below w.heap.size w w' := by
  obtain ⟨a, he, -⟩ := hI.sent 4 (by decide)
  have he' : w.cell? ⟨0, 0, none⟩ = _ := he
  have hlt := World.block_lt_of_cell? w _ he'
  have he2 : ∀ o, (w.alloc o).cell? ⟨0, 0, none⟩ = _ := fun o => (World.cell?_alloc_lt w o ⟨0, 0, none⟩ hlt).trans he'
  have fin : ∀ o, FltIs ((w.alloc o).alloc (.cells #[.int .i64 0, .iface 145 (.pointer (some a))] 65)) (.iface 47 (.pointer (some ⟨w.heap.size + 1, 0, none⟩))) (some (0, 4)) := fun o => by
    have h3 := flt_new (w.alloc o) 0 0 4 _ (by omega) (by omega) (he2 o)
    have e : (w.alloc o).heap.size = w.heap.size + 1 := by simp
    rw [e] at h3
    exact h3
  clear hI hlt
  by_cases h1 : nanos < 0
  · go_enter Tryd.func16, Tryd.ntmps16
    go_wp2_with (go_at_call 24; refine (fault_any _ _ _ _).mono ?_; rintro e w' ⟨rfl, rfl⟩)
    go_ret
    exact ⟨_, rfl, fin _, ((Below.refl w.heap.size w).alloc (Nat.le_refl _) _).alloc (by simp) _⟩
  · by_cases h2 : nanos ≥ 1000000000
    · go_enter Tryd.func16, Tryd.ntmps16
      go_wp2_with (go_at_call 24; refine (fault_any _ _ _ _).mono ?_; rintro e w' ⟨rfl, rfl⟩)
      go_ret
      exact ⟨_, rfl, fin _, ((Below.refl w.heap.size w).alloc (Nat.le_refl _) _).alloc (by simp) _⟩
    · by_cases h3 : sec < -62167219200
      · go_enter Tryd.func16, Tryd.ntmps16
        go_wp2_with (go_at_call 24; refine (fault_any _ _ _ _).mono ?_; rintro e w' ⟨rfl, rfl⟩)
        go_ret
        exact ⟨_, rfl, fin _, ((Below.refl w.heap.size w).alloc (Nat.le_refl _) _).alloc (by simp) _⟩
      · have h4 : sec > 253402300799 := by omega
        clear h
        go_enter Tryd.func16, Tryd.ntmps16
        go_wp2_with (go_at_call 24; refine (fault_any _ _ _ _).mono ?_; rintro e w' ⟨rfl, rfl⟩)
        go_ret
        exact ⟨_, rfl, fin _, ((Below.refl w.heap.size w).alloc (Nat.le_refl _) _).alloc (by simp) _⟩

set_option maxHeartbeats 2000000 in
theorem check_good (sec nanos : Int) (w : World) (h : ¬ (nanos < 0 ∨ nanos ≥ 1000000000 ∨ sec < -62167219200 ∨ sec > 253402300799)) :
    Calls Tryd.prog 16 #[.agg #[.int .i64 sec, .int .i64 nanos]] w fun e w' => e = .returned .nilIface ∧ Below w.heap.size w w' := by
  have h1 : ¬ nanos < 0 := by omega
  have h2 : ¬ nanos ≥ 1000000000 := by omega
  have h3 : ¬ sec < -62167219200 := by omega
  have h4 : ¬ sec > 253402300799 := by omega
  clear h
  go_enter Tryd.func16, Tryd.ntmps16
  go_wp2
  go_ret
  exact ⟨rfl, (Below.refl w.heap.size w).alloc (Nat.le_refl _) _⟩

theorem check_any (sec nanos : Int) (w : World) (hI : ErrInv w) :
    Calls Tryd.prog 16 #[.agg #[.int .i64 sec, .int .i64 nanos]] w fun e w' => ∃ v, e = .returned v ∧ FltIs w' v (checkS sec nanos) ∧ Below w.heap.size w w' := by
  unfold checkS
  split
  · exact check_bad sec nanos w hI (by assumption)
  · refine (check_good sec nanos w (by assumption)).mono ?_
    rintro e w' ⟨rfl, hb⟩
    exact ⟨_, rfl, rfl, hb⟩
end Go.Proofs.YtlgdenihddkjaaaDoor
