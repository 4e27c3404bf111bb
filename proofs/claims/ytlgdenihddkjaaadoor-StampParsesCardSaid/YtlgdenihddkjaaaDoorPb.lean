/- stamp.Parse: what it reads, and what it tells of a text that is none. -/
import Derived.Test.YtlgdenihddkjaaaDoorBa
import Derived.Test.YtlgdenihddkjaaaDoorMb
import Derived.Deep.RegionLaw
namespace Go.Proofs.YtlgdenihddkjaaaDoor
set_option linter.unusedSimpArgs false
set_option linter.unusedVariables false
open Go.RowKit

/-- What stands when the first number is to be read. -/
structure Start (w W : World) (s : ByteArray) : Prop where
  t : W.heap[w.heap.size]? = some (.cells #[.int .i64 0, .int .i64 0] 31 (0, 0))
  e : W.heap[w.heap.size + 1]? = some (.cells #[.nilIface] 26 (0, 0))
  tk : Tk W (w.heap.size + 1 + 1 + 1 + 1 + 1) (w.heap.size + 1 + 1 + 1 + 1) (w.heap.size + 1 + 1 + 1) (w.heap.size + 1 + 1) s 0 (.slice none 0 0) 0 (flat [])
  bel : Below w.heap.size w W
  err : ErrAt (w.heap.size + 1 + 1) W
  glob : ∀ c, 1 ≤ c → c ≤ 18 → gidx c < w.heap.size
theorem start (w : World) (s : ByteArray) (hI : ErrInv w) : Start w (((((w.alloc (.cells #[.int .i64 0, .int .i64 0] 31)).alloc (.cells #[.nilIface] 26)).alloc (.cells #[.string s, .int .i64 0] 51)).alloc (.cells #[.pointer (some ⟨w.heap.size + 1 + 1, 0, none⟩)] 49)).alloc (.cells #[.slice none 0 0] 52)) s := by
  have s1 : (w.alloc (.cells #[.int .i64 0, .int .i64 0] 31)).heap.size = w.heap.size + 1 := by simp
  have e1 := heap_alloc_new w (.cells #[.int .i64 0, .int .i64 0] 31)
  have b1 := (Below.refl w.heap.size w).alloc (Nat.le_refl _) (.cells #[.int .i64 0, .int .i64 0] 31)
  generalize w.alloc (.cells #[.int .i64 0, .int .i64 0] 31) = w1 at *
  have s2 : (w1.alloc (.cells #[.nilIface] 26)).heap.size = w.heap.size + 1 + 1 := by simp [s1]
  have e2 := heap_alloc_new w1 (.cells #[.nilIface] 26)
  have e12 := (Below.heap_alloc w1 (.cells #[.nilIface] 26) _ (by omega)).trans e1
  have b2 := b1.alloc (by omega) (.cells #[.nilIface] 26)
  generalize w1.alloc (.cells #[.nilIface] 26) = w2 at *
  have s3 : (w2.alloc (.cells #[.string s, .int .i64 0] 51)).heap.size = w.heap.size + 1 + 1 + 1 := by simp [s2]
  have e3 := heap_alloc_new w2 (.cells #[.string s, .int .i64 0] 51)
  have e13 := (Below.heap_alloc w2 (.cells #[.string s, .int .i64 0] 51) _ (by omega)).trans e12
  have e23 := (Below.heap_alloc w2 (.cells #[.string s, .int .i64 0] 51) _ (by omega)).trans e2
  have b3 := b2.alloc (by omega) (.cells #[.string s, .int .i64 0] 51)
  generalize w2.alloc (.cells #[.string s, .int .i64 0] 51) = w3 at *
  have s4 : (w3.alloc (.cells #[.pointer (some ⟨w.heap.size + 1 + 1, 0, none⟩)] 49)).heap.size = w.heap.size + 1 + 1 + 1 + 1 := by simp [s3]
  have e4 := heap_alloc_new w3 (.cells #[.pointer (some ⟨w.heap.size + 1 + 1, 0, none⟩)] 49)
  have e14 := (Below.heap_alloc w3 (.cells #[.pointer (some ⟨w.heap.size + 1 + 1, 0, none⟩)] 49) _ (by omega)).trans e13
  have e24 := (Below.heap_alloc w3 (.cells #[.pointer (some ⟨w.heap.size + 1 + 1, 0, none⟩)] 49) _ (by omega)).trans e23
  have e34 := (Below.heap_alloc w3 (.cells #[.pointer (some ⟨w.heap.size + 1 + 1, 0, none⟩)] 49) _ (by omega)).trans e3
  have b4 := b3.alloc (by omega) (.cells #[.pointer (some ⟨w.heap.size + 1 + 1, 0, none⟩)] 49)
  generalize w3.alloc (.cells #[.pointer (some ⟨w.heap.size + 1 + 1, 0, none⟩)] 49) = w4 at *
  have s5 : (w4.alloc (.cells #[.slice none 0 0] 52)).heap.size = w.heap.size + 1 + 1 + 1 + 1 + 1 := by simp [s4]
  have e5 := heap_alloc_new w4 (.cells #[.slice none 0 0] 52)
  have e15 := (Below.heap_alloc w4 (.cells #[.slice none 0 0] 52) _ (by omega)).trans e14
  have e25 := (Below.heap_alloc w4 (.cells #[.slice none 0 0] 52) _ (by omega)).trans e24
  have e35 := (Below.heap_alloc w4 (.cells #[.slice none 0 0] 52) _ (by omega)).trans e34
  have e45 := (Below.heap_alloc w4 (.cells #[.slice none 0 0] 52) _ (by omega)).trans e4
  have b5 := b4.alloc (by omega) (.cells #[.slice none 0 0] 52)
  generalize w4.alloc (.cells #[.slice none 0 0] 52) = w5 at *
  rw [s4] at e5
  rw [s3] at e45
  rw [s2] at e35
  rw [s1] at e25
  exact ⟨e15, e25, ⟨e5, e45, e35, ⟨rfl, .inl ⟨rfl, rfl⟩⟩, by omega, by omega, by omega, by omega, by omega, by omega, by omega⟩, b5, ⟨w, by omega, hI, b5⟩, fun c _ _ => Nat.lt_of_le_of_lt (gidx_lo c) hI.lo⟩

/-- What Parse tells of a text that is none. -/
def PErr (w : World) (x : Int × Nat) (e : Ending) (w' : World) : Prop := ∃ v, e = .returned (.tuple #[.agg #[.int .i64 0, .int .i64 0], v]) ∧ FltIs w' v (some x) ∧ Below w.heap.size w w'

theorem Start.keep {w W w' : World} {s : ByteArray} (h : Start w W s) (k : Keep (Turns (w.heap.size + 1 + 1) (w.heap.size + 1 + 1 + 1 + 1) (w.heap.size + 1 + 1 + 1 + 1 + 1)) W w') :
    w'.heap[w.heap.size]? = some (.cells #[.int .i64 0, .int .i64 0] 31 (0, 0)) ∧ w'.heap[w.heap.size + 1]? = some (.cells #[.nilIface] 26 (0, 0)) ∧ Below w.heap.size w w' := by
  have hM := h.tk.hM
  refine ⟨(k.block _ (by omega) (by unfold Turns; omega)).trans h.t, (k.block _ (by omega) (by unfold Turns; omega)).trans h.e, ?_⟩
  exact h.bel.trans (k.below (fun j hj => by unfold Turns; omega) (by omega))

/-- Behind the closure that recovered. -/
theorem catch_fin {w W w' : World} {s : ByteArray} (h : Start w W s) (k : Keep (Turns (w.heap.size + 1 + 1) (w.heap.size + 1 + 1 + 1 + 1) (w.heap.size + 1 + 1 + 1 + 1 + 1)) W w') (g : Addr) (x : Int × Nat) (hf : FltIs w' (.iface 47 (.pointer (some g))) (some x)) :
    ∀ w'', w'' = ((w'.setCell ⟨w.heap.size, 0, none⟩ (.int .i64 0)).setCell ⟨w.heap.size, 1, none⟩ (.int .i64 0)).setCell ⟨w.heap.size + 1, 0, none⟩ (.iface 47 (.pointer (some g))) →
      w''.cell? ⟨w.heap.size, 0, none⟩ = some (.int .i64 0) ∧ w''.cell? ⟨w.heap.size, 1, none⟩ = some (.int .i64 0) ∧ w''.cell? ⟨w.heap.size + 1, 0, none⟩ = some (.iface 47 (.pointer (some g))) ∧
      FltIs w'' (.iface 47 (.pointer (some g))) (some x) ∧ Below w.heap.size w w'' := by
  rintro w'' rfl
  obtain ⟨hT, hE, hb⟩ := h.keep k
  have e1 := blk_set (blk_set hT 0 (.int .i64 0)) 1 (.int .i64 0)
  have e2 := (Below.heap_setCell ((w'.setCell ⟨w.heap.size, 0, none⟩ (.int .i64 0)).setCell ⟨w.heap.size, 1, none⟩ (.int .i64 0)) ⟨w.heap.size + 1, 0, none⟩ (.iface 47 (.pointer (some g))) w.heap.size (by show w.heap.size ≠ w.heap.size + 1; omega)).trans e1
  have e3 : ((w'.setCell ⟨w.heap.size, 0, none⟩ (.int .i64 0)).setCell ⟨w.heap.size, 1, none⟩ (.int .i64 0)).heap[w.heap.size + 1]? = some (.cells #[.nilIface] 26 (0, 0)) :=
    (Below.heap_setCell _ _ _ _ (by show w.heap.size + 1 ≠ w.heap.size; omega)).trans ((Below.heap_setCell _ _ _ _ (by show w.heap.size + 1 ≠ w.heap.size; omega)).trans hE)
  have e4 := blk_set e3 0 (.iface 47 (.pointer (some g)))
  refine ⟨by simpa using blk_cell e2 0, by simpa using blk_cell e2 1, by simpa using blk_cell e4 0, ?_, ((hb.setCell (Nat.le_refl _) _).setCell (Nat.le_refl _) _).setCell (by show w.heap.size ≤ w.heap.size + 1; omega) _⟩
  obtain ⟨f1, f2, gf, sf, f3, f4, f5⟩ := hf
  have hlo := h.glob x.2 f1 f2
  refine ⟨f1, f2, gf, sf, f3, ?_, ?_⟩
  · have n1 : gf ≠ w.heap.size := fun e => by rw [e, hT] at f4; simp at f4
    have n2 : gf ≠ w.heap.size + 1 := fun e => by rw [e, hE] at f4; simp at f4
    exact (Below.heap_setCell _ _ _ _ n2).trans ((Below.heap_setCell _ _ _ _ n1).trans ((Below.heap_setCell _ _ _ _ n1).trans f4))
  · rw [World.cell?_of_block (w := w')]
    · exact f5
    · exact (Below.heap_setCell _ _ _ _ (by show gidx x.2 ≠ w.heap.size + 1; omega)).trans ((Below.heap_setCell _ _ _ _ (by show gidx x.2 ≠ w.heap.size; omega)).trans (Below.heap_setCell _ _ _ _ (by show gidx x.2 ≠ w.heap.size; omega)))

theorem take_ok (M L D b : Nat) (s : ByteArray) (k many : Nat) (low high : Int) (v : Value) (n : Nat) (ps : List Pt) (w : World) (hT : Tk w M L D b s k v n (flat ps))
    (hm : many ≤ 4) (hs : s.size < 4611686018427387904) (hk : k ≤ s.size) (hn : n < 100) (hI : ErrAt b w) (be : ByteArray) (hbe : be = ⟨#[]⟩ ∨ (be.toList.isEmpty = false ∧ be.size ≠ 0)) (a : Nat) (c : UInt8) (k' : Nat) (hx : takeS s many be k = .ok (a, c, k')) :
    Calls Tryd.prog 28 #[.int .i64 many, .int .i64 low, .int .i64 high, .string be, .pointer (some ⟨L, 0, none⟩), .pointer (some ⟨D, 0, none⟩)] w fun e w' => e = .returned (.int .u8 c.toNat) ∧ Keep (Turns b L M) w w' ∧ ErrAt b w' ∧ ∃ v', Tk w' M L D b s k' v' (n + 1) (flat (ps ++ [⟨a, k, low, high⟩])) := by
  refine Calls.mono (take_any M L D b s k many low high v n (flat ps) w hT hm hs hk hn hI be hbe) ?_
  intro e w' h
  rw [hx] at h
  obtain ⟨h1, rfl, v', h2⟩ := h
  exact ⟨rfl, h1, ErrAt.keep hI h1 hT.hLb hT.hb, v', by rw [flat_append]; exact h2⟩
theorem take_err (M L D b : Nat) (s : ByteArray) (k many : Nat) (low high : Int) (v : Value) (n : Nat) (ps : List Pt) (w : World) (hT : Tk w M L D b s k v n (flat ps))
    (hm : many ≤ 4) (hs : s.size < 4611686018427387904) (hk : k ≤ s.size) (hn : n < 100) (hI : ErrAt b w) (be : ByteArray) (hbe : be = ⟨#[]⟩ ∨ (be.toList.isEmpty = false ∧ be.size ≠ 0)) (x : Int × Nat) (hx : takeS s many be k = .error x) :
    Calls Tryd.prog 28 #[.int .i64 many, .int .i64 low, .int .i64 high, .string be, .pointer (some ⟨L, 0, none⟩), .pointer (some ⟨D, 0, none⟩)] w fun e w' => ∃ g, e = .panicked [{ v := .iface 47 (.pointer (some g)), recovered := false }] ∧ FltIs w' (.iface 47 (.pointer (some g))) (some x) ∧ Keep (Turns b L M) w w' := by
  refine Calls.mono (take_any M L D b s k many low high v n (flat ps) w hT hm hs hk hn hI be hbe) ?_
  intro e w' h
  rw [hx] at h
  obtain ⟨h1, v', rfl, h2⟩ := h
  have h3 := h2
  obtain ⟨f1, f2, gf, sf, rfl, f4, f5⟩ := h2
  exact ⟨_, rfl, h3, h1⟩
theorem frac_ok (M L D b : Nat) (s : ByteArray) (k : Nat) (v : Value) (n : Nat) (ps : List Pt) (w : World) (hT : Tk w M L D b s k v n (flat ps)) (hs : s.size < 4611686018427387904) (hI : ErrAt b w) (a k' : Nat) (hx : fracS s k = .ok (a, k')) :
    Calls Tryd.prog 31 #[.pointer (some ⟨b, 0, none⟩)] w fun e w' => e = .returned (.int .i64 a) ∧ Keep (Turns b L M) w w' ∧ ErrAt b w' ∧ Tk w' M L D b s k' v n (flat ps) := by
  refine Calls.mono (frac_any b s k w hT.rd hs hI) ?_
  intro e w' h
  rw [hx] at h
  obtain ⟨h1, rfl, h2⟩ := h
  have h3 : Keep (Turns b L M) w w' := Keep.of_but h1 (Or.inl rfl)
  exact ⟨rfl, h3, ErrAt.keep hI h3 hT.hLb hT.hb, hT.but h1 h2⟩
theorem frac_err (M L D b : Nat) (s : ByteArray) (k : Nat) (v : Value) (n : Nat) (ps : List Pt) (w : World) (hT : Tk w M L D b s k v n (flat ps)) (hs : s.size < 4611686018427387904) (hI : ErrAt b w) (x : Int × Nat) (hx : fracS s k = .error x) :
    Calls Tryd.prog 31 #[.pointer (some ⟨b, 0, none⟩)] w fun e w' => ∃ g, e = .panicked [{ v := .iface 47 (.pointer (some g)), recovered := false }] ∧ FltIs w' (.iface 47 (.pointer (some g))) (some x) ∧ Keep (Turns b L M) w w' := by
  refine Calls.mono (frac_any b s k w hT.rd hs hI) ?_
  intro e w' h
  rw [hx] at h
  obtain ⟨h1, v', rfl, h2⟩ := h
  have h3 := h2
  obtain ⟨f1, f2, gf, sf, rfl, f4, f5⟩ := h2
  exact ⟨_, rfl, h3, Keep.of_but h1 (Or.inl rfl)⟩
/-- The signs. -/
def signs : ByteArray := ⟨#[90, 122, 43, 45]⟩
theorem sign_ok (M L D b : Nat) (s : ByteArray) (k : Nat) (v : Value) (n : Nat) (ps : List Pt) (w : World) (hT : Tk w M L D b s k v n (flat ps)) (hs : s.size < 4611686018427387904) (hI : ErrAt b w) (c : UInt8) (hx : oneS s signs k = .ok c) :
    Calls Tryd.prog 30 #[.pointer (some ⟨b, 0, none⟩), .string signs] w fun e w' => e = .returned (.int .u8 c.toNat) ∧ Keep (Turns b L M) w w' ∧ ErrAt b w' ∧ Tk w' M L D b s (k + 1) v n (flat ps) := by
  refine Calls.mono (one_val b s signs k w hT.rd hs c hx) ?_
  rintro e w' ⟨rfl, h1, h2⟩
  have h3 : Keep (Turns b L M) w w' := Keep.of_but h1 (Or.inl rfl)
  exact ⟨rfl, h3, ErrAt.keep hI h3 hT.hLb hT.hb, hT.but h1 h2⟩
theorem sign_err (M L D b : Nat) (s : ByteArray) (k : Nat) (v : Value) (n : Nat) (ps : List Pt) (w : World) (hT : Tk w M L D b s k v n (flat ps)) (hI : ErrAt b w) (x : Int × Nat) (hx : oneS s signs k = .error x) :
    Calls Tryd.prog 30 #[.pointer (some ⟨b, 0, none⟩), .string signs] w fun e w' => ∃ g, e = .panicked [{ v := .iface 47 (.pointer (some g)), recovered := false }] ∧ FltIs w' (.iface 47 (.pointer (some g))) (some x) ∧ Keep (Turns b L M) w w' := by
  refine Calls.mono (one_err b s signs k w hT.rd hI.inv x hx) ?_
  rintro e w' ⟨v', rfl, h2, h1⟩
  have h3 := h2
  obtain ⟨f1, f2, gf, sf, rfl, f4, f5⟩ := h2
  exact ⟨_, rfl, h3, Keep.of_but (But.of_below h1 (Nat.le_refl _)) (Or.inl rfl)⟩

theorem Tk.lcell {w : World} {M L D b : Nat} {s : ByteArray} {k : Nat} {v : Value} {n : Nat} {xs : List Value} (h : Tk w M L D b s k v n xs) : w.cell? ⟨L, 0, none⟩ = some v := by
  simpa using blk_cell h.l 0
theorem oneS_le {s of : ByteArray} {k : Nat} {c : UInt8} (h : oneS s of k = .ok c) : k + 1 ≤ s.size := by
  unfold oneS at h
  split at h
  · omega
  · cases h
theorem numS_le {s : ByteArray} : ∀ {m a k r : Nat}, numS s m a k = .ok r → k ≤ s.size → k + m ≤ s.size
  | 0, _, _, _, _, hk => hk
  | m + 1, a, k, r, h, hk => by
    rw [numS] at h
    split at h
    · cases h
    · have := oneS_le (by assumption)
      have := numS_le h this
      omega
theorem takeS_le {s : ByteArray} {many : Nat} {be : ByteArray} {k a k' : Nat} {c : UInt8} (h : takeS s many be k = .ok (a, c, k')) (hk : k ≤ s.size) : k' ≤ s.size := by
  unfold takeS at h
  split at h
  · cases h
  · have h1 := numS_le (by assumption) hk
    split at h
    · cases h; exact h1
    · split at h
      · cases h
      · have := oneS_le (by assumption)
        cases h
        exact this

end Go.Proofs.YtlgdenihddkjaaaDoor

/- stamp.Parse: its ends behind the last number. -/
namespace Go.Proofs.YtlgdenihddkjaaaDoor
set_option linter.unusedSimpArgs false
set_option linter.unusedVariables false
open Go.RowKit

theorem sign_ok2 (M L D b : Nat) (s : ByteArray) (k k' : Nat) (hk' : k' = k + 1) (v : Value) (n : Nat) (ps : List Pt) (w : World) (hT : Tk w M L D b s k v n (flat ps)) (hs : s.size < 4611686018427387904) (hI : ErrAt b w) (c : UInt8) (hx : oneS s signs k = .ok c) :
    Calls Tryd.prog 30 #[.pointer (some ⟨b, 0, none⟩), .string signs] w fun e w' => e = .returned (.int .u8 c.toNat) ∧ Keep (Turns b L M) w w' ∧ ErrAt b w' ∧ Tk w' M L D b s k' v n (flat ps) := by
  subst hk'
  exact sign_ok M L D b s k v n ps w hT hs hI c hx

theorem shape8 (a0 k0 a1 k1 a2 k2 a3 k3 a4 k4 a5 k5 a6 k6 a7 k7 : Nat) : Shape [⟨a0, k0, 0, 9999⟩, ⟨a1, k1, 1, 12⟩, ⟨a2, k2, 1, 31⟩, ⟨a3, k3, 0, 23⟩, ⟨a4, k4, 0, 59⟩, ⟨a5, k5, 0, 59⟩, ⟨a6, k6, 0, 23⟩, ⟨a7, k7, 0, 59⟩] :=
  Or.inr ⟨a0, k0, a1, k1, a2, k2, a3, k3, a4, k4, a5, k5, a6, k6, a7, k7, rfl⟩

/-- The results are laid. -/
theorem stores_fin {w w' : World} (hT : w'.heap[w.heap.size]? = some (.cells #[.int .i64 0, .int .i64 0] 31 (0, 0))) (hE : w'.heap[w.heap.size + 1]? = some (.cells #[.nilIface] 26 (0, 0))) (hb : Below w.heap.size w w')
    (hg : ∀ c, 1 ≤ c → c ≤ 18 → gidx c < w.heap.size) (v : Value) (x : Option (Int × Nat)) (hf : FltIs w' v x) (a b : Int) :
    ∀ w'', w'' = ((w'.setCell ⟨w.heap.size, 0, none⟩ (.int .i64 a)).setCell ⟨w.heap.size, 1, none⟩ (.int .i64 b)).setCell ⟨w.heap.size + 1, 0, none⟩ v →
      w''.cell? ⟨w.heap.size, 0, none⟩ = some (.int .i64 a) ∧ w''.cell? ⟨w.heap.size, 1, none⟩ = some (.int .i64 b) ∧ w''.cell? ⟨w.heap.size + 1, 0, none⟩ = some v ∧
      FltIs w'' v x ∧ Below w.heap.size w w'' := by
  rintro w'' rfl
  have e1 := blk_set (blk_set hT 0 (.int .i64 a)) 1 (.int .i64 b)
  have e2 := (Below.heap_setCell ((w'.setCell ⟨w.heap.size, 0, none⟩ (.int .i64 a)).setCell ⟨w.heap.size, 1, none⟩ (.int .i64 b)) ⟨w.heap.size + 1, 0, none⟩ v w.heap.size (by show w.heap.size ≠ w.heap.size + 1; omega)).trans e1
  have e3 : ((w'.setCell ⟨w.heap.size, 0, none⟩ (.int .i64 a)).setCell ⟨w.heap.size, 1, none⟩ (.int .i64 b)).heap[w.heap.size + 1]? = some (.cells #[.nilIface] 26 (0, 0)) :=
    (Below.heap_setCell _ _ _ _ (by show w.heap.size + 1 ≠ w.heap.size; omega)).trans ((Below.heap_setCell _ _ _ _ (by show w.heap.size + 1 ≠ w.heap.size; omega)).trans hE)
  have e4 := blk_set e3 0 v
  refine ⟨by simpa using blk_cell e2 0, by simpa using blk_cell e2 1, by simpa using blk_cell e4 0, ?_, ((hb.setCell (Nat.le_refl _) _).setCell (Nat.le_refl _) _).setCell (by show w.heap.size ≤ w.heap.size + 1; omega) _⟩
  match x, hf with
  | none, hf => exact hf
  | some (p, q), ⟨f1, f2, gf, sf, f3, f4, f5⟩ =>
    have hlo := hg q f1 f2
    refine ⟨f1, f2, gf, sf, f3, ?_, ?_⟩
    · have n1 : gf ≠ w.heap.size := fun e => by rw [e, hT] at f4; simp at f4
      have n2 : gf ≠ w.heap.size + 1 := fun e => by rw [e, hE] at f4; simp at f4
      exact (Below.heap_setCell _ _ _ _ n2).trans ((Below.heap_setCell _ _ _ _ n1).trans ((Below.heap_setCell _ _ _ _ n1).trans f4))
    · rw [World.cell?_of_block (w := w')]
      · exact f5
      · exact (Below.heap_setCell _ _ _ _ (by show gidx q ≠ w.heap.size + 1; omega)).trans ((Below.heap_setCell _ _ _ _ (by show gidx q ≠ w.heap.size; omega)).trans (Below.heap_setCell _ _ _ _ (by show gidx q ≠ w.heap.size; omega)))

/-- A byte is left: the fault is laid behind the results. -/
theorem tail_fin {w w8 : World} (hT : w8.heap[w.heap.size]? = some (.cells #[.int .i64 0, .int .i64 0] 31 (0, 0))) (hE : w8.heap[w.heap.size + 1]? = some (.cells #[.nilIface] 26 (0, 0))) (hb : Below w.heap.size w w8)
    (hg : ∀ c, 1 ≤ c → c ≤ 18 → gidx c < w.heap.size) (sv : Value) (he : w8.cell? ⟨1, 0, none⟩ = some sv) (k : Int) :
    ∀ w'', w'' = ((((w8.setCell ⟨w.heap.size, 0, none⟩ (.int .i64 0)).setCell ⟨w.heap.size, 1, none⟩ (.int .i64 0)).setCell ⟨w.heap.size + 1, 0, none⟩ (.iface 47 (.pointer (some ⟨w8.heap.size, 0, none⟩)))).alloc (.cells #[.int .i64 k, sv] 65)).drew →
      w''.cell? ⟨w.heap.size, 0, none⟩ = some (.int .i64 0) ∧ w''.cell? ⟨w.heap.size, 1, none⟩ = some (.int .i64 0) ∧ w''.cell? ⟨w.heap.size + 1, 0, none⟩ = some (.iface 47 (.pointer (some ⟨w8.heap.size, 0, none⟩))) ∧
      FltIs w'' (.iface 47 (.pointer (some ⟨w8.heap.size, 0, none⟩))) (some (k, 1)) ∧ Below w.heap.size w w'' := by
  rintro w'' rfl
  have e1 := blk_set (blk_set hT 0 (.int .i64 0)) 1 (.int .i64 0)
  have e2 := (Below.heap_setCell ((w8.setCell ⟨w.heap.size, 0, none⟩ (.int .i64 0)).setCell ⟨w.heap.size, 1, none⟩ (.int .i64 0)) ⟨w.heap.size + 1, 0, none⟩ (.iface 47 (.pointer (some ⟨w8.heap.size, 0, none⟩))) w.heap.size (by show w.heap.size ≠ w.heap.size + 1; omega)).trans e1
  have e3 : ((w8.setCell ⟨w.heap.size, 0, none⟩ (.int .i64 0)).setCell ⟨w.heap.size, 1, none⟩ (.int .i64 0)).heap[w.heap.size + 1]? = some (.cells #[.nilIface] 26 (0, 0)) :=
    (Below.heap_setCell _ _ _ _ (by show w.heap.size + 1 ≠ w.heap.size; omega)).trans ((Below.heap_setCell _ _ _ _ (by show w.heap.size + 1 ≠ w.heap.size; omega)).trans hE)
  have e4 := blk_set e3 0 (.iface 47 (.pointer (some ⟨w8.heap.size, 0, none⟩)))
  have hb1 : Below w.heap.size w (((w8.setCell ⟨w.heap.size, 0, none⟩ (.int .i64 0)).setCell ⟨w.heap.size, 1, none⟩ (.int .i64 0)).setCell ⟨w.heap.size + 1, 0, none⟩ (.iface 47 (.pointer (some ⟨w8.heap.size, 0, none⟩)))) :=
    ((hb.setCell (Nat.le_refl _) _).setCell (Nat.le_refl _) _).setCell (by show w.heap.size ≤ w.heap.size + 1; omega) _
  have hs1 : (((w8.setCell ⟨w.heap.size, 0, none⟩ (.int .i64 0)).setCell ⟨w.heap.size, 1, none⟩ (.int .i64 0)).setCell ⟨w.heap.size + 1, 0, none⟩ (.iface 47 (.pointer (some ⟨w8.heap.size, 0, none⟩)))).heap.size = w8.heap.size := by simp [World.setCell]
  have h1 : 1 < w.heap.size := hg 1 (by omega) (by omega)
  have hc1 : (((w8.setCell ⟨w.heap.size, 0, none⟩ (.int .i64 0)).setCell ⟨w.heap.size, 1, none⟩ (.int .i64 0)).setCell ⟨w.heap.size + 1, 0, none⟩ (.iface 47 (.pointer (some ⟨w8.heap.size, 0, none⟩)))).cell? ⟨1, 0, none⟩ = some sv := by
    rw [World.cell?_of_block (w := w8)]
    · exact he
    · exact (Below.heap_setCell _ _ _ _ (by show 1 ≠ w.heap.size + 1; omega)).trans ((Below.heap_setCell _ _ _ _ (by show 1 ≠ w.heap.size; omega)).trans (Below.heap_setCell _ _ _ _ (by show 1 ≠ w.heap.size; omega)))
  generalize (((w8.setCell ⟨w.heap.size, 0, none⟩ (.int .i64 0)).setCell ⟨w.heap.size, 1, none⟩ (.int .i64 0)).setCell ⟨w.heap.size + 1, 0, none⟩ (.iface 47 (.pointer (some ⟨w8.heap.size, 0, none⟩)))) = X at e2 e4 hb1 hs1 hc1 ⊢
  have e5 := (Below.heap_alloc X (.cells #[.int .i64 k, sv] 65) _ (heap_lt e2)).trans e2
  have e6 := (Below.heap_alloc X (.cells #[.int .i64 k, sv] 65) _ (heap_lt e4)).trans e4
  have hf := flt_new X 0 k 1 sv (by omega) (by omega) hc1
  rw [hs1] at hf
  exact ⟨by simpa using blk_cell (w := (X.alloc (.cells #[.int .i64 k, sv] 65)).drew) e5 0, by simpa using blk_cell (w := (X.alloc (.cells #[.int .i64 k, sv] 65)).drew) e5 1, by simpa using blk_cell (w := (X.alloc (.cells #[.int .i64 k, sv] 65)).drew) e6 0, FltIs.drewN hf 1, (hb1.alloc (by rw [hs1]; have := hb.size; omega) _).drew⟩

end Go.Proofs.YtlgdenihddkjaaaDoor
