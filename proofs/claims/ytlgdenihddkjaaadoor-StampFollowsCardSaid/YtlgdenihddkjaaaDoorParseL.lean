/- stamp.Parse: its ends behind the last number. -/
import Derived.Test.YtlgdenihddkjaaaDoorParseH
import Derived.Test.YtlgdenihddkjaaaDoorMade3
import Derived.Deep.RegionLaw
namespace Go.Proofs.YtlgdenihddkjaaaDoor
set_option linter.unusedSimpArgs false
set_option linter.unusedVariables false
open Go.RowKit

theorem sign_ok2 (M L D b : Nat) (s : ByteArray) (k k' : Nat) (hk' : k' = k + 1) (v : Value) (n : Nat) (ps : List Pt) (w : World) (hT : Tk w M L D b s k v n (flat ps)) (hs : s.size < 4611686018427387904) (hI : ErrAt b w) (c : UInt8) (hx : oneS s signs k = .ok c) :
    Calls Tryd.prog 30 #[.pointer (some ⟨b, 0, none⟩), .string signs] w fun e w' => e = .returned (.int .u8 c.toNat) ∧ Keep (Turns b L M) w w' ∧ ErrAt b w' ∧ Tk w' M L D b s k' v n (flat ps) := by
  subst hk'
  exact sign_ok M L D b s k v n ps w hT hs hI c hx

theorem shape8 (a0 k0 a1 k1 a2 k2 a3 k3 a4 k4 a5 k5 a6 k6 a7 k7 : Nat) : Shape [⟨a0, k0, 0, 9999⟩, ⟨a1, k1, 1, 12⟩, ⟨a2, k2, 1, 31⟩, ⟨a3, k3, 0, 23⟩, ⟨a4, k4, 0, 59⟩, ⟨a5, k5, 0, 59⟩, ⟨a6, k6, 0, 23⟩, ⟨a7, k7, 0, 59⟩] :=
  Or.inr ⟨a0, k0, a1, k1, a2, k2, a3, k3, a4, k4, a5, k5, a6, k6, a7, k7, rfl⟩

/-- The results are laid. -/
theorem stores_fin {w w' : World} (hT : w'.heap[w.heap.size]? = some (.cells #[.int .i64 0, .int .i64 0] 31 (0, 0))) (hE : w'.heap[w.heap.size + 1]? = some (.cells #[.nilIface] 26 (0, 0))) (hb : Below w.heap.size w w')
    (hg : ∀ c, 1 ≤ c → c ≤ 18 → gidx c < w.heap.size) (v : Value) (x : Option (Int × Nat)) (hf : FltIs w' v x) (a b : Int) :
    ∀ w'', w'' = ((w'.setCell ⟨w.heap.size, 0, none⟩ (.int .i64 a)).setCell ⟨w.heap.size, 1, none⟩ (.int .i64 b)).setCell ⟨w.heap.size + 1, 0, none⟩ v →
      w''.cell? ⟨w.heap.size, 0, none⟩ = some (.int .i64 a) ∧ w''.cell? ⟨w.heap.size, 1, none⟩ = some (.int .i64 b) ∧ w''.cell? ⟨w.heap.size + 1, 0, none⟩ = some v ∧
      FltIs w'' v x ∧ Below w.heap.size w w'' := by
  rintro w'' rfl
  have e1 := blk_set (blk_set hT 0 (.int .i64 a)) 1 (.int .i64 b)
  have e2 := (Below.heap_setCell ((w'.setCell ⟨w.heap.size, 0, none⟩ (.int .i64 a)).setCell ⟨w.heap.size, 1, none⟩ (.int .i64 b)) ⟨w.heap.size + 1, 0, none⟩ v w.heap.size (by show w.heap.size ≠ w.heap.size + 1; omega)).trans e1
  have e3 : ((w'.setCell ⟨w.heap.size, 0, none⟩ (.int .i64 a)).setCell ⟨w.heap.size, 1, none⟩ (.int .i64 b)).heap[w.heap.size + 1]? = some (.cells #[.nilIface] 26 (0, 0)) :=
    (Below.heap_setCell _ _ _ _ (by show w.heap.size + 1 ≠ w.heap.size; omega)).trans ((Below.heap_setCell _ _ _ _ (by show w.heap.size + 1 ≠ w.heap.size; omega)).trans hE)
  have e4 := blk_set e3 0 v
  refine ⟨by simpa using blk_cell e2 0, by simpa using blk_cell e2 1, by simpa using blk_cell e4 0, ?_, ((hb.setCell (Nat.le_refl _) _).setCell (Nat.le_refl _) _).setCell (by show w.heap.size ≤ w.heap.size + 1; omega) _⟩
  match x, hf with
  | none, hf => exact hf
  | some (p, q), ⟨f1, f2, gf, sf, f3, f4, f5⟩ =>
    have hlo := hg q f1 f2
    refine ⟨f1, f2, gf, sf, f3, ?_, ?_⟩
    · have n1 : gf ≠ w.heap.size := fun e => by rw [e, hT] at f4; simp at f4
      have n2 : gf ≠ w.heap.size + 1 := fun e => by rw [e, hE] at f4; simp at f4
      exact (Below.heap_setCell _ _ _ _ n2).trans ((Below.heap_setCell _ _ _ _ n1).trans ((Below.heap_setCell _ _ _ _ n1).trans f4))
    · rw [World.cell?_of_block (w := w')]
      · exact f5
      · exact (Below.heap_setCell _ _ _ _ (by show gidx q ≠ w.heap.size + 1; omega)).trans ((Below.heap_setCell _ _ _ _ (by show gidx q ≠ w.heap.size; omega)).trans (Below.heap_setCell _ _ _ _ (by show gidx q ≠ w.heap.size; omega)))

/-- A byte is left: the fault is laid behind the results. -/
theorem tail_fin {w w8 : World} (hT : w8.heap[w.heap.size]? = some (.cells #[.int .i64 0, .int .i64 0] 31 (0, 0))) (hE : w8.heap[w.heap.size + 1]? = some (.cells #[.nilIface] 26 (0, 0))) (hb : Below w.heap.size w w8)
    (hg : ∀ c, 1 ≤ c → c ≤ 18 → gidx c < w.heap.size) (sv : Value) (he : w8.cell? ⟨1, 0, none⟩ = some sv) (k : Int) :
    ∀ w'', w'' = ((((w8.setCell ⟨w.heap.size, 0, none⟩ (.int .i64 0)).setCell ⟨w.heap.size, 1, none⟩ (.int .i64 0)).setCell ⟨w.heap.size + 1, 0, none⟩ (.iface 47 (.pointer (some ⟨w8.heap.size, 0, none⟩)))).alloc (.cells #[.int .i64 k, sv] 65)).drew →
      w''.cell? ⟨w.heap.size, 0, none⟩ = some (.int .i64 0) ∧ w''.cell? ⟨w.heap.size, 1, none⟩ = some (.int .i64 0) ∧ w''.cell? ⟨w.heap.size + 1, 0, none⟩ = some (.iface 47 (.pointer (some ⟨w8.heap.size, 0, none⟩))) ∧
      FltIs w'' (.iface 47 (.pointer (some ⟨w8.heap.size, 0, none⟩))) (some (k, 1)) ∧ Below w.heap.size w w'' := by
  rintro w'' rfl
  have e1 := blk_set (blk_set hT 0 (.int .i64 0)) 1 (.int .i64 0)
  have e2 := (Below.heap_setCell ((w8.setCell ⟨w.heap.size, 0, none⟩ (.int .i64 0)).setCell ⟨w.heap.size, 1, none⟩ (.int .i64 0)) ⟨w.heap.size + 1, 0, none⟩ (.iface 47 (.pointer (some ⟨w8.heap.size, 0, none⟩))) w.heap.size (by show w.heap.size ≠ w.heap.size + 1; omega)).trans e1
  have e3 : ((w8.setCell ⟨w.heap.size, 0, none⟩ (.int .i64 0)).setCell ⟨w.heap.size, 1, none⟩ (.int .i64 0)).heap[w.heap.size + 1]? = some (.cells #[.nilIface] 26 (0, 0)) :=
    (Below.heap_setCell _ _ _ _ (by show w.heap.size + 1 ≠ w.heap.size; omega)).trans ((Below.heap_setCell _ _ _ _ (by show w.heap.size + 1 ≠ w.heap.size; omega)).trans hE)
  have e4 := blk_set e3 0 (.iface 47 (.pointer (some ⟨w8.heap.size, 0, none⟩)))
  have hb1 : Below w.heap.size w (((w8.setCell ⟨w.heap.size, 0, none⟩ (.int .i64 0)).setCell ⟨w.heap.size, 1, none⟩ (.int .i64 0)).setCell ⟨w.heap.size + 1, 0, none⟩ (.iface 47 (.pointer (some ⟨w8.heap.size, 0, none⟩)))) :=
    ((hb.setCell (Nat.le_refl _) _).setCell (Nat.le_refl _) _).setCell (by show w.heap.size ≤ w.heap.size + 1; omega) _
  have hs1 : (((w8.setCell ⟨w.heap.size, 0, none⟩ (.int .i64 0)).setCell ⟨w.heap.size, 1, none⟩ (.int .i64 0)).setCell ⟨w.heap.size + 1, 0, none⟩ (.iface 47 (.pointer (some ⟨w8.heap.size, 0, none⟩)))).heap.size = w8.heap.size := by simp [World.setCell]
  have h1 : 1 < w.heap.size := hg 1 (by omega) (by omega)
  have hc1 : (((w8.setCell ⟨w.heap.size, 0, none⟩ (.int .i64 0)).setCell ⟨w.heap.size, 1, none⟩ (.int .i64 0)).setCell ⟨w.heap.size + 1, 0, none⟩ (.iface 47 (.pointer (some ⟨w8.heap.size, 0, none⟩)))).cell? ⟨1, 0, none⟩ = some sv := by
    rw [World.cell?_of_block (w := w8)]
    · exact he
    · exact (Below.heap_setCell _ _ _ _ (by show 1 ≠ w.heap.size + 1; omega)).trans ((Below.heap_setCell _ _ _ _ (by show 1 ≠ w.heap.size; omega)).trans (Below.heap_setCell _ _ _ _ (by show 1 ≠ w.heap.size; omega)))
  generalize (((w8.setCell ⟨w.heap.size, 0, none⟩ (.int .i64 0)).setCell ⟨w.heap.size, 1, none⟩ (.int .i64 0)).setCell ⟨w.heap.size + 1, 0, none⟩ (.iface 47 (.pointer (some ⟨w8.heap.size, 0, none⟩)))) = X at e2 e4 hb1 hs1 hc1 ⊢
  have e5 := (Below.heap_alloc X (.cells #[.int .i64 k, sv] 65) _ (heap_lt e2)).trans e2
  have e6 := (Below.heap_alloc X (.cells #[.int .i64 k, sv] 65) _ (heap_lt e4)).trans e4
  have hf := flt_new X 0 k 1 sv (by omega) (by omega) hc1
  rw [hs1] at hf
  exact ⟨by simpa using blk_cell (w := (X.alloc (.cells #[.int .i64 k, sv] 65)).drew) e5 0, by simpa using blk_cell (w := (X.alloc (.cells #[.int .i64 k, sv] 65)).drew) e5 1, by simpa using blk_cell (w := (X.alloc (.cells #[.int .i64 k, sv] 65)).drew) e6 0, FltIs.drewN hf 1, (hb1.alloc (by rw [hs1]; have := hb.size; omega) _).drew⟩

end Go.Proofs.YtlgdenihddkjaaaDoor
