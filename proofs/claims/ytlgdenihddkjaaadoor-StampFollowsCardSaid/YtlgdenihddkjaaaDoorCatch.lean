/- What the deferred closure of stamp.Parse does: nothing, if nothing panics; else the fault is the error and the stamp is naught. -/
import Derived.Test.YtlgdenihddkjaaaDoorTake
import Derived.Defers
import Derived.Recover
namespace Go.Proofs.YtlgdenihddkjaaaDoor
set_option linter.unusedSimpArgs false
set_option linter.unusedVariables false
open Go.RowKit

theorem assert_nil (w : World) : (Instr.typeAssert Value.nilIface 20 47 true).run Tryd.prog w = .ok (.tuple #[.pointer none, .bool false]) w := by kernel_rfl
theorem assert_flt (g : Addr) (w : World) : (Instr.typeAssert (.iface 47 (.pointer (some g))) 20 47 true).run Tryd.prog w = .ok (.tuple #[.pointer (some g), .bool true]) w := by kernel_rfl

set_option maxRecDepth 100000 in
theorem catch_idle (p q : Addr) (w : World) :
    CallsD Tryd.prog 27 #[.pointer (some p), .pointer (some q)] .returning w fun e u' w' => e = .returned (.tuple #[]) ∧ u' = .returning ∧ w' = w := by
  refine callsD_of_wpS Tryd.func27 rfl fun c₀ cs hu => ?_
  apply wpS_seq
  apply wpS_region
  simp [wpOpsS, go_sem, recoverD, hu, assert_nil, assert_flt, Tryd.ntmps27, Exit.thenS]
  apply wpS_seq
  apply wpS_region
  simp [wpOpsS, go_sem, Exit.thenS]
  refine wpS_cond (t := false) (by simp [Act.eval, Array.replicate]) ?_
  simp only [Bool.false_eq_true, if_false]
  refine wpS_of_wp (wp_skip ?_)
  cases c₀
  simp_all [bodyPostS, results, Tryd.results27]

set_option maxRecDepth 100000 in
theorem catch_fault (T E : Nat) (g : Addr) (a0 a1 b0 : Value) (older : List PanicEntry) (w : World) (hT : w.heap[T]? = some (.cells #[a0, a1] 31 (0, 0))) (hE : w.heap[E]? = some (.cells #[b0] 26 (0, 0))) (hTE : T ≠ E) :
    CallsD Tryd.prog 27 #[.pointer (some ⟨T, 0, none⟩), .pointer (some ⟨E, 0, none⟩)] (.panicking ({ v := .iface 47 (.pointer (some g)), recovered := false } :: older)) w fun e u' w' =>
      e = .returned (.tuple #[]) ∧ u' = .panicking ({ v := .iface 47 (.pointer (some g)), recovered := true } :: older) ∧
        w' = ((w.setCell ⟨T, 0, none⟩ (.int .i64 0)).setCell ⟨T, 1, none⟩ (.int .i64 0)).setCell ⟨E, 0, none⟩ (.iface 47 (.pointer (some g))) := by
  refine callsD_of_wpS Tryd.func27 rfl fun c₀ cs hu => ?_
  apply wpS_seq
  apply wpS_region
  simp [wpOpsS, go_sem, recoverD, hu, assert_nil, assert_flt, Tryd.ntmps27, Exit.thenS]
  apply wpS_seq
  apply wpS_region
  simp [wpOpsS, go_sem, Exit.thenS]
  refine wpS_cond (t := true) (by simp [Act.eval, Array.replicate]) ?_
  simp only [if_true]
  have c0 := blk_cell hT 0
  have c1 := blk_cell hT 1
  have e0 := blk_cell hE 0
  have z0 := blk_fz hT 0
  have z1 := blk_fz hT 1
  have ze := blk_fz hE 0
  simp at c0 c1 e0
  apply wpS_region
  simp [wpOpsS, go_sem, c0, c1, e0, z0, z1, ze, hTE, Ne.symm hTE, bodyPostS, results, Tryd.results27]
  trace_state
end Go.Proofs.YtlgdenihddkjaaaDoor
