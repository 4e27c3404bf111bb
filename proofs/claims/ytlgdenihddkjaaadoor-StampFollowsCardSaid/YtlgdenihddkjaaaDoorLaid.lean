/- From what the row says is laid to what the walks want: the table of powers, the named errors. -/
import Derived.Test.YtlgdenihddkjaaaDoorRows
import Derived.Test.YtlgdenihddkjaaaDoorFlt
import Derived.Test.YtlgdenihddkjaaaDoorExt
import Derived.Stop.LaidErr
import Derived.Stop.LaidTwo
import Derived.Lib.LaidTab
import Derived.MakeChecks
namespace Go.Proofs.YtlgdenihddkjaaaDoor
set_option linter.unusedSimpArgs false
set_option linter.unusedVariables false
open Go.RowKit Go.ChangeShapes Go.Extern.Stop Go.Stop Go.Extern

theorem cells165 : Tryd.prog.cellsOf 165 = 1 := by kernel_rfl
theorem cells9 : Tryd.prog.cellsOf 9 = 1 := by kernel_rfl
theorem star_ : "*" ++ "errors.errorString" = "*errors.errorString" := by decide
theorem row145 (u : TypeId) (h : Tryd.prog.typeName? 3 u = some "*errors.errorString") : u = 145 :=
  typeName_ptr_named (nm := "errors.errorString") (by rw [star_]; kernel_rfl) (by kernel_rfl) (by decide) u (by rw [star_]; exact h)

/-- A named error that stands first on the list: its variable, and its row of cells. -/
theorem laid_sent {P : Program} {n nm : String} {text : List UInt8} {r : List (String × DataW Unit)} {W : World} {g : Nat} {ti tp te ts : TypeId} {ms : Array (String × TypeId)} {f : Field}
    (h : laidMet P ((n, .iface nm (.ptr (.agg [.lit (.string text)]))) :: r) W)
    (hg : P.globalNamed n = some g) (ht : (P.globals[g]?).map (·.type) = some ti) (hi : P.underlying ti = some (.interface ms)) (hrow : ∀ u, P.typeName? 3 u = some nm → u = tp)
    (hp : P.underlying tp = some (.pointer te)) (he : P.underlying te = some (.struct #[f])) (hft : f.type = ts) (hfo : f.offset = 0) (hs : P.underlying ts = some .string) (hc : P.cellsOf te = 1) (hcs : P.cellsOf ts = 1) :
    ∃ a : Addr, W.cell? ⟨g, 0, none⟩ = some (.iface tp (.pointer (some a))) ∧ ∃ cs t, W.heap[a.block]? = some (.cells cs t (0, 0)) := by
  obtain ⟨ps, ⟨g0, t0, cs0, f0, p0, q0, hg0, ht0, hv0, hd0, _, e0⟩, _, hrows⟩ := h
  obtain rfl := Option.some.inj (hg.symm.trans hg0)
  obtain rfl := Option.some.inj (ht.symm.trans ht0)
  subst e0
  obtain ⟨l0⟩ := cs0
  have ok0 : ∀ u v, l0 = [.iface u v] → Value.okWide P W .any 0 u v := fun u v e => by
    subst e
    exact (hrows g 0 (by simp [MemPlace.row])).2 u v (by simpa using World.var?_cell hg0 hv0 0)
  obtain ⟨a0, s0, rfl, hc0, hs0, hz0, rfl⟩ := errorString_of_trod hi hrow hp he hft hfo hs hc hcs hd0 ok0
  obtain ⟨c0, t0, hb0⟩ := (hrows a0.block a0.off (by simp [MemPlace.row])).1
  exact ⟨a0, by simpa using World.var?_cell hg0 hv0 0, c0, t0, hb0⟩
/-- It, in this program. -/
theorem laid_err {n : String} {text : List UInt8} {r : List (String × DataW Unit)} {W : World} {g : Nat} (h : laidMet Tryd.prog ((n, .iface "*errors.errorString" (.ptr (.agg [.lit (.string text)]))) :: r) W)
    (hg : Tryd.prog.globalNamed n = some g) (ht : (Tryd.prog.globals[g]?).map (·.type) = some 26) :
    ∃ a : Addr, W.cell? ⟨g, 0, none⟩ = some (.iface 145 (.pointer (some a))) ∧ ∃ cs t, W.heap[a.block]? = some (.cells cs t (0, 0)) :=
  laid_sent h hg ht Tryd.underlying26 row145 Tryd.underlying145 Tryd.underlying165 rfl rfl Tryd.underlying9 cells165 cells9

theorem size_of_shaped {W : World} (h : W.ShapedOpen Tryd.prog) : 18 < W.heap.size := by
  obtain ⟨cs, hc, -⟩ := h.1 18 #[.nilIface] 26 (by decide +kernel) (by kernel_rfl)
  exact heap_lt hc

theorem tab_of_laid {r : List (String × DataW Unit)} {W : World} (h : laidMet Tryd.prog (("internal/strconv.uint64pow10", Rows.laid_internal_strconv_uint64pow10) :: r) W) : PSt.GInv W :=
  Lib.tabIs_of_head (g := 20) (t := 134) (e := 125) (n := 20) (by kernel_rfl) rfl (by kernel_rfl) (by kernel_rfl) (by kernel_rfl) (by kernel_rfl) h
theorem inv_follows {W : World} (hL : laidMetH Tryd.prog Rows.stampFollowsRow.laid W) (hsh : W.ShapedOpen Tryd.prog) : ErrInv W ∧ PSt.GInv W := by
  rw [MakeChecks.laidMetH_plain _ _ _ (by kernel_rfl)] at hL
  have h2 := laidMet.tail (laidMet.tail hL)
  have h4 := laidMet.tail (laidMet.tail h2)
  have h5 := laidMet.tail h4
  have h6 := laidMet.tail h5
  have e1 := laid_err (g := 1) h4 (by kernel_rfl) rfl
  have e2 := laid_err (g := 3) h5 (by kernel_rfl) rfl
  have e4 := laid_err (g := 0) h6 (by kernel_rfl) rfl
  refine ⟨⟨size_of_shaped hsh, fun c hc => ?_⟩, tab_of_laid h2⟩
  have hc' : c = 1 ∨ c = 2 ∨ c = 4 := by simpa using hc
  rcases hc' with rfl | rfl | rfl
  · exact e1
  · exact e2
  · exact e4
end Go.Proofs.YtlgdenihddkjaaaDoor
