/- From what the row says is laid to what the walks want: the named errors, each another one, and the type that errors.As asks for. -/
import Derived.Test.YthggpjiabklekaaGreatDoorRows
import Derived.Test.YthggpjiabklekaaGreatDoorFlt
import Derived.Stop.LaidErr
import Derived.Stop.LaidTwo
import Derived.Lib.LaidTab
import Derived.MakeChecks
import Derived.LaidHandle
import Derived.ProofKit
import Derived.HandedShaped
import Derived.RowKitTokens
import Derived.LaidLaws
import Derived.Stop.Joined
import Derived.Lay
import Derived.SevenTiedAt
import Derived.LaidOnce
import Derived.SizedLaws
namespace Go.Proofs.YthggpjiabklekaaGreatDoor
set_option linter.unusedSimpArgs false
set_option linter.unusedVariables false
open Go.RowKit Go.ChangeShapes Go.Extern.Stop Go.Stop Go.Extern

theorem cells191 : Tryz.prog.cellsOf 191 = 1 := by kernel_rfl
theorem cells9 : Tryz.prog.cellsOf 9 = 1 := by kernel_rfl
theorem star_ : "*" ++ "errors.errorString" = "*errors.errorString" := by decide
theorem row189 (u : TypeId) (h : Tryz.prog.typeName? 3 u = some "*errors.errorString") : u = 189 :=
  typeName_ptr_named (nm := "errors.errorString") (by rw [star_]; kernel_rfl) (by kernel_rfl) (by decide) u (by rw [star_]; exact h)

/-- A named error that stands first on the list: its variable, and its row of cells. -/
theorem laid_sent {P : Program} {n nm : String} {text : List UInt8} {r : List (String × DataW Unit)} {W : World} {g : Nat} {ti tp te ts : TypeId} {ms : Array (String × TypeId)} {f : Field}
    (h : laidMet P ((n, .iface nm (.ptr (.agg [.lit (.string text)]))) :: r) W)
    (hg : P.globalNamed n = some g) (ht : (P.globals[g]?).map (·.type) = some ti) (hi : P.underlying ti = some (.interface ms)) (hrow : ∀ u, P.typeName? 3 u = some nm → u = tp)
    (hp : P.underlying tp = some (.pointer te)) (he : P.underlying te = some (.struct #[f])) (hft : f.type = ts) (hfo : f.offset = 0) (hs : P.underlying ts = some .string) (hc : P.cellsOf te = 1) (hcs : P.cellsOf ts = 1) :
    ∃ a : Addr, W.cell? ⟨g, 0, none⟩ = some (.iface tp (.pointer (some a))) ∧ ∃ cs t, W.heap[a.block]? = some (.cells cs t (0, 0)) := by
  obtain ⟨ps, ⟨g0, t0, cs0, f0, p0, q0, hg0, ht0, hv0, hd0, _, e0⟩, _, hrows⟩ := h
  obtain rfl := Option.some.inj (hg.symm.trans hg0)
  obtain rfl := Option.some.inj (ht.symm.trans ht0)
  subst e0
  obtain ⟨l0⟩ := cs0
  have ok0 : ∀ u v, l0 = [.iface u v] → Value.okWide P W .any 0 u v := fun u v e => by
    subst e
    exact (hrows g 0 (by simp [MemPlace.row])).2 u v (by simpa using World.var?_cell hg0 hv0 0)
  obtain ⟨a0, s0, rfl, hc0, hs0, hz0, rfl⟩ := errorString_of_trod hi hrow hp he hft hfo hs hc hcs hd0 ok0
  obtain ⟨c0, t0, hb0⟩ := (hrows a0.block a0.off (by simp [MemPlace.row])).1
  exact ⟨a0, by simpa using World.var?_cell hg0 hv0 0, c0, t0, hb0⟩
/-- It, in this program. -/
theorem laid_err {n : String} {text : List UInt8} {r : List (String × DataW Unit)} {W : World} {g : Nat} (h : laidMet Tryz.prog ((n, .iface "*errors.errorString" (.ptr (.agg [.lit (.string text)]))) :: r) W)
    (hg : Tryz.prog.globalNamed n = some g) (ht : (Tryz.prog.globals[g]?).map (·.type) = some 34) :
    ∃ a : Addr, W.cell? ⟨g, 0, none⟩ = some (.iface 189 (.pointer (some a))) ∧ ∃ cs t, W.heap[a.block]? = some (.cells cs t (0, 0)) :=
  laid_sent h hg ht Tryz.underlying34 row189 Tryz.underlying189 Tryz.underlying191 rfl rfl Tryz.underlying9 cells191 cells9

end Go.Proofs.YthggpjiabklekaaGreatDoor

/- Named errors that are laid: each one's variable, its row of cells, and that no two are one pointer. -/
namespace Go.Proofs.YthggpjiabklekaaGreatDoor
set_option linter.unusedSimpArgs false
set_option linter.unusedVariables false
open Go.RowKit Go.ChangeShapes Go.Extern.Stop Go.Stop Go.Extern

section
variable {P : Program} {nm : String} {ti tp te ts : TypeId} {ms : Array (String × TypeId)} {f : Field} {W : World}
/-- What is said of all places. -/
def PlacesOk (P : Program) (W : World) (ps : List MemPlace) : Prop := ∀ b off, MemPlace.cell b off ∈ ps → (∃ c t, W.heap[b]? = some (.cells c t (0, 0))) ∧ ∀ u v, W.cell? ⟨b, off, none⟩ = some (.iface u v) → Value.okWide P W .any 0 u v
theorem sent_in (hi : P.underlying ti = some (.interface ms)) (hrow : ∀ u, P.typeName? 3 u = some nm → u = tp)
    (hp : P.underlying tp = some (.pointer te)) (he : P.underlying te = some (.struct #[f])) (hft : f.type = ts) (hfo : f.offset = 0) (hs : P.underlying ts = some .string) (hc : P.cellsOf te = 1) (hcs : P.cellsOf ts = 1) :
    ∀ (L : List (String × DataW Unit)) (ps : List MemPlace), DataW.LaidVars P W L ps → PlacesOk P W ps → ∀ n text g, (n, DataW.iface nm (.ptr (.agg [.lit (.string text)]))) ∈ L → P.globalNamed n = some g → (P.globals[g]?).map (·.type) = some ti →
      ∃ a : Addr, W.cell? ⟨g, 0, none⟩ = some (.iface tp (.pointer (some a))) ∧ MemPlace.cell a.block a.off ∈ ps ∧ ∃ cs t, W.heap[a.block]? = some (.cells cs t (0, 0))
  | [], ps, h, _, n, text, g, hm, _, _ => by simp at hm
  | x :: r, ps, h, hok, n, text, g, hm, hg, ht => by
    obtain ⟨g0, t0, cs0, f0, p0, q0, hg0, ht0, hv0, hd0, hq, e0⟩ := h
    subst e0
    rcases List.mem_cons.1 hm with e | hm'
    · subst e
      obtain rfl := Option.some.inj (hg.symm.trans hg0)
      obtain rfl := Option.some.inj (ht.symm.trans ht0)
      obtain ⟨l0⟩ := cs0
      have ok0 : ∀ u v, l0 = [.iface u v] → Value.okWide P W .any 0 u v := fun u v e => by
        subst e
        exact (hok g 0 (by simp [MemPlace.row])).2 u v (by simpa using World.var?_cell hg0 hv0 0)
      obtain ⟨a0, s0, rfl, hc0, hs0, hz0, rfl⟩ := errorString_of_trod hi hrow hp he hft hfo hs hc hcs hd0 ok0
      exact ⟨a0, by simpa using World.var?_cell hg0 hv0 0, by simp [MemPlace.row], (hok a0.block a0.off (by simp [MemPlace.row])).1⟩
    · obtain ⟨a, h1, h2, h3⟩ := sent_in hi hrow hp he hft hfo hs hc hcs r q0 hq (fun b off hb => hok b off (List.mem_append_right _ hb)) n text g hm' hg ht
      exact ⟨a, h1, List.mem_append_right _ h2, h3⟩
theorem sent_other (hi : P.underlying ti = some (.interface ms)) (hrow : ∀ u, P.typeName? 3 u = some nm → u = tp)
    (hp : P.underlying tp = some (.pointer te)) (he : P.underlying te = some (.struct #[f])) (hft : f.type = ts) (hfo : f.offset = 0) (hs : P.underlying ts = some .string) (hc : P.cellsOf te = 1) (hcs : P.cellsOf ts = 1) :
    ∀ (L : List (String × DataW Unit)) (ps : List MemPlace), DataW.LaidVars P W L ps → ps.Nodup → PlacesOk P W ps → ∀ n n' text text' g g' a, (n, DataW.iface nm (.ptr (.agg [.lit (.string text)]))) ∈ L → (n', DataW.iface nm (.ptr (.agg [.lit (.string text')]))) ∈ L →
      P.globalNamed n = some g → P.globalNamed n' = some g' → (P.globals[g]?).map (·.type) = some ti → (P.globals[g']?).map (·.type) = some ti →
      W.cell? ⟨g, 0, none⟩ = some (.iface tp (.pointer (some a))) → W.cell? ⟨g', 0, none⟩ = some (.iface tp (.pointer (some a))) → g = g'
  | [], ps, h, _, _, n, n', text, text', g, g', a, hm, _, _, _, _, _, _, _ => by simp at hm
  | x :: r, ps, h, hnd, hok, n, n', text, text', g, g', a, hm, hm', hg, hg', ht, ht', c1, c2 => by
    have h' := h
    obtain ⟨g0, t0, cs0, f0, p0, q0, hg0, ht0, hv0, hd0, hq, e0⟩ := h
    subst e0
    have okq : PlacesOk P W q0 := fun b off hb => hok b off (List.mem_append_right _ hb)
    have head : ∀ n text g, (n, DataW.iface nm (.ptr (.agg [.lit (.string text)]))) = x → P.globalNamed n = some g → (P.globals[g]?).map (·.type) = some ti → W.cell? ⟨g, 0, none⟩ = some (.iface tp (.pointer (some a))) → MemPlace.cell a.block a.off ∈ p0 := by
      intro n text g e hg ht hc1
      subst e
      obtain rfl := Option.some.inj (hg.symm.trans hg0)
      obtain rfl := Option.some.inj (ht.symm.trans ht0)
      obtain ⟨l0⟩ := cs0
      have ok0 : ∀ u v, l0 = [.iface u v] → Value.okWide P W .any 0 u v := fun u v e => by
        subst e
        exact (hok g 0 (by simp [MemPlace.row])).2 u v (by simpa using World.var?_cell hg0 hv0 0)
      obtain ⟨a0, s0, rfl, hc0, hs0, hz0, rfl⟩ := errorString_of_trod hi hrow hp he hft hfo hs hc hcs hd0 ok0
      have hcell : W.cell? ⟨g, 0, none⟩ = some (.iface tp (.pointer (some a0))) := by simpa using World.var?_cell hg0 hv0 0
      have ea : a0 = a := by have e := hcell.symm.trans hc1; simpa using e
      subst ea
      simp [MemPlace.row]
    have later : ∀ n text g, (n, DataW.iface nm (.ptr (.agg [.lit (.string text)]))) ∈ r → P.globalNamed n = some g → (P.globals[g]?).map (·.type) = some ti → W.cell? ⟨g, 0, none⟩ = some (.iface tp (.pointer (some a))) → MemPlace.cell a.block a.off ∈ q0 := by
      intro n text g hm hg ht hc1
      obtain ⟨a1, h1, h2, -⟩ := sent_in hi hrow hp he hft hfo hs hc hcs r q0 hq okq n text g hm hg ht
      have ea : a1 = a := by have e := h1.symm.trans hc1; simpa using e
      subst ea
      exact h2
    have apart : ∀ m, m ∈ p0 ++ [] → m ∈ q0 → False := by
      intro m h1 h2
      rw [List.append_nil] at h1
      exact (List.nodup_append.1 hnd).2.2 m (List.mem_append_right _ h1) m h2 rfl
    rcases List.mem_cons.1 hm with e | hm1
    · rcases List.mem_cons.1 hm' with e' | hm1'
      · have : n = n' := by have e2 := e.trans e'.symm; simpa using congrArg Prod.fst e2
        subst this
        exact Option.some.inj (hg.symm.trans hg')
      · exact (apart _ (by simpa using head n text g e hg ht c1) (later n' text' g' hm1' hg' ht' c2)).elim
    · rcases List.mem_cons.1 hm' with e' | hm1'
      · exact (apart _ (by simpa using head n' text' g' e' hg' ht' c2) (later n text g hm1 hg ht c1)).elim
      · exact sent_other hi hrow hp he hft hfo hs hc hcs r q0 hq (List.Nodup.sublist (List.sublist_append_right _ _) hnd) okq n n' text text' g g' a hm1 hm1' hg hg' ht ht' c1 c2
end
end Go.Proofs.YthggpjiabklekaaGreatDoor

/- What the rows of StampDays, StampParses and StampTexts say is laid: every named error, each another one, and the type that errors.As asks for. -/
namespace Go.Proofs.YthggpjiabklekaaGreatDoor
set_option linter.unusedSimpArgs false
set_option linter.unusedVariables false
open Go.RowKit Go.ChangeShapes Go.Extern.Stop Go.Stop Go.Extern

/-- The list, without the type. -/
def laidL : List (String × DataW Unit) := Rows.rangesFindsRow.laid.filter fun x => x.2.handleName?.isNone
theorem rtype_ : (Tryz.prog.cutTypes.find? (·.1 == "internal/reflectlite.rtype")).map (·.2) = some 118 := by kernel_rfl
theorem oneRow_ : ((List.range Tryz.prog.types.size).filter fun t => Tryz.prog.rowNamed t [101, 114, 114, 111, 114]) = [34] := by kernel_rfl
theorem et_named : Tryz.prog.globalNamed "errors.errorType" = some 5 := by kernel_rfl
theorem parted_ {W : World} (h : laidMetH Tryz.prog Rows.rangesFindsRow.laid W) : laidMet Tryz.prog laidL W ∧ W.cell? ⟨5, 0, none⟩ = some (.iface 118 (.agg #[.pointer (some ⟨28, 34, none⟩)])) := by
  have h' : laidMet Tryz.prog laidL W ∧ handlesMet Tryz.prog [("errors.errorType", Rows.laid_errors_errorType)] W := h
  refine ⟨h'.1, ?_⟩
  obtain ⟨name, u, ty, e1, e2, e3, e4, e5⟩ := h'.2 _ (List.mem_singleton.2 rfl)
  have en : name = [101, 114, 114, 111, 114] := (Option.some.inj e1).symm
  subst en
  obtain rfl := Option.some.inj (rtype_.symm.trans e2)
  have hm : ty ∈ (List.range Tryz.prog.types.size).filter fun t => Tryz.prog.rowNamed t [101, 114, 114, 111, 114] := List.mem_filter.2 ⟨List.mem_range.2 e3, e4⟩
  rw [oneRow_] at hm
  obtain rfl := List.mem_singleton.1 hm
  have hh : typeHandle Tryz.prog 34 = .pointer (some ⟨28, 34, none⟩) := by kernel_rfl
  rw [hh] at e5
  simpa using World.var?_cell et_named e5 0

theorem mem_err (c : Nat) (h1 : 1 ≤ c) (h2 : c ≤ 18) : ∃ n text, (n, DataW.iface "*errors.errorString" (.ptr (.agg [.lit (.string text)]))) ∈ laidL ∧ Tryz.prog.globalNamed n = some (gidx c) ∧ (Tryz.prog.globals[gidx c]?).map (·.type) = some 34 := by
  have hc : c = 1 ∨ c = 2 ∨ c = 3 ∨ c = 4 ∨ c = 5 ∨ c = 6 ∨ c = 7 ∨ c = 8 ∨ c = 9 ∨ c = 10 ∨ c = 11 ∨ c = 12 ∨ c = 13 ∨ c = 14 ∨ c = 15 ∨ c = 16 ∨ c = 17 ∨ c = 18 := by omega
  clear h1 h2
  rcases hc with rfl | rfl | rfl | rfl | rfl | rfl | rfl | rfl | rfl | rfl | rfl | rfl | rfl | rfl | rfl | rfl | rfl | rfl
  · exact ⟨"eponym/api.ErrByte", _, List.mem_of_getElem? (i := 4) rfl, by kernel_rfl, rfl⟩
  · exact ⟨"eponym/api.ErrEnd", _, List.mem_of_getElem? (i := 5) rfl, by kernel_rfl, rfl⟩
  · exact ⟨"eponym/api.ErrLong", _, List.mem_of_getElem? (i := 6) rfl, by kernel_rfl, rfl⟩
  · exact ⟨"eponym/api.ErrRange", _, List.mem_of_getElem? (i := 7) rfl, by kernel_rfl, rfl⟩
  · exact ⟨"eponym/api.ErrForm", _, List.mem_of_getElem? (i := 8) rfl, by kernel_rfl, rfl⟩
  · exact ⟨"eponym/api.ErrOrder", _, List.mem_of_getElem? (i := 9) rfl, by kernel_rfl, rfl⟩
  · exact ⟨"eponym/api.ErrThere", _, List.mem_of_getElem? (i := 10) rfl, by kernel_rfl, rfl⟩
  · exact ⟨"eponym/api.ErrNone", _, List.mem_of_getElem? (i := 11) rfl, by kernel_rfl, rfl⟩
  · exact ⟨"eponym/api.ErrDeep", _, List.mem_of_getElem? (i := 12) rfl, by kernel_rfl, rfl⟩
  · exact ⟨"eponym/api.ErrClass", _, List.mem_of_getElem? (i := 13) rfl, by kernel_rfl, rfl⟩
  · exact ⟨"eponym/api.ErrContext", _, List.mem_of_getElem? (i := 14) rfl, by kernel_rfl, rfl⟩
  · exact ⟨"eponym/api.ErrBidi", _, List.mem_of_getElem? (i := 15) rfl, by kernel_rfl, rfl⟩
  · exact ⟨"eponym/api.ErrHyphen", _, List.mem_of_getElem? (i := 16) rfl, by kernel_rfl, rfl⟩
  · exact ⟨"eponym/api.ErrNorm", _, List.mem_of_getElem? (i := 17) rfl, by kernel_rfl, rfl⟩
  · exact ⟨"eponym/api.ErrPuny", _, List.mem_of_getElem? (i := 18) rfl, by kernel_rfl, rfl⟩
  · exact ⟨"eponym/api.ErrEmpty", _, List.mem_of_getElem? (i := 19) rfl, by kernel_rfl, rfl⟩
  · exact ⟨"eponym/api.ErrKind", _, List.mem_of_getElem? (i := 20) rfl, by kernel_rfl, rfl⟩
  · exact ⟨"eponym/api.ErrFull", _, List.mem_of_getElem? (i := 21) rfl, by kernel_rfl, rfl⟩

theorem gidx_inj (c c' : Nat) (h1 : 1 ≤ c) (h2 : c ≤ 18) (h3 : 1 ≤ c') (h4 : c' ≤ 18) (h : gidx c = gidx c') : c = c' := by
  have key : ∀ a b : Fin 19, 1 ≤ a.val → 1 ≤ b.val → gidx a.val = gidx b.val → a = b := by decide
  have := key ⟨c, by omega⟩ ⟨c', by omega⟩ h1 h3 h
  exact congrArg Fin.val this

theorem is_of_laid {W : World} (h : laidMetH Tryz.prog Rows.rangesFindsRow.laid W) : IsInv W := by
  obtain ⟨hL, het⟩ := parted_ h
  obtain ⟨ps, hv, hnd, hok⟩ := hL
  refine ⟨het, fun c h1 h2 => ?_, fun c c' a h1 h2 h3 h4 e1 e2 => ?_⟩
  · obtain ⟨n, text, hm, hg, ht⟩ := mem_err c h1 h2
    obtain ⟨a, ha, -, hb⟩ := sent_in Tryz.underlying34 row189 Tryz.underlying189 Tryz.underlying191 rfl rfl Tryz.underlying9 cells191 cells9 laidL ps hv hok n text _ hm hg ht
    exact ⟨a, ha, hb⟩
  · obtain ⟨n, text, hm, hg, ht⟩ := mem_err c h1 h2
    obtain ⟨n', text', hm', hg', ht'⟩ := mem_err c' h3 h4
    exact gidx_inj c c' h1 h2 h3 h4 (sent_other Tryz.underlying34 row189 Tryz.underlying189 Tryz.underlying191 rfl rfl Tryz.underlying9 cells191 cells9 laidL ps hv hnd hok n n' text text' _ _ a hm hm' hg hg' ht ht' e1 e2)
/-- The library's own error. -/
theorem exErrSyntax_of_laid {W : World} (h : laidMetH Tryz.prog Rows.rangesFindsRow.laid W) : ∃ a : Addr, W.cell? ⟨20, 0, none⟩ = some (.iface 189 (.pointer (some a))) := by
  obtain ⟨⟨ps, hv, hnd, hok⟩, -⟩ := parted_ h
  obtain ⟨a, ha, -, -⟩ := sent_in Tryz.underlying34 row189 Tryz.underlying189 Tryz.underlying191 rfl rfl Tryz.underlying9 cells191 cells9 laidL ps hv hok "strconv.ErrSyntax" _ 20 (List.mem_of_getElem? (i := 23) rfl) (by kernel_rfl) rfl
  exact ⟨a, ha⟩
/-- The library's own error. -/
theorem exErrRange_of_laid {W : World} (h : laidMetH Tryz.prog Rows.rangesFindsRow.laid W) : ∃ a : Addr, W.cell? ⟨21, 0, none⟩ = some (.iface 189 (.pointer (some a))) := by
  obtain ⟨⟨ps, hv, hnd, hok⟩, -⟩ := parted_ h
  obtain ⟨a, ha, -, -⟩ := sent_in Tryz.underlying34 row189 Tryz.underlying189 Tryz.underlying191 rfl rfl Tryz.underlying9 cells191 cells9 laidL ps hv hok "strconv.ErrRange" _ 21 (List.mem_of_getElem? (i := 22) rfl) (by kernel_rfl) rfl
  exact ⟨a, ha⟩
end Go.Proofs.YthggpjiabklekaaGreatDoor

/- From a call's contract to a row that lists variables: the world's shape is at hand, too. -/
namespace Go.Proofs.YthggpjiabklekaaGreatDoor
set_option linter.unusedSimpArgs false
set_option linter.unusedVariables false
theorem wrap_shaped {H : Type} {enc : TypeId × Value → H} {a : Assume} {C : Checked} {os : Os} {f : FuncId} {fn : Func} {s : ChangeSpec} {conds : List PathCond} {apart fresh handsOn again : Bool} {X : World → Array Value → Prop}
    (hX : ∀ (w w' : World) (args : Array Value), w.heap = w'.heap → X w args → X w' args)
    (own : ownKnob C.prog.godebug = none) (started : os.Started) (noInit : C.prog.inits.idxOf? f = none) (hfn : C.prog.funcs[f]? = some fn)
    (witness : ∃ (w : World) (tape : Tape) (i : Input), w.os = os ∧ (w.forCall tape i).Shaped C.prog ∧ i.vars = [] ∧ Input.okWide C.prog (w.forCall tape i) .any w.heap.size f i ∧
      ((s.pre enc C.prog fn conds apart (w.forCall tape i).memory i.args ∧ X (w.forCall tape i).memory i.args) ∧ sizedMet enc C.prog fn (OpenSpec.ofChange s) apart (w.forCall tape i).memory i.args) ∧ a.holds C.prog (lone (Frame.enter C.prog f i.args .normal) [] (w.forCall tape i)))
    (contract : ∀ (W : World) (base : Nat) (args : Array Value) (ds gs : List (DataW H)) (before : List MemPlace),
      (∀ (j : Nat) t v, fn.params[j]? = some t → args[j]? = some v → Value.okWide C.prog W .any base t v) →
      DataW.Whole enc C.prog fn.params.toList s.vars apart W args.toList ds gs before →
      (DataW.weightsEach C.prog (fn.params.toList ++ s.plain.varTypes C.prog) (ds ++ gs)).all (· ≤ reachBytes) = true → X W args → W.ShapedOpen C.prog →
      Calls C.prog f args W fun e W' => ∃ v, e = .returned v ∧ s.post enc C.prog fn apart fresh handsOn again W args v W') :
    ReturnsInHanded a C os f .any (fun w args => (s.pre enc C.prog fn conds apart w args ∧ X w args) ∧ sizedMet enc C.prog fn (OpenSpec.ofChange s) apart w args) (s.post enc C.prog fn apart fresh handsOn again) := by
  refine returnsInHanded_of_calls own started noInit witness ?_
  intro w tape i _ hsh _ hok hpre _
  obtain ⟨_, _, _, fn', hfn', _, _, _, _, hval⟩ := hok
  have e : fn' = fn := Option.some.inj (hfn'.symm.trans hfn)
  subst e
  obtain ⟨⟨⟨ds, gs, before, hw, _⟩, hx⟩, hz⟩ := hpre
  have hw' := DataW.Whole.of_heap (w' := w.forCall tape i) (by rfl) hw
  refine (contract (w.forCall tape i) w.heap.size i.args ds gs before hval hw' (hz.weights hw) (hX _ _ _ (by rfl) hx) hsh).mono fun e W' ⟨v, he, hp⟩ => ?_
  subst he
  exact ChangeSpec.post_blind hp
end Go.Proofs.YthggpjiabklekaaGreatDoor

/- A world that is laid as the rows of StampDays, StampParses and StampTexts say. -/
namespace Go.Proofs.YthggpjiabklekaaGreatDoor
open Go.RowKit Go.ChangeShapes Go.Extern.Stop Go.Stop Go.Extern

noncomputable def w0H (os : Os) : World :=
  let w0 := World.holding Tryz.prog os ⟨#[], #[], []⟩
  { w0 with heap := w0.heap.modify 5 fun
      | .cells _ t frozen => .cells #[.iface 118 (.agg #[.pointer (some ⟨28, 34, none⟩)])] t frozen
      | o => o }
noncomputable def laidH (os : Os) : World := (w0H os).layVars Tryz.prog laidL
theorem laidH_os (os : Os) : (laidH os).os = os := (World.layVars_os _ _ _).trans rfl
theorem laidH_met (os : Os) (args : Array Value) : laidMetH Tryz.prog Rows.rangesFindsRow.laid ((laidH os).forCall (fun _ _ => 0) ⟨#[], args, []⟩).memory := by
  refine laidMetH_of_parts ?_ (by kernel_rfl)
  have e1 : (laidL.filter fun x => (laidL.map (·.1)).contains x.1) = laidL := List.filter_eq_self.2 fun x hx => List.contains_iff_mem.2 (List.mem_map.2 ⟨x, hx, rfl⟩)
  have e2 : (laidL.filter fun x => !(laidL.map (·.1)).contains x.1) = [] := List.filter_eq_nil_iff.2 fun x hx => by rw [List.contains_iff_mem.2 (List.mem_map.2 ⟨x, hx, rfl⟩)]; simp
  have h : laidMet Tryz.prog laidL (laidH os) := laidMet_layVars (w0 := w0H os) (laidL.map (·.1)) [] (by rw [e1]; rfl) (by rw [e1]; kernel_rfl) (by rw [e1]; kernel_rfl) (by rw [e2]; exact LaidIn.none)
  exact h.of_heap (by simp [World.memory, World.forCall, Input.heap])
end Go.Proofs.YthggpjiabklekaaGreatDoor
