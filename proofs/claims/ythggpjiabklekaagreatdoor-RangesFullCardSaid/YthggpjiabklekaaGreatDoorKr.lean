/- ranges.Check: a range over the iterator of all faults. -/
import Derived.Test.YthggpjiabklekaaGreatDoorUb
import Derived.RangeFuncNested
import Derived.RangeFuncBound
import Derived.RangeFuncCalls
import Derived.RangeFuncLeaves
import Derived.RangeFuncBox
import Derived.Shelf.Abstract
import Derived.Shelf.RegionOpen
import Derived.OwnWalkIn
import Derived.TacticsInMore
import Derived.LoopNIn
import Derived.LoopIn
namespace Go.Proofs.YthggpjiabklekaaGreatDoor
set_option linter.unusedSimpArgs false
set_option linter.unusedVariables false
open Go.RowKit Go.Lib Go.Shelf
attribute [local go_sem] Oper.semAt_some

/-- A range: its first and last rune, its value. -/
abbrev Rg := Int × Int × Int
/-- Where ranges lie. -/
def Lies (w : World) (A : Option Addr) (p : List Rg) : Prop := 0 < p.length → ∃ ad, A = some ad ∧ ∀ j (hj : j < p.length), w.cell? (ad.add (j * 3)) = some (.int .i32 p[j].1) ∧ w.cell? (ad.add (j * 3 + 1)) = some (.int .i32 p[j].2.1) ∧ w.cell? (ad.add (j * 3 + 2)) = some (.int .i64 p[j].2.2)
theorem Lies.below {w w' : World} {A : Option Addr} {p : List Rg} (h : Lies w A p) (hb : Below w.heap.size w w') : Lies w' A p := fun hp => by
  obtain ⟨ad, h1, h2⟩ := h hp
  exact ⟨ad, h1, fun j hj => ⟨cell_in hb (h2 j hj).1, cell_in hb (h2 j hj).2.1, cell_in hb (h2 j hj).2.2⟩⟩
/-- May a range be? -/
def mayB (x : Rg) : Bool := decide (0 ≤ x.1 ∧ x.1 ≤ x.2.1 ∧ x.2.1 ≤ 1114111 ∧ 0 ≤ x.2.2 ∧ x.2.2 ≤ 999999)
theorem may_any (a b v : Int) (w : World) : Calls Tryz.prog 43 #[.agg #[.int .i32 a, .int .i32 b, .int .i64 v]] w fun e w' => e = .returned (.bool (mayB (a, b, v))) ∧ Below w.heap.size w w' := by
  by_cases h1 : a ≥ 0
  · by_cases h2 : a ≤ b
    · by_cases h3 : b ≤ 1114111
      · by_cases h4 : v ≥ 0
        · have e : mayB (a, b, v) = decide (v ≤ 999999) := by unfold mayB; rw [decide_eq_decide]; dsimp only; omega
          rw [e]
          clear e
          go_enter Tryz.func43, Tryz.ntmps43
          go_wp2
          go_ret
          exact ⟨rfl, (Below.refl _ _).alloc (Nat.le_refl _) _⟩
        · have e : mayB (a, b, v) = false := by unfold mayB; rw [decide_eq_false_iff_not]; dsimp only; omega
          rw [e]
          clear e
          go_enter Tryz.func43, Tryz.ntmps43
          go_wp2
          go_ret
          exact ⟨rfl, (Below.refl _ _).alloc (Nat.le_refl _) _⟩
      · have e : mayB (a, b, v) = false := by unfold mayB; rw [decide_eq_false_iff_not]; dsimp only; omega
        rw [e]
        clear e
        go_enter Tryz.func43, Tryz.ntmps43
        go_wp2
        go_ret
        exact ⟨rfl, (Below.refl _ _).alloc (Nat.le_refl _) _⟩
    · have e : mayB (a, b, v) = false := by unfold mayB; rw [decide_eq_false_iff_not]; dsimp only; omega
      rw [e]
      clear e
      go_enter Tryz.func43, Tryz.ntmps43
      go_wp2
      go_ret
      exact ⟨rfl, (Below.refl _ _).alloc (Nat.le_refl _) _⟩
  · have e : mayB (a, b, v) = false := by unfold mayB; rw [decide_eq_false_iff_not]; dsimp only; omega
    rw [e]
    clear e
    go_enter Tryz.func43, Tryz.ntmps43
    go_wp2
    go_ret
    exact ⟨rfl, (Below.refl _ _).alloc (Nat.le_refl _) _⟩
/-- All ranges at fault, and why. -/
def faultsL : Int → List Rg → Nat → List (Nat × Nat)
  | _, [], _ => []
  | last, x :: r, i => (if mayB x = false then [(i, 4)] else if x.1 ≤ last then [(i, 6)] else []) ++ faultsL x.2.1 r (i + 1)
/-- What a round of an iterator that lays blocks of its own must keep: what lay below n₀, and what the iterator has laid. -/
def KeepsOwn (n₀ n₁ : Nat) (A B : World) : Prop := Below n₀ A B ∧ ∀ (k : Nat) (cs : Array Value) (t : TypeId) (fr : Nat × Nat), n₁ ≤ k → A.heap[k]? = some (.cells cs t fr) → B.heap[k]? = some (.cells cs t fr)
theorem KeepsOwn.refl (n₀ n₁ : Nat) (A : World) : KeepsOwn n₀ n₁ A A := ⟨Below.refl _ _, fun _ _ _ _ _ h => h⟩
theorem KeepsOwn.trans {n₀ n₁ : Nat} {A B C : World} (h : KeepsOwn n₀ n₁ A B) (k : KeepsOwn n₀ n₁ B C) : KeepsOwn n₀ n₁ A C := ⟨h.1.trans k.1, fun j cs t fr hj hc => k.2 j cs t fr hj (h.2 j cs t fr hj hc)⟩
theorem KeepsOwn.of_below {n₀ n₁ : Nat} {A B : World} (h : Below A.heap.size A B) (hn : n₀ ≤ A.heap.size) : KeepsOwn n₀ n₁ A B := ⟨h.mono hn, fun k cs t fr _ hc => below_blk h hc⟩
theorem keepsOwn_b {n₀ : Nat} {w : World} (hn : n₀ ≤ w.heap.size) (W : World) (l : Nat) (o o' : Obj) (hl : w.heap.size ≤ l) (h : W.heap[l]? = some o) (hc : o.isCells = false) (hw : o.isWalk = false) : KeepsOwn n₀ w.heap.size W (W.putObj l o') := by
  refine ⟨belowK_b hn W l o o' hl h hc hw, fun k cs t fr _ hk => ?_⟩
  have hne : k ≠ l := by
    rintro rfl
    rw [h] at hk
    injection hk with hk
    subst hk
    cases hc
  exact (World.putObj_heap_other hne).trans hk
theorem abides_below {β : Type} {B : Nat} {J : β → World → Prop} (hJ : AbidesFrom B J) {s : β} {W W' : World} (h : J s W) (hb : Below W.heap.size W W') : J s W' :=
  hJ s W W' none h ⟨hb.os, hb.tape, hb.output, hb.size, fun k hk _ => hb.block k hk⟩ (fun r e => by cases e)
end Go.Proofs.YthggpjiabklekaaGreatDoor
