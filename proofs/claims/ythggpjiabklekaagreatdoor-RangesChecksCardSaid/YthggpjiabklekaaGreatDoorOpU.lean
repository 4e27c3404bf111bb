/- The ranges that came in. -/
import Derived.Test.YthggpjiabklekaaGreatDoorExt
import Derived.Deep.Slices
import Derived.Deep.Fields
import Derived.ChangeSame
import Derived.Lib.SmallJoins
import Derived.ChangeArms
namespace Go.Proofs.YthggpjiabklekaaGreatDoor
open Go.ChangeShapes Go.WideShapes Go.Deep
section
variable {H : Type} {enc : TypeId × Value → H} {P : Program} {w : World} {base : Nat} {spare : Nat → Bool} {held : Bool}
theorem open_slice_fields {t e : TypeId} {fs : Array Field} {fuel : Nat} {cs : List Value} {x : DataW H × List MemPlace} (ht : P.underlying t = some (.slice e)) (he : P.underlying e = some (.struct fs))
    (hone : oneCellFields P fs = true) (hC : P.cellsOf e = fs.size) (h : DataW.trod enc P w base spare held fuel t cs = some x) :
    (cs = [.slice none 0 0] ∧ x = (.nil, [])) ∨
    ∃ (a : Addr) (len cap m : Nat) (D : Nat → DataW H) (Pl : Nat → List MemPlace), cs = [.slice (some a) len cap] ∧ base ≤ a.block ∧ len ≤ cap ∧ cap ≤ maxLen ∧ m = (if spare a.block then cap else len) ∧
      x = (.slice ((List.range len).map D) ((List.range (m - len)).map fun j => D (len + j)), MemPlace.row a (m * fs.size) ++ (List.range m).flatMap Pl) ∧
      ∀ i, i < m → ∃ (ys : List (DataW H × List MemPlace)) (n : Nat), D i = .agg (ys.map (·.1)) ∧ Pl i = ys.flatMap (·.2) ∧ ys.length = fs.size ∧
        ∀ (j : Nat) (f : Field), fs[j]? = some f → ∃ (v : Value) (y : DataW H × List MemPlace), w.cell? (a.add (i * fs.size + j)) = some v ∧ ys[j]? = some y ∧ DataW.trod enc P w base spare held n f.type [v] = some y := by
  rcases open_slice ht h with h0 | ⟨a, len, cap, m, n, D, Pl, hcs, hb, hl, hm, hmm, hx, hi⟩
  · exact .inl h0
  · refine .inr ⟨a, len, cap, m, D, Pl, hcs, hb, hl, hm, hmm, by rw [hC] at hx; exact hx, fun i him => ?_⟩
    obtain ⟨cs', hc, ht'⟩ := hi i him
    rw [hC] at hc
    obtain ⟨ys, n', hn', hy, hlen, hyl, hf⟩ := DataW.trod_struct he ht'
    obtain ⟨_, hcl, hat⟩ := World.cells?_some hc
    simp only [Prod.mk.injEq] at hy
    refine ⟨ys, n', hy.1, hy.2, hyl, fun j f hj => ?_⟩
    obtain ⟨ho, hk⟩ := hone_of hone j f hj
    have hjl : j < fs.size := (Array.getElem?_eq_some_iff.1 hj).1
    have hcell := hat j hjl
    have hv : cs'[j]? = some (cs'[j]'(by omega)) := List.getElem?_eq_getElem (by omega)
    have h1 := hf j f hj
    rw [ho, hk] at h1
    have hone' : (cs'.drop j).take 1 = [cs'[j]'(by omega)] := by
      rw [List.drop_eq_getElem_cons (by omega)]
      rfl
    rw [hone'] at h1
    have hys : ys[j]? = some (ys[j]'(by omega)) := List.getElem?_eq_getElem (by omega)
    refine ⟨_, _, ?_, hys, h1.trans hys⟩
    rw [← Go.Deep.add_add, hcell, hv]
end
end Go.Proofs.YthggpjiabklekaaGreatDoor
namespace Go.Proofs.YthggpjiabklekaaGreatDoor
open Go.ChangeShapes Go.WideShapes Go.RowKit Go.Joins Go.Proofs.YthggpjiabklekaaGreatDoor.PRg Go.Proofs.YthggpjiabklekaaGreatDoorW.PrintWords
def InR (x : S28) : Prop := -2147483648 ≤ x.f0 ∧ x.f0 ≤ 2147483647 ∧ -2147483648 ≤ x.f1 ∧ x.f1 ≤ 2147483647 ∧ -9223372036854775808 ≤ x.f2 ∧ x.f2 ≤ 9223372036854775807
set_option maxRecDepth 100000 in
theorem open_ranges {H : Type} {enc : TypeId × Value → H} {W : World} {r : Reach} {b0 : Nat} {v : Value} {d : DataW H} {p : List MemPlace} (hv : Value.okWide Tryz.prog W r b0 22 v) (h : DataW.Trod enc Tryz.prog W 0 (fun _ => true) true 22 v d p) :
    ∃ (A : Option Addr) (c : Nat) (l : List S28), v = .slice A l.length c ∧ Kd.C k28 W A l.length l ∧ l.length ≤ c ∧ ∀ x ∈ l, InR x := by
  obtain ⟨a', len', cap', rfl⟩ := okWide_slice Tryz.underlying22 hv
  obtain ⟨n, h1⟩ := h
  have h1 : DataW.trod enc Tryz.prog W 0 (fun _ => true) true n 22 [.slice a' len' cap'] = some (d, p) := by
    rw [show [Value.slice a' len' cap'] = (Value.slice a' len' cap').cells.toList from rfl]
    exact h1
  rcases open_slice_fields Tryz.underlying22 Tryz.underlying28 (by kernel_rfl) (by kernel_rfl) h1 with ⟨e1, _⟩ | ⟨a, len, cap, m, D, Pl, e1, _, hl, hm, hmm, _, hi⟩
  · simp only [List.cons.injEq, Value.slice.injEq, and_true] at e1
    obtain ⟨rfl, rfl, rfl⟩ := e1
    exact ⟨none, 0, [], rfl, Kd.C_nil _ _, Nat.le_refl _, fun x hx => by cases hx⟩
  · simp only [List.cons.injEq, Value.slice.injEq, and_true] at e1
    obtain ⟨rfl, rfl, rfl⟩ := e1
    have hmm : m = cap' := by simpa using hmm
    subst hmm
    have hel : ∀ i, ∃ x : S28, i < m → (W.cell? (a.add (i * 3)) = some (.int .i32 x.f0) ∧ W.cell? (a.add (i * 3 + 1)) = some (.int .i32 x.f1) ∧ W.cell? (a.add (i * 3 + 2)) = some (.int .i64 x.f2)) ∧ InR x := by
      intro i
      by_cases hlt : i < m
      · obtain ⟨ys, n', _, _, _, hf⟩ := hi i hlt
        obtain ⟨v0, _, hc0, _, ht0⟩ := hf 0 _ rfl
        obtain ⟨v1, _, hc1, _, ht1⟩ := hf 1 _ rfl
        obtain ⟨v2, _, hc2, _, ht2⟩ := hf 2 _ rfl
        obtain ⟨x, ex, _, wx⟩ := DataW.trod_int Tryz.underlying21 ht0
        obtain ⟨y, ey, _, wy⟩ := DataW.trod_int Tryz.underlying21 ht1
        obtain ⟨z, ez, _, wz⟩ := DataW.trod_int Tryz.underlying3 ht2
        obtain rfl : v0 = .int .i32 x := by injection ex
        obtain rfl : v1 = .int .i32 y := by injection ey
        obtain rfl : v2 = .int .i64 z := by injection ez
        simp [Lit.wf, IntKind.min, IntKind.max, IntKind.signed, IntKind.bits] at wx wy wz
        exact ⟨⟨x, y, z⟩, fun _ => ⟨⟨hc0, hc1, hc2⟩, ⟨by show -2147483648 ≤ x; omega, by show x ≤ _; omega, by show -2147483648 ≤ y; omega, by show y ≤ _; omega, by show -9223372036854775808 ≤ z; omega, by show z ≤ _; omega⟩⟩⟩
      · exact ⟨z28, fun h => absurd h hlt⟩
    have hF := fun i => Classical.choose_spec (hel i)
    generalize hG : (fun i => Classical.choose (hel i)) = F
    have hF : ∀ i, i < m → (W.cell? (a.add (i * 3)) = some (.int .i32 (F i).f0) ∧ W.cell? (a.add (i * 3 + 1)) = some (.int .i32 (F i).f1) ∧ W.cell? (a.add (i * 3 + 2)) = some (.int .i64 (F i).f2)) ∧ InR (F i) := fun i hlt => by rw [← hG]; exact hF i hlt
    refine ⟨some a, m, (List.range len').map F, by simp, ⟨rfl, by simp only [maxLen] at hm; simp; omega, fun _ => ⟨a, rfl, fun j p hp => ⟨[.int .i32 p.f0, .int .i32 p.f1, .int .i64 p.f2], rfl, k28_mk W p, fun i u hu => ?_⟩⟩⟩, by simpa using hl, fun x hx => ?_⟩
    · have hj : j < len' := by have := (List.getElem?_eq_some_iff.1 hp).1; simpa using this
      obtain rfl : p = F j := by
        rw [List.getElem?_map, List.getElem?_range hj] at hp
        simpa using hp.symm
      obtain ⟨g0, g1, g2⟩ := (hF j (by omega)).1
      match i, hu with
      | 0, hu => obtain rfl : Value.int .i32 (F j).f0 = u := by simpa using hu
                 exact g0
      | 1, hu => obtain rfl : Value.int .i32 (F j).f1 = u := by simpa using hu
                 exact g1
      | 2, hu => obtain rfl : Value.int .i64 (F j).f2 = u := by simpa using hu
                 exact g2
    · obtain ⟨i, hi2, rfl⟩ := List.mem_map.1 hx
      have : i < len' := by simpa using hi2
      exact (hF i (by omega)).2
end Go.Proofs.YthggpjiabklekaaGreatDoor
