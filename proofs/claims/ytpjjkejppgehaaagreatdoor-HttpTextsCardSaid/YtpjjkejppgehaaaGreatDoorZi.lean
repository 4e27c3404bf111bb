/- What the reading wants, out of what is laid. -/
import Derived.Test.YtpjjkejppgehaaaGreatDoorLb
import Derived.Test.YtpjjkejppgehaaaGreatDoorZf
import Derived.Test.YtpjjkejppgehaaaGreatDoorZe
import Derived.Deep.Slices
import Derived.Deep.Fields
import Derived.ChangeSame
import Derived.Lib.SmallJoins
import Derived.ChangeArms
import Derived.WideShapes
import Derived.SizedLaws
namespace Go.Proofs.YtpjjkejppgehaaaGreatDoor
open Go.ChangeShapes Go.WideShapes Go.RowKit Go.Lib
theorem pow10_of_laid {W : World} (h : laidMetH Tryz.prog Rows.httpReadsRow.laid W) : Pow10 W := by
  obtain ⟨⟨ps, hv, hnd, hok⟩, -⟩ := parted_ h
  obtain ⟨g0, t0, cs0, f0, p0, q0, hg0, ht0, hv0, hd0, ⟨g1, t1, cs1, f1, p1, q1, hg1, ht1, hv1, hd1, ⟨g2, t2, cs2, f2, p2, q2, hg2, ht2, hv2, hd2, -, -⟩, -⟩, -⟩ := hv
  have hg : Tryz.prog.globalNamed "internal/strconv.uint64pow10" = some 22 := by kernel_rfl
  obtain rfl := Option.some.inj (hg.symm.trans hg2)
  have hty : (Tryz.prog.globals[22]?).map (·.type) = some 154 := by kernel_rfl
  obtain rfl := Option.some.inj (hty.symm.trans ht2)
  unfold Pow10 Lib.TabIs
  rw [hv2, ← Lib.cells_of_tab (k := .u64) (zs := Lib.pow10Tab) Tryz.underlying154 Tryz.underlying139 (by kernel_rfl) (by kernel_rfl) hd2]
theorem rinv_of_laid {W : World} (h : laidMetH Tryz.prog Rows.httpReadsRow.laid W) (hsh : W.ShapedOpen Tryz.prog) : RInv W :=
  ⟨is_of_laid h, pow10_of_laid h, Tryz.laysM145.s1_3 W hsh, let ⟨_, ha⟩ := exErrSyntax_of_laid h; ⟨_, _, ha⟩⟩
end Go.Proofs.YtpjjkejppgehaaaGreatDoor

/- The response that came in. -/
namespace Go.Proofs.YtpjjkejppgehaaaGreatDoor
open Go.ChangeShapes Go.WideShapes Go.Deep
section
variable {H : Type} {enc : TypeId × Value → H} {P : Program} {w : World} {base : Nat} {spare : Nat → Bool} {held : Bool}
theorem open_slice_fields {t e : TypeId} {fs : Array Field} {fuel : Nat} {cs : List Value} {x : DataW H × List MemPlace} (ht : P.underlying t = some (.slice e)) (he : P.underlying e = some (.struct fs))
    (hone : oneCellFields P fs = true) (hC : P.cellsOf e = fs.size) (h : DataW.trod enc P w base spare held fuel t cs = some x) :
    (cs = [.slice none 0 0] ∧ x = (.nil, [])) ∨
    ∃ (a : Addr) (len cap m : Nat) (D : Nat → DataW H) (Pl : Nat → List MemPlace), cs = [.slice (some a) len cap] ∧ base ≤ a.block ∧ len ≤ cap ∧ cap ≤ maxLen ∧ m = (if spare a.block then cap else len) ∧
      x = (.slice ((List.range len).map D) ((List.range (m - len)).map fun j => D (len + j)), MemPlace.row a (m * fs.size) ++ (List.range m).flatMap Pl) ∧
      ∀ i, i < m → ∃ (ys : List (DataW H × List MemPlace)) (n : Nat), D i = .agg (ys.map (·.1)) ∧ Pl i = ys.flatMap (·.2) ∧ ys.length = fs.size ∧
        ∀ (j : Nat) (f : Field), fs[j]? = some f → ∃ (v : Value) (y : DataW H × List MemPlace), w.cell? (a.add (i * fs.size + j)) = some v ∧ ys[j]? = some y ∧ DataW.trod enc P w base spare held n f.type [v] = some y := by
  rcases open_slice ht h with h0 | ⟨a, len, cap, m, n, D, Pl, hcs, hb, hl, hm, hmm, hx, hi⟩
  · exact .inl h0
  · refine .inr ⟨a, len, cap, m, D, Pl, hcs, hb, hl, hm, hmm, by rw [hC] at hx; exact hx, fun i him => ?_⟩
    obtain ⟨cs', hc, ht'⟩ := hi i him
    rw [hC] at hc
    obtain ⟨ys, n', hn', hy, hlen, hyl, hf⟩ := DataW.trod_struct he ht'
    obtain ⟨_, hcl, hat⟩ := World.cells?_some hc
    simp only [Prod.mk.injEq] at hy
    refine ⟨ys, n', hy.1, hy.2, hyl, fun j f hj => ?_⟩
    obtain ⟨ho, hk⟩ := hone_of hone j f hj
    have hjl : j < fs.size := (Array.getElem?_eq_some_iff.1 hj).1
    have hcell := hat j hjl
    have hv : cs'[j]? = some (cs'[j]'(by omega)) := List.getElem?_eq_getElem (by omega)
    have h1 := hf j f hj
    rw [ho, hk] at h1
    have hone' : (cs'.drop j).take 1 = [cs'[j]'(by omega)] := by
      rw [List.drop_eq_getElem_cons (by omega)]
      rfl
    rw [hone'] at h1
    have hys : ys[j]? = some (ys[j]'(by omega)) := List.getElem?_eq_getElem (by omega)
    refine ⟨_, _, ?_, hys, h1.trans hys⟩
    rw [← Go.Deep.add_add, hcell, hv]
end
theorem weightsAll_in {H : Type} {P : Program} {e : TypeId} : ∀ {l : List (DataW H)} {d : DataW H}, d ∈ l → ∀ n ∈ d.weights P e, n ∈ DataW.weightsAll P e l
  | [], _, h, _, _ => by cases h
  | x :: r, d, h, n, hn => by
    simp only [DataW.weightsAll, List.mem_append]
    rcases List.mem_cons.1 h with rfl | h
    · exact Or.inl hn
    · exact Or.inr (weightsAll_in h n hn)
end Go.Proofs.YtpjjkejppgehaaaGreatDoor
namespace Go.Proofs.YtpjjkejppgehaaaGreatDoor
open Go.ChangeShapes Go.WideShapes Go.RowKit Go.Joins
set_option maxRecDepth 100000 in
theorem open_resp {H : Type} {enc : TypeId × Value → H} {W : World} {r : Reach} {b0 : Nat} {v : Value} {d : DataW H} {p : List MemPlace} (hv : Value.okWide Tryz.prog W r b0 24 v) (h : DataW.Trod enc Tryz.prog W 0 (fun _ => true) true 24 v d p) :
    ∃ (st : Int) (A : Option Addr) (c : Nat) (l : HL) (b : ByteArray), v = .agg #[.int .i64 st, .slice A l.length c, .string b] ∧ LiesH W A l ∧ l.length ≤ c ∧ l.length ≤ 9223372036854775807 ∧
      ((∀ n ∈ d.weights Tryz.prog 24, n ≤ reachBytes) → ∀ j (hj : j < l.length), l[j].1.size ≤ 140737488355328 ∧ l[j].2.size ≤ 140737488355328) := by
  obtain ⟨v0, v1, v2, y0, y1, y2, n, rfl, rfl, rfl, h0, h1, h2⟩ := open_agg3 Tryz.underlying24 (by kernel_rfl) (by kernel_rfl) hv h
  obtain ⟨x, e0, _, w0⟩ := DataW.trod_int Tryz.underlying3 h0
  obtain ⟨bb, e2, _, w2⟩ := DataW.trod_string Tryz.underlying9 h2
  obtain rfl : v0 = .int .i64 x := by injection e0
  obtain rfl : v2 = .string bb := by injection e2
  rcases open_slice_fields Tryz.underlying22 Tryz.underlying43 (by kernel_rfl) (by kernel_rfl) h1 with ⟨e1, _⟩ | ⟨a, len, cap, m, D, Pl, e1, _, hl, hm, hmm, hx, hi⟩
  · obtain rfl : v1 = .slice none 0 0 := by injection e1
    exact ⟨x, none, 0, [], bb, rfl, fun h => (by simp at h), by simp, by simp, fun _ j hj => by cases hj⟩
  · obtain rfl : v1 = .slice (some a) len cap := by injection e1
    have hmm : m = cap := by simpa using hmm
    subst hmm
    have hel : ∀ i, ∃ x : ByteArray × ByteArray, i < m → W.cell? (a.add (i * 2)) = some (.string x.1) ∧ W.cell? (a.add (i * 2 + 1)) = some (.string x.2) ∧ D i = .agg [.lit (.string x.1.data.toList), .lit (.string x.2.data.toList)] := by
      intro i
      by_cases hlt : i < m
      · obtain ⟨ys, n', hD, _, hyl, hf⟩ := hi i hlt
        obtain ⟨v0, z0, hc0, hz0, ht0⟩ := hf 0 _ rfl
        obtain ⟨v1, z1, hc1, hz1, ht1⟩ := hf 1 _ rfl
        obtain ⟨x, ex, fx, wx⟩ := DataW.trod_string Tryz.underlying9 ht0
        obtain ⟨y, ey, fy, wy⟩ := DataW.trod_string Tryz.underlying9 ht1
        obtain rfl : v0 = .string x := by injection ex
        obtain rfl : v1 = .string y := by injection ey
        refine ⟨(x, y), fun _ => ⟨hc0, hc1, ?_⟩⟩
        have hyl2 : ys.length = 2 := hyl
        match ys, hyl2, hz0, hz1, hD with
        | [q0, q1], _, hz0, hz1, hD =>
          obtain rfl : q0 = z0 := Option.some.inj hz0
          obtain rfl : q1 = z1 := Option.some.inj hz1
          rw [hD, fx, fy]
          rfl
      · exact ⟨(⟨#[]⟩, ⟨#[]⟩), fun h => absurd h hlt⟩
    have hF := fun i => Classical.choose_spec (hel i)
    generalize hG : (fun i => Classical.choose (hel i)) = F
    have hF : ∀ i, i < m → W.cell? (a.add (i * 2)) = some (.string (F i).1) ∧ W.cell? (a.add (i * 2 + 1)) = some (.string (F i).2) ∧ D i = .agg [.lit (.string (F i).1.data.toList), .lit (.string (F i).2.data.toList)] := fun i hlt => by rw [← hG]; exact hF i hlt
    refine ⟨x, some a, m, (List.range len).map F, bb, by simp, fun _ => ⟨a, rfl, fun j hj => ?_⟩, by simpa using hl, by simp; unfold maxLen at hm; omega, fun hw j hj => ?_⟩
    · have hj' : j < len := by simpa using hj
      have := hF j (by omega)
      simpa using ⟨this.1, this.2.1⟩
    · have hj' : j < len := by simpa using hj
      obtain ⟨_, _, hDj⟩ := hF j (by omega)
      have hmem : D j ∈ (List.range len).map D := List.mem_map.2 ⟨j, List.mem_range.2 hj', rfl⟩
      have hin : ∀ n ∈ (D j).weights Tryz.prog 43, n ≤ reachBytes := fun n hn => by
        apply hw
        have hu := Tryz.underlying24
        simp only [DataW.weights, hu]
        refine DataW.weights_mem_each (j := 1) (t := 22) (d := y1.1) rfl rfl n ?_
        rw [hx]
        simp only [DataW.weights, Tryz.underlying22, List.mem_cons, List.mem_append]
        exact Or.inr (Or.inl (weightsAll_in hmem n hn))
      rw [hDj] at hin
      simp only [DataW.weights, Tryz.underlying43] at hin
      have g0 := hin (F j).1.data.toList.length (DataW.weights_mem_each (j := 0) (t := 9) (d := .lit (.string (F j).1.data.toList)) rfl rfl _ (by simp [DataW.weights]))
      have g1 := hin (F j).2.data.toList.length (DataW.weights_mem_each (j := 1) (t := 9) (d := .lit (.string (F j).2.data.toList)) rfl rfl _ (by simp [DataW.weights]))
      unfold reachBytes at g0 g1
      rw [Array.length_toList] at g0 g1
      have k0 : (F j).1.size = (F j).1.data.size := rfl
      have k1 : (F j).2.size = (F j).2.data.size := rfl
      simp only [List.getElem_map, List.getElem_range]
      omega
end Go.Proofs.YtpjjkejppgehaaaGreatDoor
