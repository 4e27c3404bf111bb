/- http.Get: the first value of a name, and how many there are. -/
import Derived.Test.YthdmaajmgbhbmaaDoorSm
import Derived.Lib.Hide
namespace Go.Proofs.YthdmaajmgbhbmaaDoor
set_option linter.unusedSimpArgs false
set_option linter.unusedVariables false
open Go.RowKit

abbrev HL := List (ByteArray × ByteArray)
/-- Where headers lie. -/
def LiesH (w : World) (A : Option Addr) (p : HL) : Prop := 0 < p.length → ∃ ad, A = some ad ∧ ∀ j (hj : j < p.length), w.cell? (ad.add (j * 2)) = some (.string p[j].1) ∧ w.cell? (ad.add (j * 2 + 1)) = some (.string p[j].2)
theorem LiesH.below {w w' : World} {A : Option Addr} {p : HL} (h : LiesH w A p) (hb : Below w.heap.size w w') : LiesH w' A p := fun hp => by
  obtain ⟨ad, h1, h2⟩ := h hp
  exact ⟨ad, h1, fun j hj => ⟨cell_in hb (h2 j hj).1, cell_in hb (h2 j hj).2⟩⟩
/-- The first value of a name (in small), and how many there are. -/
def gR (sm : ByteArray) : HL → ByteArray × Nat → ByteArray × Nat
  | [], a => a
  | x :: r, a => if smallB x.1 = sm then gR sm r (if a.2 = 0 then x.2 else a.1, a.2 + 1) else gR sm r a
theorem toList_ne {a b : ByteArray} (h : ¬ a = b) : (a.toList == b.toList) = false := by
  rw [beq_eq_false_iff_ne]
  intro e
  rw [Lib.toList_data, Lib.toList_data] at e
  exact h (ByteArray.ext (Array.ext' e))
set_option maxRecDepth 20000 in
set_option maxHeartbeats 8000000 in
theorem get_some (p : HL) (ad : Addr) (c : Nat) (nm : ByteArray) (w : World) (hA : ∀ j (hj : j < p.length), w.cell? (ad.add (j * 2)) = some (.string p[j].1) ∧ w.cell? (ad.add (j * 2 + 1)) = some (.string p[j].2)) (hl : p.length ≤ 100000) (hx : ∀ j (hj : j < p.length), p[j].1.size ≤ 1000000) (hnm : nm.size ≤ 1000000) :
    Calls Tryd.prog 7 #[.slice (some ad) p.length c, .string nm] w fun e w' => e = .returned (.tuple #[.string (gR (smallB nm) p (⟨#[]⟩, 0)).1, .int .i64 (gR (smallB nm) p (⟨#[]⟩, 0)).2]) ∧ Below w.heap.size w w' := by
  have HA := Lib.hid hA
  have HXX := Lib.hid hx
  have HSm := Lib.hid (fun x => small_any nm hnm x)
  generalize hsm : smallB nm = sm at *
  obtain ⟨R, hR⟩ : ∃ R, gR sm p (⟨#[]⟩, 0) = R := ⟨_, rfl⟩
  rw [hR]
  have HR := Lib.hid hR
  clear hA hx hR hsm
  go_enter Tryd.func7, Tryd.ntmps7
  go_wp2
  go_loopw [6, 7, 12] (fun a b i wr => ∃ (n k : Nat) (v : ByteArray), k ≤ p.length ∧ n ≤ k ∧ a = .int .i64 n ∧ b = .string v ∧ i = .int .i64 k ∧ gR sm (p.drop k) (v, n) = R ∧ Below w.heap.size w wr) (fun _ _ i _ => p.length - (RowKit.intOf i).toNat)
  case atStart => exact ⟨0, 0, ⟨#[]⟩, by omega, by omega, rfl, rfl, rfl, HR.out, Below.refl _ _⟩
  case round =>
    obtain ⟨n, k, v, hk, hnk, rfl, rfl, rfl, hG, hB⟩ := hrel
    have HB := Lib.hid hB
    have HG := Lib.hid hG
    clear hB hG
    by_cases hkp : k < p.length
    · have hkp' : (k : Int) < (p.length : Int) := by omega
      obtain ⟨a1, a2⟩ := HA.out k hkp
      obtain ⟨x, hxe⟩ : ∃ x, x = p[k] := ⟨_, rfl⟩
      obtain ⟨nx, vx⟩ := x
      have hn1 : p[k].1 = nx := by rw [← hxe]
      have hn2 : p[k].2 = vx := by rw [← hxe]
      have HN := Lib.hid (fun y => small_any nx (by rw [← hn1]; exact HXX.out k hkp) y)
      have hc0 : wr.cell? (ad.add (k * 2)) = some (.string nx) := by rw [← hn1]; exact cell_in HB.out a1
      have hc1 : wr.cell? (ad.add (k * 2 + 1)) = some (.string vx) := by rw [← hn2]; exact cell_in HB.out a2
      have hc1' : wr.cell? ((ad.add (k * 2)).add 1) = some (.string vx) := by rw [Addr.add_add]; exact hc1
      have hc1'' : wr.cell? { block := (ad.add (k * 2)).block, off := (ad.add (k * 2)).off + 1 } = some (.string vx) := hc1'
      have hdrop : p.drop k = (nx, vx) :: p.drop (k + 1) := by rw [List.drop_eq_getElem_cons hkp, ← hxe]
      have HG2 : Hid (gR sm ((nx, vx) :: p.drop (k + 1)) (v, n) = R) := by show _ = _; rw [← hdrop]; exact HG.out
      clear a1 a2 hxe hn1 hn2 hdrop HG
      have hw1 : IntKind.i64.wrap ((n : Int) + 1) = (n : Int) + 1 := IntWalk.i64_in _ (by omega)
      have nB := (HB.out.alloc HB.out.size (.cells #[.string nx, .string vx] 25))
      have nX := heap_alloc_new wr (.cells #[.string nx, .string vx] 25)
      have b0 := (blk_cell nX 0).trans rfl
      have b1 := (blk_cell nX 1).trans rfl
      have NB := Lib.hid nB
      have NX := Lib.hid nX
      clear nB nX
      have goal2 : True := trivial
      by_cases he : smallB nx = sm
      · have he' : (!(smallB nx).toList == sm.toList) = false := by rw [he]; simp
        have HV : Hid (gR sm (p.drop (k + 1)) (if n = 0 then vx else v, n + 1) = R) := by
          have := HG2.out
          rw [gR, if_pos he] at this
          exact this
        clear he HG2
        generalize smallB nx = sx at HN he'
        by_cases hn0 : n = 0
        · have hn1 : ((n : Int) + 1 == 1) = true := by rw [beq_iff_eq]; omega
          have HV2 : Hid (gR sm (p.drop (k + 1)) (vx, n + 1) = R) := by have := HV.out; rw [if_pos hn0] at this; exact this
          clear hn0 HV
          go_wp2_with (first
            | (go_at_call 8; (with_reducible refine Calls.mono (HSm.out _) ?_); rintro e w2 ⟨rfl, hb⟩; have NB2 := Lib.hid (below_to NB1.out hb); have NX2 := Lib.hid (below_blk hb NX1.out); have d0 := (blk_cell NX2.out 0).trans rfl; have d1 := (blk_cell NX2.out 1).trans rfl; clear hb)
            | (go_at_call 8; (with_reducible refine Calls.mono (HN.out _) ?_); rintro e w1 ⟨rfl, hb⟩; have NB1 := Lib.hid (below_to NB.out hb); have NX1 := Lib.hid (below_blk hb NX.out); have e0 := (blk_cell NX1.out 0).trans rfl; have e1 := (blk_cell NX1.out 1).trans rfl; clear hb))
          go_roundw
          case rel => exact ⟨n + 1, k + 1, vx, by omega, by omega, by go_num, rfl, by go_num, HV2.out, NB2.out⟩
          case measure => simp [RowKit.intOf]; omega
        · have hn1 : ((n : Int) + 1 == 1) = false := by rw [beq_eq_false_iff_ne]; omega
          have HV2 : Hid (gR sm (p.drop (k + 1)) (v, n + 1) = R) := by have := HV.out; rw [if_neg hn0] at this; exact this
          clear hn0 HV
          go_wp2_with (first
            | (go_at_call 8; (with_reducible refine Calls.mono (HSm.out _) ?_); rintro e w2 ⟨rfl, hb⟩; have NB2 := Lib.hid (below_to NB1.out hb); have NX2 := Lib.hid (below_blk hb NX1.out); have d0 := (blk_cell NX2.out 0).trans rfl; have d1 := (blk_cell NX2.out 1).trans rfl; clear hb)
            | (go_at_call 8; (with_reducible refine Calls.mono (HN.out _) ?_); rintro e w1 ⟨rfl, hb⟩; have NB1 := Lib.hid (below_to NB.out hb); have NX1 := Lib.hid (below_blk hb NX.out); have e0 := (blk_cell NX1.out 0).trans rfl; have e1 := (blk_cell NX1.out 1).trans rfl; clear hb))
          go_roundw
          case rel => exact ⟨n + 1, k + 1, v, by omega, by omega, by go_num, rfl, by go_num, HV2.out, NB2.out⟩
          case measure => simp [RowKit.intOf]; omega
      · have he' : (!(smallB nx).toList == sm.toList) = true := by rw [toList_ne he]; rfl
        have HV2 : Hid (gR sm (p.drop (k + 1)) (v, n) = R) := by
          have := HG2.out
          rw [gR, if_neg he] at this
          exact this
        clear he HG2
        generalize smallB nx = sx at HN he'
        go_wp2_with (first
          | (go_at_call 8; (with_reducible refine Calls.mono (HSm.out _) ?_); rintro e w2 ⟨rfl, hb⟩; have NB2 := Lib.hid (below_to NB1.out hb); have NX2 := Lib.hid (below_blk hb NX1.out); have d0 := (blk_cell NX2.out 0).trans rfl; have d1 := (blk_cell NX2.out 1).trans rfl; clear hb)
          | (go_at_call 8; (with_reducible refine Calls.mono (HN.out _) ?_); rintro e w1 ⟨rfl, hb⟩; have NB1 := Lib.hid (below_to NB.out hb); have NX1 := Lib.hid (below_blk hb NX.out); have e0 := (blk_cell NX1.out 0).trans rfl; have e1 := (blk_cell NX1.out 1).trans rfl; clear hb))
        go_roundw
        case rel => exact ⟨n, k + 1, v, by omega, by omega, rfl, rfl, by go_num, HV2.out, NB2.out⟩
        case measure => simp [RowKit.intOf]; omega
    · have hkp' : ¬ (k : Int) < (p.length : Int) := by omega
      have HE : Hid ((v, n) = R) := by
        have := HG.out
        rw [List.drop_eq_nil_of_le (by omega)] at this
        exact this
      go_wp2
      go_ret2
      exact ⟨by rw [← HE.out]; rfl, HB.out⟩
theorem get_any (p : HL) (A : Option Addr) (c : Nat) (nm : ByteArray) (w : World) (hA : LiesH w A p) (hl : p.length ≤ 100000) (hx : ∀ j (hj : j < p.length), p[j].1.size ≤ 1000000) (hnm : nm.size ≤ 1000000) :
    Calls Tryd.prog 7 #[.slice A p.length c, .string nm] w fun e w' => e = .returned (.tuple #[.string (gR (smallB nm) p (⟨#[]⟩, 0)).1, .int .i64 (gR (smallB nm) p (⟨#[]⟩, 0)).2]) ∧ Below w.heap.size w w' := by
  by_cases h0 : 0 < p.length
  · obtain ⟨ad, rfl, h⟩ := hA h0
    exact get_some p ad c nm w h hl hx hnm
  · have e : p = [] := List.length_eq_zero_iff.1 (by omega)
    subst e
    go_enter Tryd.func7, Tryd.ntmps7
    go_wp2
    go_loopw [6, 7, 12] (fun a b i wr => a = .int .i64 0 ∧ b = .string ⟨#[]⟩ ∧ i = .int .i64 0 ∧ wr = w) (fun _ _ _ _ => 0)
    case atStart => exact ⟨rfl, rfl, rfl, rfl⟩
    case round =>
      obtain ⟨rfl, rfl, rfl, rfl⟩ := hrel
      go_wp2
      go_ret2
      exact ⟨rfl, Below.refl _ _⟩
end Go.Proofs.YthdmaajmgbhbmaaDoor
