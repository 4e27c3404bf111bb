/- AsnFinds: the law's walk. -/
import Derived.Test.YtanbnlobbgfidaaGreatDoorFd
import Derived.Test.YtanbnlobbgfidaaGreatDoorAw
namespace Go.Proofs.YtanbnlobbgfidaaGreatDoor
set_option linter.unusedSimpArgs false
set_option linter.unusedVariables false
open Go.RowKit Go.Lib

def errAt : Option (Int × Nat) → Int
  | none => 0
  | some (a, _) => a
def errNo : Option (Int × Nat) → Int
  | none => 0
  | some (_, c) => (c : Int)
/-- An error is the one that is told. -/
theorem is_same (v : Value) (y : Option (Int × Nat)) (x : World) (hf : FltIs x v y) (hI : IsInv x) : Calls Tryz.prog 18 #[v, .int .i64 (errAt y), .int .i64 (errNo y)] x fun e w' => e = .returned (.bool true) ∧ Below x.heap.size x w' := by
  have hb : isB y (errAt y) (errNo y) = true ∧ 0 ≤ errNo y ∧ errNo y ≤ 18 := by
    match y, hf with
    | none, _ => exact ⟨rfl, by decide, by decide⟩
    | some (a, c), ⟨h1, h2, _⟩ =>
      refine ⟨?_, ?_, ?_⟩
      · simp only [isB, errAt, errNo]
        simp
        omega
      · show 0 ≤ (c : Int); omega
      · show (c : Int) ≤ 18; omega
  have C := is_any v y (errAt y) (errNo y) hb.2.1 hb.2.2 x hf hI
  rw [hb.1] at C
  exact C
/-- The span that holds n, of the first k. -/
def wantS (p : List (Int × Int)) (n : Int) : Nat → Int
  | 0 => -1
  | k + 1 => if (p.getD k (0, 0)).1 ≤ n ∧ n ≤ (p.getD k (0, 0)).2 then (k : Int) else wantS p n k
/-- How many numbers the first k have. -/
def sumS (p : List (Int × Int)) : Nat → Int
  | 0 => 0
  | k + 1 => sumS p k + ((p.getD k (0, 0)).2 - (p.getD k (0, 0)).1 + 1)

theorem finds_long (A : Option Addr) (c len : Nat) (n : Int) (w : World) (h60 : 60 < len) (h5 : Calls Tryz.prog 7 #[] w fun e w' => e = .returned (.bool true) ∧ Below w.heap.size w w') :
    Calls Tryz.prog 6 #[.slice A len c, .int .u32 n] w fun e w' => e = .returned (.bool true) ∧ Below w.heap.size w w' := by
  have HK5 := Lib.hid h5
  clear h5
  go_enter Tryz.func6, Tryz.ntmps6
  go_wp2_with (go_at_call 7; refine HK5.out.mono ?_; rintro e w1 ⟨rfl, hb⟩; have HBw1 := Lib.hid hb; clear hb)
  go_ret
  exact ⟨rfl, HBw1.out⟩

set_option maxHeartbeats 1000000 in
theorem finds_bad (A : Option Addr) (c len : Nat) (n : Int) (w : World) (h60 : ¬ 60 < len) (x : Option (Int × Nat)) (hx : ¬ errNo x = 0)
    (h5 : Calls Tryz.prog 7 #[] w fun e w' => e = .returned (.bool true) ∧ Below w.heap.size w w')
    (h6 : ∀ y, Below w.heap.size w y → Calls Tryz.prog 17 #[.slice A len c] y fun e w' => e = .returned (.tuple #[.int .i64 (errAt x), .int .i64 (errNo x)]) ∧ Below y.heap.size y w')
    (h7 : ∀ y, Below w.heap.size w y → Calls Tryz.prog 19 #[.slice A len c] y fun e w' => ∃ v, e = .returned v ∧ FltIs w' v x ∧ Below y.heap.size y w')
    (h8 : ∀ y v, Below w.heap.size w y → FltIs y v x → Calls Tryz.prog 18 #[v, .int .i64 (errAt x), .int .i64 (errNo x)] y fun e w' => e = .returned (.bool true) ∧ Below y.heap.size y w') :
    Calls Tryz.prog 6 #[.slice A len c, .int .u32 n] w fun e w' => e = .returned (.bool true) ∧ Below w.heap.size w w' := by
  generalize ha : errAt x = pa at h6 h8
  generalize hc : errNo x = pc at h6 h8 hx
  clear ha hc
  have HK5 := Lib.hid h5
  have HK6 := Lib.hid h6
  have HK7 := Lib.hid h7
  have HK8 := Lib.hid h8
  clear h5 h6 h7 h8
  go_enter Tryz.func6, Tryz.ntmps6
  go_wp2_with (first
    | (go_at_call 18; have C := HK8.out w3 v HBw3.out HFw3.out; (with_reducible refine Calls.mono C ?_); clear C; rintro e w4 ⟨rfl, hb⟩; have HBw4 := Lib.hid (below_to HBw3.out hb); clear hb)
    | (go_at_call 19; have C := HK7.out w2 HBw2.out; (with_reducible refine Calls.mono C ?_); clear C; rintro e w3 ⟨v, rfl, hf, hb⟩; have HBw3 := Lib.hid (below_to HBw2.out hb); have HFw3 := Lib.hid hf; clear hb hf)
    | (go_at_call 17; have C := HK6.out w1 HBw1.out; (with_reducible refine Calls.mono C ?_); clear C; rintro e w2 ⟨rfl, hb⟩; have HBw2 := Lib.hid (below_to HBw1.out hb); clear hb)
    | (go_at_call 7; refine HK5.out.mono ?_; rintro e w1 ⟨rfl, hb⟩; have HBw1 := Lib.hid hb; clear hb))
  go_ret
  exact ⟨rfl, HBw4.out⟩

set_option maxRecDepth 20000 in
set_option maxHeartbeats 2000000 in
theorem finds_row (A : Option Addr) (c : Nat) (p : List (Int × Int)) (n : Int) (w : World) (h60 : ¬ 60 < p.length) (hA : Lies w A p) (hu : U32s p) (hr : ∀ x ∈ p, x.1 ≤ x.2) (hsum : ∀ k, k ≤ p.length → 0 ≤ sumS p k ∧ sumS p k ≤ 9000000000000000000)
    (h5 : Calls Tryz.prog 7 #[] w fun e w' => e = .returned (.bool true) ∧ Below w.heap.size w w')
    (h6 : ∀ y, Below w.heap.size w y → Calls Tryz.prog 17 #[.slice A p.length c] y fun e w' => e = .returned (.tuple #[.int .i64 0, .int .i64 0]) ∧ Below y.heap.size y w')
    (h7 : ∀ y, Below w.heap.size w y → Calls Tryz.prog 19 #[.slice A p.length c] y fun e w' => ∃ v, e = .returned v ∧ FltIs w' v none ∧ Below y.heap.size y w')
    (h8 : ∀ y v, Below w.heap.size w y → FltIs y v none → Calls Tryz.prog 18 #[v, .int .i64 0, .int .i64 0] y fun e w' => e = .returned (.bool true) ∧ Below y.heap.size y w')
    (h9 : ∀ y, Below w.heap.size w y → Calls Tryz.prog 20 #[.slice A p.length c, .int .u32 n] y fun e w' => e = .returned (.int .i64 (wantS p n p.length)) ∧ Below y.heap.size y w')
    (h10 : ∀ y, Below w.heap.size w y → Calls Tryz.prog 13 #[.slice A p.length c] y fun e w' => e = .returned (.int .u64 (sumS p p.length)) ∧ Below y.heap.size y w') :
    Calls Tryz.prog 6 #[.slice A p.length c, .int .u32 n] w fun e w' => e = .returned (.bool true) ∧ Below w.heap.size w w' := by
  have HK5 := Lib.hid h5
  have HK6 := Lib.hid h6
  have HK7 := Lib.hid h7
  have HK8 := Lib.hid h8
  have HK9 := Lib.hid h9
  have HK10 := Lib.hid h10
  have HA := Lib.hid hA
  have HU := Lib.hid hu
  have HR := Lib.hid hr
  have HSM := Lib.hid hsum
  clear h5 h6 h7 h8 h9 h10 hA hu hr hsum
  go_enter Tryz.func6, Tryz.ntmps6
  go_wp2_with (first
    | (go_at_call 18; have C := HK8.out w3 v HBw3.out HFw3.out; (with_reducible refine Calls.mono C ?_); clear C; rintro e w4 ⟨rfl, hb⟩; have HBw4 := Lib.hid (below_to HBw3.out hb); clear hb)
    | (go_at_call 19; have C := HK7.out w2 HBw2.out; (with_reducible refine Calls.mono C ?_); clear C; rintro e w3 ⟨v, rfl, hf, hb⟩; have HBw3 := Lib.hid (below_to HBw2.out hb); have HFw3 := Lib.hid hf; clear hb hf)
    | (go_at_call 17; have C := HK6.out w1 HBw1.out; (with_reducible refine Calls.mono C ?_); clear C; rintro e w2 ⟨rfl, hb⟩; have HBw2 := Lib.hid (below_to HBw1.out hb); clear hb)
    | (go_at_call 7; refine HK5.out.mono ?_; rintro e w1 ⟨rfl, hb⟩; have HBw1 := Lib.hid hb; clear hb))
  go_loopw [7, 8, 9] (fun a b i wr => ∃ k : Nat, k ≤ p.length ∧ a = .int .i64 (wantS p n k) ∧ b = .int .u64 (sumS p k) ∧ i = .int .i64 k ∧ Below w.heap.size w wr) (fun _ _ i _ => p.length - (RowKit.intOf i).toNat)
  case atStart => exact ⟨0, Nat.zero_le _, rfl, rfl, rfl, HBw4.out⟩
  case round =>
    obtain ⟨k, hk, rfl, rfl, rfl, hb⟩ := hrel
    have HB := Lib.hid hb
    clear hb
    by_cases hk2 : k < p.length
    · obtain ⟨ad, rfl, hcell⟩ := HA.out (by omega)
      have hc0 : wr.cell? (ad.add (k * 2)) = some (.int .u32 p[k].1) := cell_in HB.out (hcell k (by omega)).1
      have hc1 : wr.cell? (ad.add (k * 2 + 1)) = some (.int .u32 p[k].2) := cell_in HB.out (hcell k (by omega)).2
      have e : p.getD k (0, 0) = p[k] := by rw [List.getD_eq_getElem?_getD, List.getElem?_eq_getElem (by omega)]; rfl
      have hw : wantS p n (k + 1) = if p[k].1 ≤ n ∧ n ≤ p[k].2 then (k : Int) else wantS p n k := by simp only [wantS, e]
      have hs : sumS p (k + 1) = sumS p k + (p[k].2 - p[k].1 + 1) := by simp only [sumS, e]
      have hb1 := HU.out p[k] (List.getElem_mem _)
      have hr1 := HR.out p[k] (List.getElem_mem _)
      have hs1 := HSM.out k (by omega)
      have hs2 := HSM.out (k + 1) (by omega)
      rw [hs] at hs2
      clear hcell e
      generalize p[k].1 = x1 at hc0 hw hs hb1 hr1 hs2
      generalize p[k].2 = x2 at hc1 hw hs hb1 hr1 hs2
      generalize sumS p k = s at hs hs1 hs2 ⊢
      generalize wantS p n k = wt at hw ⊢
      have hc1' : wr.cell? ((ad.add (k * 2)).add 1) = some (.int .u32 x2) := by rw [Addr.add_add]; exact hc1
      have hc1'' : wr.cell? { block := (ad.add (k * 2)).block, off := (ad.add (k * 2)).off + 1 } = some (.int .u32 x2) := hc1'
      have e1 : IntKind.u32.wrap (x2 - x1) = x2 - x1 := IntWalk.u32_in _ (by omega)
      have e2 : IntKind.u64.wrap (x2 - x1) = x2 - x1 := IntWalk.u64_in _ (by omega)
      have e3 : IntKind.u64.wrap (x2 - x1 + 1) = x2 - x1 + 1 := IntWalk.u64_in _ (by omega)
      have e4 : IntKind.u64.wrap (s + (x2 - x1 + 1)) = s + (x2 - x1 + 1) := IntWalk.u64_in _ (by omega)
      have HW := Lib.hid hw
      have HS := Lib.hid hs
      clear hw hs hb1 hr1 hs1 hs2
      by_cases g1 : x1 ≤ n
      · by_cases g2 : n ≤ x2
        · have hw2 := HW.out
          rw [if_pos ⟨g1, g2⟩] at hw2
          have HW2 := Lib.hid hw2
          clear hw2
          go_wp2
          go_quiet (fail)
          go_wp2
          go_roundw
          case rel => exact ⟨k + 1, by omega, by rw [HW2.out], by rw [HS.out], by go_num, below_drewN HB.out nq⟩
          case measure => simp [RowKit.intOf]; omega
        · have hw2 := HW.out
          rw [if_neg (fun h => g2 h.2)] at hw2
          have HW2 := Lib.hid hw2
          clear hw2
          go_wp2
          go_quiet (fail)
          go_wp2
          go_roundw
          case rel => exact ⟨k + 1, by omega, by rw [HW2.out], by rw [HS.out], by go_num, below_drewN HB.out nq⟩
          case measure => simp [RowKit.intOf]; omega
      · have hw2 := HW.out
        rw [if_neg (fun h => g1 h.1)] at hw2
        have HW2 := Lib.hid hw2
        clear hw2
        go_wp2
        go_quiet (fail)
        go_wp2
        go_roundw
        case rel => exact ⟨k + 1, by omega, by rw [HW2.out], by rw [HS.out], by go_num, below_drewN HB.out nq⟩
        case measure => simp [RowKit.intOf]; omega
    · obtain rfl : k = p.length := by omega
      generalize wantS p n p.length = wt at HK9 ⊢
      generalize sumS p p.length = s at HK10 ⊢
      go_wp2_with (first
        | (go_at_call 13; have C := HK10.out w5 HBw5.out; (with_reducible refine Calls.mono C ?_); clear C; rintro e w6 ⟨rfl, hb⟩; have HBw6 := Lib.hid (below_to HBw5.out hb); clear hb)
        | (go_at_call 20; have C := HK9.out wr HB.out; (with_reducible refine Calls.mono C ?_); clear C; rintro e w5 ⟨rfl, hb⟩; have HBw5 := Lib.hid (below_to HB.out hb); clear hb))
      (try rw [Exit.noGoto_ret])
      go_ret
      exact ⟨by simp, HBw6.out⟩
end Go.Proofs.YtanbnlobbgfidaaGreatDoor
