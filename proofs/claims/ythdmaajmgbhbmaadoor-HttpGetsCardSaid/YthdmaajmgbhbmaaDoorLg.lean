/- The walk of HttpGets. -/
import Derived.Test.YthdmaajmgbhbmaaDoorAw
import Derived.Test.YthdmaajmgbhbmaaDoorGe
import Derived.Test.YthdmaajmgbhbmaaDoorSr
import Derived.Test.YthdmaajmgbhbmaaDoorWo
namespace Go.Proofs.YthdmaajmgbhbmaaDoor
set_option linter.unusedSimpArgs false
set_option linter.unusedVariables false
open Go.RowKit

theorem toList_eq {a b : ByteArray} (h : a = b) : (a.toList == b.toList) = true := by rw [h]; simp
set_option maxHeartbeats 4000000 in
/-- Of too many headers, or of too long a name, nothing is said. -/
theorem gets_out (p : HL) (A : Option Addr) (c : Nat) (s : ByteArray) (st : Int) (w : World) (h : 30 < p.length ∨ (¬ 30 < p.length ∧ 60 < s.size)) :
    Calls Tryd.prog 3 #[.slice A p.length c, .string s, .int .i64 st] w fun e w' => e = .returned (.bool true) ∧ Below w.heap.size w w' := by
  have H := Lib.hid (awake_any w)
  rcases h with h | ⟨h0, h⟩
  · have h' : (30 : Int) < (p.length : Int) := by omega
    clear h
    go_enter Tryd.func3, Tryd.ntmps3
    go_wp2_with (go_at_call 5; (with_reducible refine Calls.mono H.out ?_); rintro e w1 ⟨rfl, hb⟩)
    go_ret
    exact ⟨rfl, hb⟩
  · have h' : ¬ (30 : Int) < (p.length : Int) := by omega
    have h2 : (60 : Int) < (s.size : Int) := by omega
    clear h h0
    go_enter Tryd.func3, Tryd.ntmps3
    go_wp2_with (go_at_call 5; (with_reducible refine Calls.mono H.out ?_); rintro e w1 ⟨rfl, hb⟩)
    go_ret
    exact ⟨rfl, hb⟩
set_option maxRecDepth 20000 in
set_option maxHeartbeats 16000000 in
theorem gets_some (p : HL) (ad : Addr) (c : Nat) (s : ByteArray) (st : Int) (hst : (Lit.int .i64 st).wf = true) (w : World) (hA : ∀ j (hj : j < p.length), w.cell? (ad.add (j * 2)) = some (.string p[j].1) ∧ w.cell? (ad.add (j * 2 + 1)) = some (.string p[j].2)) (hl : p.length ≤ 30) (hs : s.size ≤ 60) :
    Calls Tryd.prog 3 #[.slice (some ad) p.length c, .string s, .int .i64 st] w fun e w' => e = .returned (.bool true) ∧ Below w.heap.size w w' := by
  have H := Lib.hid (awake_any w)
  have HA := Lib.hid hA
  have HSr := Lib.hid (fun x => ref_small_any s (by omega) x)
  have HSm := Lib.hid (fun x => small_any s (by omega) x)
  have HWo := Lib.hid (fun x => word_any st x)
  have HWr := Lib.hid (fun x => ref_word_any st hst x)
  have HGe := Lib.hid (fun (hx : ∀ j (hj : j < p.length), p[j].1.size ≤ 60) (x : World) (hb : Below w.heap.size w x) => get_some p ad c s x (fun j hj => ⟨cell_in hb (hA j hj).1, cell_in hb (hA j hj).2⟩) (by omega) (fun j hj => Nat.le_trans (hx j hj) (by omega)) (by omega))
  generalize smallB s = sm at *
  generalize wordB st = wd at *
  have h1 : ¬ (30 : Int) < (p.length : Int) := by omega
  have h2 : ¬ (60 : Int) < (s.size : Int) := by omega
  obtain ⟨R, hR⟩ : ∃ R, gR sm p (⟨#[]⟩, 0) = R := ⟨_, rfl⟩
  rw [hR] at HGe
  have HR := Lib.hid hR
  clear hA hR
  go_enter Tryd.func3, Tryd.ntmps3
  go_wp2_with (go_at_call 5; (with_reducible refine Calls.mono H.out ?_); rintro e w1 ⟨rfl, hb⟩)
  go_loopw [7, 8, 9] (fun a b i wr => ∃ (n k : Nat) (v : ByteArray), k ≤ p.length ∧ n ≤ k ∧ a = .string v ∧ b = .int .i64 n ∧ i = .int .i64 k ∧ gR sm (p.drop k) (v, n) = R ∧ (∀ j (hj : j < p.length), j < k → p[j].1.size ≤ 60) ∧ Below w.heap.size w wr) (fun _ _ i _ => p.length - (RowKit.intOf i).toNat)
  case atStart => exact ⟨0, 0, ⟨#[]⟩, by omega, by omega, rfl, rfl, rfl, HR.out, fun j hj h => by omega, hb⟩
  case round =>
    clear hb
    obtain ⟨n, k, v, hk, hnk, rfl, rfl, rfl, hG, hpre, hB⟩ := hrel
    have HB := Lib.hid hB
    have HG := Lib.hid hG
    have HPRE := Lib.hid hpre
    clear hB hG hpre
    by_cases hkp : k < p.length
    · have hkp' : (k : Int) < (p.length : Int) := by omega
      obtain ⟨a1, a2⟩ := HA.out k hkp
      obtain ⟨x, hxe⟩ : ∃ x, x = p[k] := ⟨_, rfl⟩
      obtain ⟨nx, vx⟩ := x
      have hn1 : p[k].1 = nx := by rw [← hxe]
      have hn2 : p[k].2 = vx := by rw [← hxe]
      have hc0 : wr.cell? (ad.add (k * 2)) = some (.string nx) := by rw [← hn1]; exact cell_in HB.out a1
      have hc1 : wr.cell? (ad.add (k * 2 + 1)) = some (.string vx) := by rw [← hn2]; exact cell_in HB.out a2
      have hc1' : wr.cell? ((ad.add (k * 2)).add 1) = some (.string vx) := by rw [Addr.add_add]; exact hc1
      have hc1'' : wr.cell? { block := (ad.add (k * 2)).block, off := (ad.add (k * 2)).off + 1 } = some (.string vx) := hc1'
      have hdrop : p.drop k = (nx, vx) :: p.drop (k + 1) := by rw [List.drop_eq_getElem_cons hkp, ← hxe]
      have HG2 : Hid (gR sm ((nx, vx) :: p.drop (k + 1)) (v, n) = R) := by show _ = _; rw [← hdrop]; exact HG.out
      have HN1 := Lib.hid hn1
      by_cases hlen : nx.size ≤ 60
      · have hlen' : ¬ (60 : Int) < (nx.size : Int) := by omega
        have HN := Lib.hid (fun y => ref_small_any nx (by omega) y)
        have HPRE2 : Hid (∀ j (hj : j < p.length), j < k + 1 → p[j].1.size ≤ 60) := fun j hj h => by
          by_cases e : j = k
          · subst e; rw [HN1.out]; exact hlen
          · exact HPRE.out j hj (by omega)
        have hw1 : IntKind.i64.wrap ((n : Int) + 1) = (n : Int) + 1 := IntWalk.i64_in _ (by omega)
        have fwd : ∀ y, Below wr.heap.size wr y → y.cell? ((ad.add (k * 2)).add 1) = some (.string vx) := fun y hy => cell_in hy hc1'
        have FWD := Lib.hid fwd
        clear a1 a2 hxe hn1 hn2 hdrop HG fwd
        by_cases he : smallB nx = sm
        · have he' : ((smallB nx).toList == sm.toList) = true := toList_eq he
          have HV : Hid (gR sm (p.drop (k + 1)) (if n = 0 then vx else v, n + 1) = R) := by
            have := HG2.out
            rw [gR, if_pos he] at this
            exact this
          clear he HG2
          generalize smallB nx = sx at HN he'
          by_cases hn0 : n = 0
          · have hn1 : ((n : Int) == 0) = true := by rw [beq_iff_eq]; omega
            have HV2 : Hid (gR sm (p.drop (k + 1)) (vx, n + 1) = R) := by have := HV.out; rw [if_pos hn0] at this; exact this
            clear hn0 HV
            go_wp2_with (first
              | (go_at_call 6; (with_reducible refine Calls.mono (HSr.out _) ?_); rintro e w2 ⟨rfl, hb⟩; have NBB := hb1.trans (hb.mono hb1.size); have NB2 := Lib.hid (below_to HB.out NBB); have d1 := FWD.out _ NBB; have d1' : w2.cell? { block := (ad.add (k * 2)).block, off := (ad.add (k * 2)).off + 1 } = some (.string vx) := d1; clear hb NBB)
              | (go_at_call 6; (with_reducible refine Calls.mono (HN.out _) ?_); rintro e w1' ⟨rfl, hb1⟩))
            go_roundw
            case rel => exact ⟨n + 1, k + 1, vx, by omega, by omega, rfl, by go_num, by go_num, HV2.out, HPRE2.out, NB2.out⟩
            case measure => simp [RowKit.intOf]; omega
          · have hn1 : ((n : Int) == 0) = false := by rw [beq_eq_false_iff_ne]; omega
            have HV2 : Hid (gR sm (p.drop (k + 1)) (v, n + 1) = R) := by have := HV.out; rw [if_neg hn0] at this; exact this
            clear hn0 HV
            go_wp2_with (first
              | (go_at_call 6; (with_reducible refine Calls.mono (HSr.out _) ?_); rintro e w2 ⟨rfl, hb⟩; have NBB := hb1.trans (hb.mono hb1.size); have NB2 := Lib.hid (below_to HB.out NBB); have d1 := FWD.out _ NBB; have d1' : w2.cell? { block := (ad.add (k * 2)).block, off := (ad.add (k * 2)).off + 1 } = some (.string vx) := d1; clear hb NBB)
              | (go_at_call 6; (with_reducible refine Calls.mono (HN.out _) ?_); rintro e w1' ⟨rfl, hb1⟩))
            go_roundw
            case rel => exact ⟨n + 1, k + 1, v, by omega, by omega, rfl, by go_num, by go_num, HV2.out, HPRE2.out, NB2.out⟩
            case measure => simp [RowKit.intOf]; omega
        · have he' : ((smallB nx).toList == sm.toList) = false := toList_ne he
          have HV2 : Hid (gR sm (p.drop (k + 1)) (v, n) = R) := by
            have := HG2.out
            rw [gR, if_neg he] at this
            exact this
          clear he HG2
          generalize smallB nx = sx at HN he'
          go_wp2_with (first
            | (go_at_call 6; (with_reducible refine Calls.mono (HSr.out _) ?_); rintro e w2 ⟨rfl, hb⟩; have NBB := hb1.trans (hb.mono hb1.size); have NB2 := Lib.hid (below_to HB.out NBB); have d1 := FWD.out _ NBB; have d1' : w2.cell? { block := (ad.add (k * 2)).block, off := (ad.add (k * 2)).off + 1 } = some (.string vx) := d1; clear hb NBB)
            | (go_at_call 6; (with_reducible refine Calls.mono (HN.out _) ?_); rintro e w1' ⟨rfl, hb1⟩))
          go_roundw
          case rel => exact ⟨n, k + 1, v, by omega, by omega, rfl, rfl, by go_num, HV2.out, HPRE2.out, NB2.out⟩
          case measure => simp [RowKit.intOf]; omega
      · have hlen' : (60 : Int) < (nx.size : Int) := by omega
        clear a1 a2 hxe hn1 hn2 hdrop HG
        go_wp2
        go_ret
        exact ⟨rfl, HB.out⟩
    · have hkp' : ¬ (k : Int) < (p.length : Int) := by omega
      have HE : Hid (R = (v, n)) := by
        have := HG.out
        rw [List.drop_eq_nil_of_le (by omega)] at this
        exact this.symm
      have HGE := Lib.hid (HGe.out (fun j hj => HPRE.out j hj (by omega)) wr HB.out)
      rw [HE.out] at HGE
      clear HGe
      go_wp2_with (first
        | (go_at_call 10; (with_reducible refine Calls.mono (HWr.out _) ?_); rintro e w6 ⟨rfl, hb⟩; have NB6 := Lib.hid (below_to NB5.out hb); clear hb)
        | (go_at_call 9; (with_reducible refine Calls.mono (HWo.out _) ?_); rintro e w5 ⟨rfl, hw⟩; have NB5 : Hid (Below w.heap.size w w5) := (by rw [hw]; exact NB4.out); clear hw)
        | (go_at_call 6; (with_reducible refine Calls.mono (HSr.out _) ?_); rintro e w4 ⟨rfl, hb⟩; have NB4 := Lib.hid (below_to NB3.out hb); clear hb)
        | (go_at_call 8; (with_reducible refine Calls.mono (HSm.out _) ?_); rintro e w3 ⟨rfl, hb⟩; have NB3 := Lib.hid (below_to NB2.out hb); clear hb)
        | (go_at_call 7; (with_reducible refine Calls.mono HGE.out ?_); rintro e w2 ⟨rfl, hb⟩; have NB2 := Lib.hid (below_to HB.out hb); clear hb))
      go_ret
      exact ⟨by simp, NB6.out⟩
set_option maxRecDepth 20000 in
set_option maxHeartbeats 16000000 in
theorem gets_nil (A : Option Addr) (c : Nat) (s : ByteArray) (st : Int) (hst : (Lit.int .i64 st).wf = true) (w : World) (hs : s.size ≤ 60) :
    Calls Tryd.prog 3 #[.slice A 0 c, .string s, .int .i64 st] w fun e w' => e = .returned (.bool true) ∧ Below w.heap.size w w' := by
  have H := Lib.hid (awake_any w)
  have HSr := Lib.hid (fun x => ref_small_any s (by omega) x)
  have HSm := Lib.hid (fun x => small_any s (by omega) x)
  have HWo := Lib.hid (fun x => word_any st x)
  have HWr := Lib.hid (fun x => ref_word_any st hst x)
  have HGE : Hid (∀ x, Calls Tryd.prog 7 #[.slice A 0 c, .string s] x fun e w' => e = .returned (.tuple #[.string ⟨#[]⟩, .int .i64 0]) ∧ Below x.heap.size x w') := fun x => get_any [] A c s x (fun h => by simp at h) (by simp) (fun j hj => by simp at hj) (by omega)
  generalize smallB s = sm at *
  generalize wordB st = wd at *
  have h2 : ¬ (60 : Int) < (s.size : Int) := by omega
  go_enter Tryd.func3, Tryd.ntmps3
  go_wp2_with (go_at_call 5; (with_reducible refine Calls.mono H.out ?_); rintro e w1 ⟨rfl, hb⟩; have HB := Lib.hid hb; clear hb)
  go_loopw [7, 8, 9] (fun a b i wr => a = .string ⟨#[]⟩ ∧ b = .int .i64 0 ∧ i = .int .i64 0 ∧ wr = w1) (fun _ _ _ _ => 0)
  case atStart => exact ⟨rfl, rfl, rfl, rfl⟩
  case round =>
    obtain ⟨rfl, rfl, rfl, rfl⟩ := hrel
    go_wp2_with (first
      | (go_at_call 10; (with_reducible refine Calls.mono (HWr.out _) ?_); rintro e w6 ⟨rfl, hb⟩; have NB6 := Lib.hid (below_to NB5.out hb); clear hb)
      | (go_at_call 9; (with_reducible refine Calls.mono (HWo.out _) ?_); rintro e w5 ⟨rfl, hw⟩; have NB5 : Hid (Below w.heap.size w w5) := (by rw [hw]; exact NB4.out); clear hw)
      | (go_at_call 6; (with_reducible refine Calls.mono (HSr.out _) ?_); rintro e w4 ⟨rfl, hb⟩; have NB4 := Lib.hid (below_to NB3.out hb); clear hb)
      | (go_at_call 8; (with_reducible refine Calls.mono (HSm.out _) ?_); rintro e w3 ⟨rfl, hb⟩; have NB3 := Lib.hid (below_to NB2.out hb); clear hb)
      | (go_at_call 7; (with_reducible refine Calls.mono (HGE.out _) ?_); rintro e w2 ⟨rfl, hb⟩; have NB2 := Lib.hid (below_to HB.out hb); clear hb))
    go_ret
    exact ⟨by simp, NB6.out⟩
theorem httpGets_any (p : HL) (A : Option Addr) (c : Nat) (s : ByteArray) (st : Int) (hst : (Lit.int .i64 st).wf = true) (w : World) (hA : LiesH w A p) :
    Calls Tryd.prog 3 #[.slice A p.length c, .string s, .int .i64 st] w fun e w' => e = .returned (.bool true) ∧ Below w.heap.size w w' := by
  by_cases h1 : 30 < p.length
  · exact gets_out p A c s st w (Or.inl h1)
  by_cases h2 : 60 < s.size
  · exact gets_out p A c s st w (Or.inr ⟨h1, h2⟩)
  by_cases h0 : 0 < p.length
  · obtain ⟨ad, rfl, h⟩ := hA h0
    exact gets_some p ad c s st hst w h (by omega) (by omega)
  · have e : p = [] := List.length_eq_zero_iff.1 (by omega)
    subst e
    exact gets_nil A c s st hst w (by omega)
end Go.Proofs.YthdmaajmgbhbmaaDoor
