/- The walk of HttpFull. -/
import Derived.Test.YthdmaajmgbhbmaaDoorFs
import Derived.Test.YthdmaajmgbhbmaaDoorFlt
import Derived.Test.YthdmaajmgbhbmaaDoorHf
namespace Go.Proofs.YthdmaajmgbhbmaaDoor
set_option linter.unusedSimpArgs false
set_option linter.unusedVariables false
open Go.RowKit

theorem pF_length : pF.length = 64 := by rw [pF, List.length_replicate]
theorem pF_at (j : Nat) (hj : j < pF.length) : pF[j]'hj = (⟨#[97]⟩, ⟨#[98]⟩) := List.getElem_replicate hj
/-- What is read of sixty-four headers. -/
theorem parse_64 (w : World) : Calls Tryd.prog 11 #[.string (sF 64)] w fun e w' => ∃ (a b : ByteArray) (g cap : Nat), e = .returned (.tuple #[.agg #[.string a, .string b, .int .i64 0, .slice (some ⟨g, 0, none⟩) 64 cap], .nilIface]) ∧ LiesH w' (some ⟨g, 0, none⟩) pF ∧ Below w.heap.size w w' := by
  have hsz := sF_size64
  have HD : Hdrs (sF 64) (5 + 11) (hlist 0 64) 336 := hdrs_at 64 (Or.inl rfl) (by omega) 64 0 rfl
  have e336 : (reqL 64).getD 336 0 = 13 := by decide +kernel
  have e337 : (reqL 64).getD 337 0 = 10 := by decide +kernel
  refine Calls.mono (parse_good (sF 64) 3 5 0 (hlist 0 64) 336 (by omega) (req_at 64 (Or.inl rfl) (by omega)) (by rw [hlist_length]; omega) HD (fun h => byte_at 64 _ _ h e336) (fun h => byte_at 64 _ _ h e337) (by omega) w) ?_
  rintro e w' ⟨v, M, rfl, ho, hM, hb⟩
  rw [hlist_length, hv_64] at ho
  obtain ⟨g, cap, rfl, -, -⟩ := ho.form (by omega)
  refine ⟨_, _, g, cap, rfl, fun _ => ⟨_, rfl, fun j hj => ?_⟩, hb⟩
  have hj' : j < 64 := by rw [pF_length] at hj; exact hj
  obtain ⟨c0, c1⟩ := pF_cells j hj'
  have hp : pF[j]'hj = (⟨#[97]⟩, ⟨#[98]⟩) := pF_at j hj
  have hadd : ∀ q, (⟨g, 0, none⟩ : Addr).add q = ⟨g, q, none⟩ := fun q => by unfold Addr.add; split <;> simp_all
  rw [show (pF[j]'hj) = _ from hp, hadd, hadd, ho.cellAt (j * 2) (by omega), ho.cellAt (j * 2 + 1) (by omega)]
  exact ⟨c0, c1⟩
/-- One header too many. -/
theorem parse_65 (w : World) (ti : TypeId) (vi : Value) (hg : w.cell? ⟨1, 0, none⟩ = some (.iface ti vi)) : Calls Tryd.prog 11 #[.string (sF 65)] w fun e w' => ∃ v, e = .returned (.tuple #[.agg #[.string ⟨#[]⟩, .string ⟨#[]⟩, .int .i64 0, .slice none 0 0], v]) ∧ FltIs w' v (some (336, 18)) ∧ Below w.heap.size w w' := by
  have hsz := sF_size65
  have HD : Hdrs (sF 65) (5 + 11) (hlist 0 64) 336 := hdrs_at 65 (Or.inr rfl) (by omega) 64 0 rfl
  have e336 : (reqL 65).getD 336 0 = 97 := by decide +kernel
  exact parse_full (sF 65) 3 5 0 (hlist 0 64) 336 (by omega) (req_at 65 (Or.inr rfl) (by omega)) (hlist_length 64 0) HD (fun h => by rw [byte_at 65 _ _ h e336]; decide) (by omega) w ti vi hg
set_option maxRecDepth 20000 in
set_option maxHeartbeats 8000000 in
theorem full_less (w : World) : Calls Tryd.prog 4 #[.bool false] w fun e w' => e = .returned (.bool true) ∧ Below w.heap.size w w' := by
  have H := Lib.hid (awake_any w)
  have HP := Lib.hid (fun x => parse_64 x)
  have HG : Hid (∀ x g cap, LiesH x (some ⟨g, 0, none⟩) pF → Calls Tryd.prog 7 #[.slice (some ⟨g, 0, none⟩) 64 cap, .string ⟨#[65]⟩] x fun e w' => e = .returned (.tuple #[.string ⟨#[98]⟩, .int .i64 64]) ∧ Below x.heap.size x w') := fun x g cap h => by
    have := get_any pF (some ⟨g, 0, none⟩) cap ⟨#[65]⟩ x h (by rw [pF_length]; omega) (fun j hj => by rw [pF_at j hj]; decide) (by decide)
    rw [got_F, pF_length] at this
    exact this
  have HE := Lib.hid req_64
  generalize sF 64 = S at HP HE
  go_enter Tryd.func4, Tryd.ntmps4
  go_wp2_with (go_at_call 5; (with_reducible refine Calls.mono H.out ?_); rintro e w1 ⟨rfl, hb⟩; have HB := Lib.hid hb; clear hb)
  go_loopw [3, 11] (fun t n wr => ∃ i : Nat, i ≤ 64 ∧ t = .string (reqB i) ∧ n = .int .i64 i ∧ wr = w1) (fun _ n _ => 64 - (RowKit.intOf n).toNat)
  case atStart => exact ⟨0, by omega, rfl, rfl, rfl⟩
  case round =>
    obtain ⟨i, hi, rfl, rfl, rfl⟩ := hrel
    have hsz := reqB_size i
    by_cases hi2 : i < 64
    · have hi' : (i : Int) < 64 := by omega
      go_wp2
      go_roundw
      case rel => exact ⟨i + 1, by omega, rfl, by go_num, trivial⟩
      case measure => simp [RowKit.intOf]; omega
    · obtain rfl : i = 64 := by omega
      clear hi2 hi
      have he := HE.out
      generalize reqB 64 = Q at he hsz
      go_wp2_with (first
        | (go_at_call 7; (with_reducible refine Calls.mono (HG.out _ g cap hli2) ?_); rintro e w3 ⟨rfl, hb⟩; have hc3 := cell_in hb (show (w2.alloc (.cells #[.string a, .string b, .int .i64 0, .slice (some ⟨g, 0, none⟩) 64 cap] 32)).cell? ⟨w2.heap.size, 3, none⟩ = some (.slice (some ⟨g, 0, none⟩) 64 cap) from (blk_cell (heap_alloc_new w2 _) 3).trans rfl); have HB3 := Lib.hid (below_to HB2.out hb); clear hb)
        | (go_at_call 11; (with_reducible refine Calls.mono (HP.out _) ?_); rintro e w2 ⟨a, b, g, cap, rfl, hli, hb⟩; have hb1 := (Below.refl w2.heap.size w2).alloc (Nat.le_refl _) (.cells #[.string a, .string b, .int .i64 0, .slice (some ⟨g, 0, none⟩) 64 cap] 32); have hli2 := hli.below hb1; have HB2 := Lib.hid (below_to (below_to HB.out hb) hb1); clear hb hb1 hli))
      go_ret
      (first | exact ⟨by simp, HB3.out⟩ | exact ⟨rfl, HB3.out⟩)
set_option maxRecDepth 20000 in
set_option maxHeartbeats 8000000 in
theorem full_more (w : World) (hI : IsInv w) : Calls Tryd.prog 4 #[.bool true] w fun e w' => e = .returned (.bool true) ∧ Below w.heap.size w w' := by
  have H := Lib.hid (awake_any w)
  obtain ⟨er, her, -⟩ := hI.sent 18 (by omega) (by omega)
  have HC : Hid (w.cell? ⟨1, 0, none⟩ = some (.iface 112 (.pointer (some er)))) := her
  have HII := Lib.hid hI
  have HP := Lib.hid (fun x ti vi hg => parse_65 x ti vi hg)
  have HIs : Hid (∀ x v, FltIs x v (some (336, 18)) → IsInv x → Calls Tryd.prog 12 #[v, .int .i64 336, .int .i64 18] x fun e w' => e = .returned (.bool true) ∧ Below x.heap.size x w') := fun x v hF hI => by
    exact is_any v (some (336, 18)) 336 18 (by omega) (by omega) x hF hI
  have HE : Hid ((reqB 64 ++ ⟨#[97, 58, 98, 13, 10]⟩) ++ ⟨#[13, 10]⟩ = sF 65) := req_65
  generalize sF 65 = S at HP HE
  clear hI her
  go_enter Tryd.func4, Tryd.ntmps4
  go_wp2_with (go_at_call 5; (with_reducible refine Calls.mono H.out ?_); rintro e w1 ⟨rfl, hb⟩; have HB := Lib.hid hb; clear hb)
  go_loopw [3, 11] (fun t n wr => ∃ i : Nat, i ≤ 64 ∧ t = .string (reqB i) ∧ n = .int .i64 i ∧ wr = w1) (fun _ n _ => 64 - (RowKit.intOf n).toNat)
  case atStart => exact ⟨0, by omega, rfl, rfl, rfl⟩
  case round =>
    obtain ⟨i, hi, rfl, rfl, rfl⟩ := hrel
    have hsz := reqB_size i
    by_cases hi2 : i < 64
    · have hi' : (i : Int) < 64 := by omega
      go_wp2
      go_roundw
      case rel => exact ⟨i + 1, by omega, rfl, by go_num, trivial⟩
      case measure => simp [RowKit.intOf]; omega
    · obtain rfl : i = 64 := by omega
      clear hi2 hi
      have he := HE.out
      generalize reqB 64 = Q at he hsz
      go_wp2_with (first
        | (go_at_call 12; (with_reducible refine Calls.mono (HIs.out _ _ HF2.out (HII.out.below HB2.out)) ?_); rintro e w3 ⟨rfl, hb⟩; have hc3 := cell_in hb (show (w2.alloc (.cells #[.string ⟨#[]⟩, .string ⟨#[]⟩, .int .i64 0, .slice none 0 0] 32)).cell? ⟨w2.heap.size, 3, none⟩ = some (.slice none 0 0) from (blk_cell (heap_alloc_new w2 _) 3).trans rfl); have HB3 := Lib.hid (below_to HB2.out hb); clear hb)
        | (go_at_call 11; (with_reducible refine Calls.mono (HP.out _ _ _ (cell_in HB.out HC.out)) ?_); rintro e w2 ⟨v, rfl, hF, hb⟩; have hb1 := (Below.refl w2.heap.size w2).alloc (Nat.le_refl _) (.cells #[.string ⟨#[]⟩, .string ⟨#[]⟩, .int .i64 0, .slice none 0 0] 32); have HF2 := Lib.hid (hF.below hb1); have HB2 := Lib.hid (below_to (below_to HB.out hb) hb1); clear hb hb1 hF))
      go_ret
      (first | exact ⟨by simp, HB3.out⟩ | exact ⟨rfl, HB3.out⟩)
theorem httpFull_any (b : Bool) (w : World) (hI : IsInv w) : Calls Tryd.prog 4 #[.bool b] w fun e w' => e = .returned (.bool true) ∧ Below w.heap.size w w' := by
  cases b
  · exact full_less w
  · exact full_more w hI
end Go.Proofs.YthdmaajmgbhbmaaDoor
