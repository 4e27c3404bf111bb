/- http.all: whether all bytes of a text are of a sort; and http.fault. -/
import Derived.Test.YtpjjkejppgehaaaGreatDoorSo
namespace Go.Proofs.YtpjjkejppgehaaaGreatDoor
set_option linter.unusedSimpArgs false
set_option linter.unusedVariables false
open Go.RowKit

theorem fault_any (a : Int) (t : TypeId) (x : Value) (w : World) :
    Calls Tryz.prog 25 #[.int .i64 a, .iface t x] w fun e w' => e = .returned (.iface 54 (.pointer (some ⟨w.heap.size, 0, none⟩))) ∧ w' = w.alloc (.cells #[.int .i64 a, .iface t x] 58) := by
  go_enter Tryz.func25, Tryz.ntmps25
  go_wp2
  go_ret
  exact ⟨rfl, rfl⟩
def allS (k : Nat) (s : ByteArray) : Bool := s.data.toList.all (isSort k)
theorem all_from (k : Nat) (s : ByteArray) (h : ∀ i (h : i < s.size), isSort k s[i] = true) : allS k s = true := by
  rw [allS, List.all_eq_true]
  intro b hb
  obtain ⟨i, hi, rfl⟩ := List.getElem_of_mem hb
  exact h i (by simpa using hi)
theorem all_not (k : Nat) (s : ByteArray) (i : Nat) (hi : i < s.size) (h : isSort k s[i] = false) : allS k s = false := by
  rw [allS, List.all_eq_false]
  exact ⟨s[i], List.getElem_mem (by simpa using hi), by rw [h]; simp⟩
theorem all_new (w1 : World) : ∃ W, (storeCells ⟨w1.heap.size, 0, none⟩ KD.toList).run Tryz.prog (w1.alloc (.cells Tryz.zeroCells74 74)) = .ok () W ∧ Below w1.heap.size w1 W ∧ ∀ c : Nat, c < 256 → W.cell? ⟨w1.heap.size, c, none⟩ = some (.int .u8 (kindN c)) := by
  have hz := heap_alloc_new w1 (.cells Tryz.zeroCells74 74)
  rw [zero46] at hz ⊢
  have hs := run_storeCells_from (P := Tryz.prog) w1.heap.size 74 KD.toList 0 (Array.replicate 256 (.int .u8 0)) _ hz (by simp [KD_size]) KD_one
  have e2 : ((Array.replicate 256 (Value.int .u8 0)).toList.take 0 ++ KD.toList).toArray = KD := by simp
  rw [e2] at hs
  have hh := setRow_heap _ w1.heap.size (Array.replicate 256 (.int .u8 0)) KD 74 (0, 0) hz
  refine ⟨_, hs, ?_, fun c hc => (blk_cell hh c).trans (KD_at c hc)⟩
  refine ((Below.refl w1.heap.size w1).alloc (Nat.le_refl _) (.cells (Array.replicate 256 (.int .u8 0)) 74)).trans ⟨rfl, rfl, rfl, by simp [World.setRow], fun k hk => ?_⟩
  simp only [World.setRow, Array.getElem?_modify]
  rw [if_neg (by omega)]
set_option maxRecDepth 20000 in
set_option maxHeartbeats 4000000 in
theorem all_any (s : ByteArray) (k : Nat) (hk : k = 1 ∨ k = 2) (hs : s.size ≤ 1000000) (w : World) :
    Calls Tryz.prog 26 #[.string s, .int .u8 k] w fun e w' => e = .returned (.bool (allS k s)) ∧ Below w.heap.size w w' := by
  have HS : Hid (Calls Tryz.prog 36 #[] w fun e w' => e = .returned (.agg KD) ∧ Below w.heap.size w w') := sorts_any w
  have HN := Lib.hid all_new
  have hks := KD_size
  generalize KD = K at *
  have HA := Lib.hid (all_from k s)
  have HF := Lib.hid (all_not k s)
  generalize allS k s = R at *
  go_enter Tryz.func26, Tryz.ntmps26
  go_wp2_with (go_at_call 36; (with_reducible refine Calls.mono HS.out ?_); rintro e w1 ⟨rfl, hb⟩; obtain ⟨W, hW, hB1, hc⟩ := HN.out w1; have HB := Lib.hid (below_to hb hB1); have HCC := Lib.hid hc; clear hc hB1 hb)
  generalize w1.heap.size = g at HCC ⊢
  go_loopw [6, 10] (fun i j wr => ∃ q : Nat, q ≤ s.size ∧ j = .int .i64 q ∧ wr = W ∧ ∀ p (hp : p < s.size), p < q → isSort k s[p] = true) (fun _ j _ => s.size - (RowKit.intOf j).toNat)
  case atStart => exact ⟨0, by omega, rfl, rfl, fun p hp h => by omega⟩
  case round =>
    obtain ⟨q, hq, rfl, rfl, hpre⟩ := hrel
    have HP := Lib.hid hpre
    clear hpre
    by_cases hlt : q < s.size
    · have hlt' : (q : Int) < (s.size : Int) := by omega
      have hc256 : s[q].toNat < 256 := s[q].toNat_lt
      have hcell := HCC.out s[q].toNat hc256
      have hb := bits_kind s[q].toNat k (by omega)
      cases hi : isSort k s[q] with
      | true =>
        have h1 : (bits BinOp.and IntKind.u8 (kindN s[q].toNat : Int) (k : Int) == 0) = false := by rw [hb.1]; simpa [isSort] using hi
        have HI := Lib.hid hi
        clear hi hb
        go_wp2
        go_roundw
        case rel =>
          refine ⟨q + 1, by omega, by go_num, trivial, fun p hp h => ?_⟩
          by_cases e : p = q
          · subst e; exact HI.out
          · exact HP.out p hp (by omega)
        case measure => simp [RowKit.intOf]; omega
      | false =>
        have h1 : (bits BinOp.and IntKind.u8 (kindN s[q].toNat : Int) (k : Int) == 0) = true := by rw [hb.1]; simpa [isSort] using hi
        have hR := HF.out q hlt hi
        clear hi hb
        go_wp2
        go_ret
        exact ⟨by first | rfl | (rw [hR]; rfl) | simp [hR], HB.out⟩
    · have hlt' : ¬ (q : Int) < (s.size : Int) := by omega
      have hR := HA.out (fun i h => HP.out i h (by omega))
      go_wp2
      go_ret
      exact ⟨by first | rfl | (rw [hR]; rfl) | simp [hR], HB.out⟩
end Go.Proofs.YtpjjkejppgehaaaGreatDoor
