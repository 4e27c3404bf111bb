/- Small letters: the document's own. -/
import Derived.Test.YthdmaajmgbhbmaaDoorSm
namespace Go.Proofs.YthdmaajmgbhbmaaDoor
set_option linter.unusedSimpArgs false
set_option linter.unusedVariables false
open Go.RowKit

/-- The first i letters, in small. -/
def smallT (s : ByteArray) (i : Nat) : ByteArray := strOfNums ((smallI s).take i)
theorem smallT_0 (s : ByteArray) : smallT s 0 = ⟨#[]⟩ := rfl
theorem smallT_all (s : ByteArray) : smallT s s.size = smallB s := by unfold smallT smallB; rw [← smallI_length s, List.take_length]
theorem smallT_next (s : ByteArray) (i : Nat) (h : i < s.size) : smallT s i ++ strOfNums [(smallN s[i].toNat : Int)] = smallT s (i + 1) := by
  have hl : i < (smallI s).length := by rw [smallI_length]; exact h
  have e : (smallI s).take (i + 1) = (smallI s).take i ++ [(smallN s[i].toNat : Int)] := by
    rw [List.take_add_one, List.getElem?_eq_getElem hl]
    have := smallI_at s i h
    simp only [List.getD, List.getElem?_eq_getElem hl, Option.getD_some] at this
    rw [this]
    rfl
  unfold smallT
  rw [e]
  apply ByteArray.ext
  simp [strOfNums]
theorem smallT_size (s : ByteArray) (i : Nat) : (smallT s i).size ≤ s.size := by
  unfold smallT
  rw [strOfNums_size, List.length_take, smallI_length]
  omega
set_option maxRecDepth 20000 in
set_option maxHeartbeats 4000000 in
theorem ref_small_any (s : ByteArray) (hs : s.size ≤ 1000000) (w : World) : Calls Tryd.prog 6 #[.string s] w fun e w' => e = .returned (.string (smallB s)) ∧ Below w.heap.size w w' := by
  go_enter Tryd.func6, Tryd.ntmps6
  go_wp2
  go_loopw [3, 4] (fun t n wr => ∃ i : Nat, i ≤ s.size ∧ t = .string (smallT s i) ∧ n = .int .i64 i ∧ Below w.heap.size w wr) (fun _ n _ => s.size - (RowKit.intOf n).toNat)
  case atStart => exact ⟨0, by omega, by rw [smallT_0], rfl, Below.refl _ _⟩
  case round =>
    obtain ⟨i, hi, rfl, rfl, hB⟩ := hrel
    have nB := Lib.hid hB
    clear hB
    by_cases hit : i < s.size
    · have hit' : (i : Int) < (s.size : Int) := by omega
      have hsz := smallT_size s i
      have HN := Lib.hid (smallT_next s i hit)
      have hone : (strOfNums [(smallN s[i].toNat : Int)]).size = 1 := rfl
      have hc := run_convert_bytes_arg (P := Tryd.prog) (wr.alloc (.cells #[.int .u8 (smallN s[i].toNat : Int)] 5)) 39 5 Tryd.underlying39 Tryd.underlying5 wr.heap.size 0 1 1 [(smallN s[i].toNat : Int)] rfl (fun j hj => by
        obtain rfl : j = 0 := by omega
        simp) 9 Tryd.underlying9
      by_cases hu : 65 ≤ s[i].toNat ∧ s[i].toNat ≤ 90
      · have u1 : (65 : Int) ≤ (s[i].toNat : Int) := by omega
        have u2 : (s[i].toNat : Int) ≤ 90 := by omega
        have e1 : IntKind.u8.wrap ((s[i].toNat : Int) + 32) = (smallN s[i].toNat : Int) := by rw [IntWalk.u8_in _ (by omega)]; unfold smallN; rw [if_pos hu]; omega
        clear hu
        go_wp2
        go_roundw
        case rel => exact ⟨i + 1, by omega, by rw [HN.out], by go_num, nB.out.alloc nB.out.size _⟩
        case measure => simp [RowKit.intOf]; omega
      · have e0 : smallN s[i].toNat = s[i].toNat := by unfold smallN; rw [if_neg hu]
        rw [e0] at HN hone hc
        by_cases h1 : 65 ≤ s[i].toNat
        · have u1 : (65 : Int) ≤ (s[i].toNat : Int) := by omega
          have u2 : ¬ (s[i].toNat : Int) ≤ 90 := by omega
          clear hu h1 e0
          go_wp2
          go_roundw
          case rel => exact ⟨i + 1, by omega, by rw [HN.out], by go_num, nB.out.alloc nB.out.size _⟩
          case measure => simp [RowKit.intOf]; omega
        · have u1 : ¬ (65 : Int) ≤ (s[i].toNat : Int) := by omega
          clear hu h1 e0
          go_wp2
          go_roundw
          case rel => exact ⟨i + 1, by omega, by rw [HN.out], by go_num, nB.out.alloc nB.out.size _⟩
          case measure => simp [RowKit.intOf]; omega
    · have hit' : ¬ (i : Int) < (s.size : Int) := by omega
      obtain rfl : i = s.size := by omega
      clear hit
      go_wp2
      go_ret
      exact ⟨by rw [smallT_all]; rfl, nB.out⟩
end Go.Proofs.YthdmaajmgbhbmaaDoor
