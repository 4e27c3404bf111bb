/- Small letters: http.Small and the document's own. -/
import Derived.Test.YtpjjkejppgehaaaGreatDoorHa
import Derived.Lib.ConvBytes
import Derived.Laws.BytesArg
namespace Go.Proofs.YtpjjkejppgehaaaGreatDoor
set_option linter.unusedSimpArgs false
set_option linter.unusedVariables false
open Go.RowKit

/-- A letter in small. -/
def smallN (c : Nat) : Nat := if 65 ≤ c ∧ c ≤ 90 then c + 32 else c
/-- The small text's letters, as numbers. -/
def smallI (s : ByteArray) : List Int := s.data.toList.map fun c => (smallN c.toNat : Int)
def smallB (s : ByteArray) : ByteArray := strOfNums (smallI s)
theorem smallI_length (s : ByteArray) : (smallI s).length = s.size := by simp [smallI]
theorem smallI_at (s : ByteArray) (i : Nat) (h : i < s.size) : (smallI s).getD i 0 = (smallN s[i].toNat : Int) := by
  have h' : i < s.data.toList.length := by simpa using h
  simp only [smallI, List.getD, List.getElem?_map, List.getElem?_eq_getElem h', Option.map_some, Option.getD_some]
  rfl
/-- The bytes in block g are small up to i. -/
def Sm (w : World) (g : Nat) (s : ByteArray) (i : Nat) : Prop := ∃ (cs : Array Value) (fz : Nat × Nat), w.heap[g]? = some (.cells cs 5 fz) ∧ s.size ≤ cs.size ∧ s.size ≤ fz.1 ∧ ∀ j, (h : j < s.size) → cs[j]? = some (.int .u8 ((if j < i then smallN s[j].toNat else s[j].toNat : Nat) : Int))
theorem Sm.cell {w : World} {g : Nat} {s : ByteArray} {i : Nat} (h : Sm w g s i) (j : Nat) (hj : j < s.size) : w.cell? ⟨g, j, none⟩ = some (.int .u8 ((if j < i then smallN s[j].toNat else s[j].toNat : Nat) : Int)) := by
  obtain ⟨cs, fz, h1, h2, h3, h4⟩ := h
  simp [World.cell?, h1, h4 j hj]
theorem Sm.fz {w : World} {g : Nat} {s : ByteArray} {i : Nat} (h : Sm w g s i) (j : Nat) (hj : j < s.size) : w.frozen? ⟨g, j, none⟩ = false := by
  obtain ⟨cs, fz, h1, h2, h3, h4⟩ := h
  simp [World.frozen?, h1]
  omega
theorem Sm.lt {w : World} {g : Nat} {s : ByteArray} {i : Nat} (h : Sm w g s i) : g < w.heap.size := by obtain ⟨cs, fz, h1, _⟩ := h; exact heap_lt h1
theorem Sm.skip {w : World} {g : Nat} {s : ByteArray} {i : Nat} (h : Sm w g s i) (hi : i < s.size) (he : smallN s[i].toNat = s[i].toNat) : Sm w g s (i + 1) := by
  obtain ⟨cs, fz, h1, h2, h3, h4⟩ := h
  refine ⟨cs, fz, h1, h2, h3, fun j hj => ?_⟩
  rw [h4 j hj]
  by_cases e : j = i
  · subst e; simp [he]
  · by_cases l : j < i
    · rw [if_pos l, if_pos (by omega)]
    · rw [if_neg l, if_neg (by omega)]
theorem Sm.set {w : World} {g : Nat} {s : ByteArray} {i : Nat} (h : Sm w g s i) (hi : i < s.size) (v : Int) (hv : v = (smallN s[i].toNat : Int)) : Sm (w.setCell ⟨g, i, none⟩ (.int .u8 v)) g s (i + 1) := by
  subst hv
  obtain ⟨cs, fz, h1, h2, h3, h4⟩ := h
  refine ⟨cs.setIfInBounds i (.int .u8 (smallN s[i].toNat)), fz, ?_, by simpa using h2, h3, fun j hj => ?_⟩
  · simp only [World.setCell, Array.getElem?_modify, h1]
    simp
  · by_cases e : j = i
    · subst e
      rw [Array.getElem?_setIfInBounds_self_of_lt (by omega), if_pos (by omega)]
    · rw [Array.getElem?_setIfInBounds_ne (by omega), h4 j hj]
      by_cases l : j < i
      · rw [if_pos l, if_pos (by omega)]
      · rw [if_neg l, if_neg (by omega)]
theorem Sm.new (w : World) (s : ByteArray) : Sm (Lib.bytesWorld w 5 s) w.heap.size s 0 := by
  have hsz : (Lib.bytesCells w 5 s).size = s.size + (grownCap w s.size 0 5 - s.size) := by simp [Lib.bytesCells]
  refine ⟨_, _, Lib.bytesWorld_at_new w 5 s, by omega, by show s.size ≤ (Lib.bytesCells w 5 s).size; omega, fun j hj => ?_⟩
  have h := Lib.bytesWorld_cell w 5 s j hj
  have hg : (Lib.bytesWorld w 5 s).cell? ⟨w.heap.size, j, none⟩ = (Lib.bytesCells w 5 s)[j]? := by simp [World.cell?, Lib.bytesWorld_at_new]
  rw [← hg, h, if_neg (by omega)]
  have h' : j < s.data.toList.length := by simpa using hj
  simp only [List.getD, List.getElem?_eq_getElem h', Option.getD_some]
  rfl
theorem bytes_below (w : World) (s : ByteArray) : Below w.heap.size w (Lib.bytesWorld w 5 s) := ⟨rfl, rfl, rfl, by rw [Lib.bytesWorld_size]; omega, fun k hk => Lib.bytesWorld_at_old w 5 s k hk⟩

set_option maxHeartbeats 4000000 in
theorem small_any (s : ByteArray) (hs : s.size ≤ 1000000) (w : World) : Calls Tryz.prog 28 #[.string s] w fun e w' => e = .returned (.string (smallB s)) ∧ Below w.heap.size w w' := by
  have hconv := Lib.run_convert_string_bytes (P := Tryz.prog) w 9 47 5 s Tryz.underlying9 Tryz.underlying47 Tryz.underlying5
  have HN := Lib.hid (Sm.new w s)
  have HB := Lib.hid (bytes_below w s)
  generalize Lib.bytesWorld w 5 s = W0 at hconv HN HB
  generalize grownCap w s.size 0 5 = cap at hconv
  go_enter Tryz.func28, Tryz.ntmps28
  go_wp2
  go_loopw [9] (fun n wr => ∃ i : Nat, i ≤ s.size ∧ n = .int .i64 i ∧ Sm wr w.heap.size s i ∧ Below w.heap.size w wr) (fun n _ => s.size - (RowKit.intOf n).toNat)
  case atStart => exact ⟨0, by omega, rfl, HN.out, HB.out⟩
  case round =>
    obtain ⟨i, hi, rfl, hS, hB⟩ := hrel
    have nS := Lib.hid hS
    have nB := Lib.hid hB
    clear hS hB
    by_cases hit : i < s.size
    · have hit' : (i : Int) < (s.size : Int) := by omega
      have c0 := nS.out.cell i hit
      have z0 := nS.out.fz i hit
      rw [if_neg (by omega)] at c0
      by_cases hu : 65 ≤ s[i].toNat ∧ s[i].toNat ≤ 90
      · have u1 : (65 : Int) ≤ (s[i].toNat : Int) := by omega
        have u2 : (s[i].toNat : Int) ≤ 90 := by omega
        have e1 : IntKind.u8.wrap ((s[i].toNat : Int) + 32) = (s[i].toNat : Int) + 32 := IntWalk.u8_in _ (by omega)
        have HV : Hid (((s[i].toNat : Int) + 32) = (smallN s[i].toNat : Int)) := by show _ = _; unfold smallN; rw [if_pos hu]; omega
        clear hu
        go_wp2
        go_roundw
        case rel => exact ⟨i + 1, by omega, by go_num, nS.out.set hit _ HV.out, nB.out.setCell (Nat.le_refl _) _⟩
        case measure => simp [RowKit.intOf]; omega
      · have HV : Hid (smallN s[i].toNat = s[i].toNat) := by show _ = _; unfold smallN; rw [if_neg hu]
        by_cases h1 : 65 ≤ s[i].toNat
        · have u1 : (65 : Int) ≤ (s[i].toNat : Int) := by omega
          have u2 : ¬ (s[i].toNat : Int) ≤ 90 := by omega
          clear hu h1
          go_wp2
          go_roundw
          case rel => exact ⟨i + 1, by omega, by go_num, nS.out.skip hit HV.out, nB.out⟩
          case measure => simp [RowKit.intOf]; omega
        · have u1 : ¬ (65 : Int) ≤ (s[i].toNat : Int) := by omega
          clear hu h1
          go_wp2
          go_roundw
          case rel => exact ⟨i + 1, by omega, by go_num, nS.out.skip hit HV.out, nB.out⟩
          case measure => simp [RowKit.intOf]; omega
    · have hit' : ¬ (i : Int) < (s.size : Int) := by omega
      obtain rfl : i = s.size := by omega
      have hback := run_convert_bytes_arg (P := Tryz.prog) wr 47 5 Tryz.underlying47 Tryz.underlying5 w.heap.size 0 s.size cap (smallI s) (smallI_length s) (fun j hj => by rw [Nat.zero_add, nS.out.cell j hj, if_pos hj, smallI_at s j hj]) 9 Tryz.underlying9
      clear hit
      go_wp2
      go_ret
      exact ⟨rfl, nB.out⟩
end Go.Proofs.YtpjjkejppgehaaaGreatDoor
