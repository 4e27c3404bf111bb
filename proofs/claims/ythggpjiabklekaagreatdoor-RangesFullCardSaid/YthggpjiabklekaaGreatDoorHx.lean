/- strconv.FormatInt at base 16. -/
import Derived.Test.YthggpjiabklekaaGreatDoorUb
import Derived.LoopTactic
import Derived.Laws.BitsLemmas
namespace Go.Proofs.YthggpjiabklekaaGreatDoor
set_option linter.unusedSimpArgs false
set_option linter.unusedVariables false
open Go.RowKit Go.Lib

/-- A digit's byte. -/
def hxN (d : Nat) : Nat := if d < 10 then 48 + d else 87 + d
/-- A number's digits at base 16, in small letters. -/
def hexL (u : Nat) : List Nat := if h : u < 16 then [hxN u] else hexL (u / 16) ++ [hxN (u % 16)]
theorem hexL_lt (u : Nat) (h : u < 16) : hexL u = [hxN u] := by rw [hexL, dif_pos h]
theorem hexL_ge (u : Nat) (h : ¬ u < 16) : hexL u = hexL (u / 16) ++ [hxN (u % 16)] := by rw [hexL, dif_neg h]
theorem tz64 (w : World) (ht : w.cell? ⟨27, 15, none⟩ = some (.int .u8 4)) : Calls Tryz.prog 143 #[.int .u64 16] w fun e w' => e = .returned (.int .i64 4) ∧ w' = w := by
  have e15 : (IntKind.u64.wrap (bits BinOp.and IntKind.u64 16 (IntKind.u64.wrap (-16)) * 285870213051353865) / 288230376151711744).toNat = 15 := by decide +kernel
  have ht2 : w.cell? { block := 27, off := (IntKind.u64.wrap (bits BinOp.and IntKind.u64 16 (IntKind.u64.wrap (-16)) * 285870213051353865) / 288230376151711744).toNat } = some (.int .u8 4) := by rw [e15]; exact ht
  clear e15
  go_enter Tryz.func143, Tryz.ntmps143
  go_wp2
  go_ret
  exact ⟨by rfl, rfl⟩
theorem tz16 (w : World) (ht : w.cell? ⟨27, 15, none⟩ = some (.int .u8 4)) : Calls Tryz.prog 138 #[.int .u64 16] w fun e w' => e = .returned (.int .i64 4) ∧ w' = w := by
  go_enter Tryz.func138, Tryz.ntmps138
  go_wp2_with (go_at_call 143; (with_reducible refine Calls.mono (tz64 _ ht) ?_); rintro e w' ⟨rfl, rfl⟩)
  go_ret
  exact ⟨rfl, rfl⟩
theorem pow2_16 (w : World) : Calls Tryz.prog 137 #[.int .i64 16] w fun e w' => e = .returned (.bool true) ∧ w' = w := by
  go_enter Tryz.func137, Tryz.ntmps137
  go_wp2
  go_ret
  exact ⟨by rfl, rfl⟩
def digB : ByteArray := ⟨#[48, 49, 50, 51, 52, 53, 54, 55, 56, 57, 97, 98, 99, 100, 101, 102, 103, 104, 105, 106, 107, 108, 109, 110, 111, 112, 113, 114, 115, 116, 117, 118, 119, 120, 121, 122]⟩
theorem dig_val (d : Nat) (h : d < 16) (h2 : d < (⟨#[48, 49, 50, 51, 52, 53, 54, 55, 56, 57, 97, 98, 99, 100, 101, 102, 103, 104, 105, 106, 107, 108, 109, 110, 111, 112, 113, 114, 115, 116, 117, 118, 119, 120, 121, 122]⟩ : ByteArray).size) : ((⟨#[48, 49, 50, 51, 52, 53, 54, 55, 56, 57, 97, 98, 99, 100, 101, 102, 103, 104, 105, 106, 107, 108, 109, 110, 111, 112, 113, 114, 115, 116, 117, 118, 119, 120, 121, 122]⟩ : ByteArray)[d]'h2).toNat = hxN d := by
  rcases (by omega : d = 0 ∨ d = 1 ∨ d = 2 ∨ d = 3 ∨ d = 4 ∨ d = 5 ∨ d = 6 ∨ d = 7 ∨ d = 8 ∨ d = 9 ∨ d = 10 ∨ d = 11 ∨ d = 12 ∨ d = 13 ∨ d = 14 ∨ d = 15) with rfl | rfl | rfl | rfl | rfl | rfl | rfl | rfl | rfl | rfl | rfl | rfl | rfl | rfl | rfl | rfl <;> rfl
theorem u64_and15 (v : Nat) (h : v < 18446744073709551616) : bits .and .u64 (v : Int) 15 = ((v % 16 : Nat) : Int) := by
  have := bits_mask .u64 64 (by decide) (fun n h0 h1 => by simp [IntKind.wrap, IntKind.bits, IntKind.signed]; omega) 4 (by decide) (v : Int) (by omega) (by omega)
  simpa using this
theorem hexL_len1 (u : Nat) : 1 ≤ (hexL u).length := by
  by_cases h : u < 16
  · rw [hexL_lt u h]; simp
  · rw [hexL_ge u h]; simp
theorem hexL_le : ∀ (k u : Nat), u < 16 ^ (k + 1) → (hexL u).length ≤ k + 1
  | 0, u, h => by rw [hexL_lt u (by simpa using h)]; simp
  | k + 1, u, h => by
    by_cases h16 : u < 16
    · rw [hexL_lt u h16]; simp
    · have := hexL_le k (u / 16) (by rw [Nat.pow_succ] at h; omega)
      rw [hexL_ge u h16, List.length_append, List.length_singleton]
      omega
theorem hexL_lt256 (u : Nat) : ∀ d ∈ hexL u, d < 256 := by
  induction u using Nat.strongRecOn with
  | _ u ih =>
    have hh : ∀ d, d < 16 → hxN d < 256 := fun d h => by unfold hxN; split <;> omega
    intro d hd
    by_cases h : u < 16
    · rw [hexL_lt u h] at hd
      obtain rfl := List.mem_singleton.1 hd
      exact hh u h
    · rw [hexL_ge u h, List.mem_append] at hd
      rcases hd with hd | hd
      · exact ih (u / 16) (by omega) d hd
      · obtain rfl := List.mem_singleton.1 hd
        exact hh _ (Nat.mod_lt _ (by omega))
theorem cells_drop_set (cs : Array Value) (j : Nat) (v : Value) (h : j < cs.size) : (cs.setIfInBounds j v).toList.drop j = v :: cs.toList.drop (j + 1) := by
  rw [Array.toList_setIfInBounds, List.drop_set, if_neg (by omega), Nat.sub_self, List.drop_eq_getElem_cons (by simpa using h)]
  rfl
theorem blk_set {w : World} {n : Nat} {cs : Array Value} {t : TypeId} (h : w.heap[n]? = some (.cells cs t (0, 0))) (i : Nat) (v : Value) : (w.setCell ⟨n, i, none⟩ v).heap[n]? = some (.cells (cs.setIfInBounds i v) t (0, 0)) := by
  simp only [World.setCell, Array.getElem?_modify, h]
  simp
def dv (d : Nat) : Value := .int .u8 (d : Nat)
set_option maxRecDepth 20000 in
set_option maxHeartbeats 8000000 in
theorem bits16 (u : Nat) (hu : u < 4294967296) (w : World) (ht : w.cell? ⟨27, 15, none⟩ = some (.int .u8 4)) :
    Calls Tryz.prog 123 #[.slice none 0 0, .int .u64 u, .int .i64 16, .bool false, .bool false] w fun e w' => e = .returned (.tuple #[.slice none 0 0, .string ⟨((hexL u).map fun d => UInt8.ofNat d).toArray⟩]) ∧ Below w.heap.size w w' := by
  have hb0 : Below w.heap.size w (w.alloc (.cells Tryz.zeroCells188 188)) := (Below.refl _ _).alloc (Nat.le_refl _) _
  have ht1 := cell_in hb0 ht
  have hz : Tryz.zeroCells188.size = 65 := by kernel_rfl
  have hn := blk_new w (.cells Tryz.zeroCells188 188)
  have HT := Lib.hid ht1
  have HB := Lib.hid hb0
  have HZ := Lib.hid hz
  have HN := Lib.hid hn
  have HU8 := Lib.hid (hexL_le 7 u (by omega))
  obtain ⟨R, hR⟩ : ∃ R, ((hexL u).map fun d => UInt8.ofNat d) = R := ⟨_, rfl⟩
  obtain ⟨L, hL⟩ : ∃ L, hexL u = L := ⟨_, rfl⟩
  rw [hR]
  rw [hL] at hR HU8
  have HR := Lib.hid hR
  have HL := Lib.hid hL
  clear ht hb0 ht1 hz hn hR hL
  go_enter Tryz.func123, Tryz.ntmps123
  go_wp2_with (first
    | (go_at_call 137; (with_reducible refine Calls.mono (pow2_16 _) ?_); rintro e w' ⟨rfl, rfl⟩)
    | (go_at_call 138; (with_reducible refine Calls.mono (tz16 _ HT.out) ?_); rintro e w' ⟨rfl, rfl⟩))
  go_loopw [1, 13] (fun s1 s13 wr => ∃ (v i : Nat) (cs : Array Value) (dl : List Nat), i ≤ 65 ∧ v ≤ u ∧ dl.length = 65 - i ∧ s1 = .int .u64 v ∧ s13 = .int .i64 i ∧ L = hexL v ++ dl ∧ wr.heap[w.heap.size]? = some (.cells cs 188 (0, 0)) ∧ cs.size = 65 ∧ cs.toList.drop i = dl.map dv ∧ Below w.heap.size w wr) (fun s1 _ _ => (RowKit.intOf s1).toNat)
  case atStart => exact ⟨u, 65, _, [], by omega, by omega, rfl, rfl, rfl, by rw [HL.out]; simp, HN.out, HZ.out, by rw [List.drop_of_length_le (by rw [Array.length_toList, HZ.out]; omega)]; rfl, HB.out⟩
  case round =>
    obtain ⟨v, i, cs, dl, hi, hvu, hdl, rfl, rfl, hLv, hbk, hcs, hdrop, hBw⟩ := hrel
    have hlen : (hexL v).length + (65 - i) ≤ 8 := by have := HU8.out; rw [hLv, List.length_append, hdl] at this; exact this
    have h1 := hexL_len1 v
    obtain ⟨j, rfl⟩ : ∃ j, i = j + 1 := ⟨i - 1, by omega⟩
    have hjs : j < cs.size := by omega
    have c0 := (blk_cell hbk j)
    rw [Array.getElem?_eq_getElem hjs] at c0
    have f0 := blk_fz hbk j
    have hset := cells_drop_set cs j (dv (hxN (v % 16))) hjs
    rw [hdrop] at hset
    have HBK := Lib.hid hbk
    have HCS := Lib.hid hcs
    have HSET := Lib.hid hset
    have HLV := Lib.hid hLv
    have HBW := Lib.hid hBw
    have HDL := Lib.hid hdl
    clear hbk hcs hset hLv hBw hdl hdrop
    generalize cs[j] = old at c0
    have hand := u64_and15 v (by omega)
    have hm16 : v % 16 < 16 := Nat.mod_lt _ (by omega)
    by_cases hge : 16 ≤ v
    · have hge' : (v : Int) ≥ 16 := by omega
      go_wp2
      simp only [dig_val _ hm16]
      go_roundw
      case rel =>
        refine ⟨v / 16, j, cs.setIfInBounds j (dv (hxN (v % 16))), hxN (v % 16) :: dl, by omega, by omega, by have := HDL.out; simp; omega, by go_num, rfl, ?_, blk_set HBK.out j (dv (hxN (v % 16))), by rw [Array.size_setIfInBounds]; exact HCS.out, HSET.out, HBW.out.setCell (p := ⟨w.heap.size, j, none⟩) (Nat.le_refl _) _⟩
        rw [HLV.out, hexL_ge v (by omega)]
        simp
      case measure => simp [RowKit.intOf]; omega
    · have hge' : ¬ (v : Int) ≥ 16 := by omega
      have hv16 : v < 16 := by omega
      have hal : Tryz.prog.arrayLen 188 = 65 := by kernel_rfl
      have hsl : ∀ W, (Instr.sliceAt 188 (.pointer (some ⟨w.heap.size, 0, none⟩)) (some (.int .i64 (j : Int))) none none).run Tryz.prog W = .ok (.slice (some ⟨w.heap.size, j, none⟩) (65 - j) (65 - j)) W := fun W => by
        rw [run_sliceAt_array_l W 188 ⟨w.heap.size, 0, none⟩ (by kernel_rfl) .i64 (j : Int) (by omega) (by rw [hal]; omega), hal]
        go_simp
        omega
      have hLL : L = hxN v :: dl := by rw [HLV.out, hexL_lt v hv16]; rfl
      have hlenL : L.length = 65 - j := by rw [hLL, List.length_cons, HDL.out]; omega
      have hset2 : (cs.setIfInBounds j (dv (hxN v))).toList.drop j = L.map dv := by
        have e := HSET.out
        rw [Nat.mod_eq_of_lt hv16] at e
        rw [e, hLL]; rfl
      have hbk2 := blk_set HBK.out j (dv (hxN v))
      have hR := HR.out
      have hcv : (convert 57 9 (.slice (some ⟨w.heap.size, j, none⟩) (65 - j) (65 - j))).run Tryz.prog (wr.setCell ⟨w.heap.size, j, none⟩ (.int .u8 (hxN v : Nat))) = .ok (.string ⟨R.toArray⟩) (wr.setCell ⟨w.heap.size, j, none⟩ (.int .u8 (hxN v : Nat))) := by
        have h := run_convert_bytes_back (P := Tryz.prog) (wr.setCell ⟨w.heap.size, j, none⟩ (.int .u8 (hxN v : Nat))) 57 9 5 ⟨w.heap.size, j, none⟩ (65 - j) R Tryz.underlying57 Tryz.underlying5 Tryz.underlying9 (fun q hq => by
          rw [Lib.add_plain]
          refine (blk_cell hbk2 (j + q)).trans ?_
          have hq2 : q < L.length := by rw [← hR, List.length_map] at hq; exact hq
          have e1 : (cs.setIfInBounds j (dv (hxN v))).toList[j + q]? = (L.map dv)[q]? := by rw [← hset2, List.getElem?_drop]
          rw [Array.getElem?_toList] at e1
          rw [e1, List.getElem?_map, List.getElem?_eq_getElem hq2]
          have h256 : L[q] < 256 := by
            have := hexL_lt256 u L[q] (by rw [HL.out]; exact List.getElem_mem hq2)
            exact this
          subst hR
          simp only [List.getElem_map, Option.map_some, dv]
          rw [UInt8.toNat_ofNat_of_lt' (by simpa using h256)])
        have hRl : R.length = 65 - j := by rw [← hR, List.length_map, hlenL]
        rw [hRl] at h
        exact h
      have HBF := Lib.hid (HBW.out.setCell (p := ⟨w.heap.size, j, none⟩) (Nat.le_refl _) (.int .u8 (hxN v : Nat)))
      clear hset2 hbk2 hR hLL hlenL
      go_wp2
      simp only [dig_val _ hv16]
      rw [hcv]
      simp only [Result.andThen]
      rw [Oper.upon_value]
      go_wp2
      go_ret2
      exact ⟨rfl, HBF.out⟩
/-- A number's text at base 16. -/
def hexB (u : Nat) : ByteArray := ⟨((hexL u).map fun d => UInt8.ofNat d).toArray⟩
theorem formatInt16_in (u : Nat) (hu : u < 4294967296) (w : World) (ht : w.cell? ⟨27, 15, none⟩ = some (.int .u8 4)) :
    Calls Tryz.prog 98 #[.int .i64 u, .int .i64 16] w fun e w' => e = .returned (.string (hexB u)) ∧ Below w.heap.size w w' := by
  have C := Lib.hid (bits16 u hu w ht)
  have e1 : IntKind.u64.wrap (u : Int) = (u : Int) := IntWalk.u64_in _ (by omega)
  have h0 : ¬ (u : Int) < 0 := by omega
  go_enter Tryz.func98, Tryz.ntmps98
  go_wp2_with (go_at_call 123; refine C.out.mono ?_; rintro e w' ⟨rfl, hb⟩; have HB := Lib.hid hb; clear hb)
  go_ret
  exact ⟨rfl, HB.out⟩
theorem formatInt16 (u : Nat) (hu : u < 4294967296) (w : World) (ht : w.cell? ⟨27, 15, none⟩ = some (.int .u8 4)) :
    Calls Tryz.prog 73 #[.int .i64 u, .int .i64 16] w fun e w' => e = .returned (.string (hexB u)) ∧ Below w.heap.size w w' := by
  have C := Lib.hid (formatInt16_in u hu w ht)
  go_enter Tryz.func73, Tryz.ntmps73
  go_wp2_with (go_at_call 98; refine C.out.mono ?_; rintro e w' ⟨rfl, hb⟩; have HB := Lib.hid hb; clear hb)
  go_ret
  exact ⟨rfl, HB.out⟩
end Go.Proofs.YthggpjiabklekaaGreatDoor
