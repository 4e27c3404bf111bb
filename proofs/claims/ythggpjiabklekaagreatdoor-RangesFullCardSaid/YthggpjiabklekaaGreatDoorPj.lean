/- strconv.ParseInt at base 16 and 32 bits, at a numeral; Atoi. -/
import Derived.Test.YthggpjiabklekaaGreatDoorPi
namespace Go.Proofs.YthggpjiabklekaaGreatDoor
set_option linter.unusedSimpArgs false
set_option linter.unusedVariables false
open Go.RowKit Go.Lib

set_option maxRecDepth 100000 in
set_option maxHeartbeats 8000000 in
theorem parseInt16_in (s : ByteArray) (hs : s.size ≤ 1000000) (h0 : 0 < s.size) (c : Nat) (hc : s[0].toNat = c) (hp : c ≠ 43) (hm : c ≠ 45) (n : Nat) (hn : n < 2147483648) (h : pU 4294967295 0 s.data.toList = .ok n) (w : World) :
    Calls Tryz.prog 77 #[.string s, .int .i64 16, .int .i64 32] w fun e w' => e = .returned (.tuple #[.int .i64 n, .nilIface]) ∧ Below w.heap.size w w' := by
  have C := parseUint16 s hs h0 w
  rw [h] at C
  have CL := Lib.hid C
  clear C h
  have hne : (s.toList == []) = false := toList_ne h0
  have hsz : (0 : Int) < (s.size : Int) := by omega
  have hp' : ((c : Int) == 43) = false := by rw [beq_eq_false_iff_ne]; omega
  have hm' : ((c : Int) == 45) = false := by rw [beq_eq_false_iff_ne]; omega
  clear hp hm
  have g1 : ¬ (n : Int) ≥ 2147483648 := by omega
  go_enter Tryz.func77, Tryz.ntmps77
  go_wp2_with (go_at_call 103; refine CL.out.mono ?_; rintro e w' ⟨rfl, hb⟩; replace hb := Lib.hid hb; dsimp only [puV])
  go_ret2
  exact ⟨rfl, hb.out⟩
set_option maxRecDepth 100000 in
set_option maxHeartbeats 8000000 in
theorem parseInt16 (s : ByteArray) (hs : s.size ≤ 1000000) (h0 : 0 < s.size) (c : Nat) (hc : s[0].toNat = c) (hp : c ≠ 43) (hm : c ≠ 45) (n : Nat) (hn : n < 2147483648) (h : pU 4294967295 0 s.data.toList = .ok n) (w : World) :
    Calls Tryz.prog 56 #[.string s, .int .i64 16, .int .i64 32] w fun e w' => e = .returned (.tuple #[.int .i64 n, .nilIface]) ∧ Below w.heap.size w w' := by
  have C := Lib.hid (parseInt16_in s hs h0 c hc hp hm n hn h w)
  clear h hc hp hm
  go_enter Tryz.func56, Tryz.ntmps56
  go_wp2_with (go_at_call 77; refine C.out.mono ?_; rintro e w' ⟨rfl, hb⟩; replace hb := Lib.hid hb)
  go_ret2
  exact ⟨rfl, hb.out⟩
end Go.Proofs.YthggpjiabklekaaGreatDoor
