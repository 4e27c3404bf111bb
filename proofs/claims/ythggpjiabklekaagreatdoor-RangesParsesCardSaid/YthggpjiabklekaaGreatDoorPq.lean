/- strconv.ParseInt at base 16 and 32 bits, at every text: a number and no error, or an error. -/
import Derived.Test.YthggpjiabklekaaGreatDoorPj
import Derived.Test.YthggpjiabklekaaGreatDoorShelf
namespace Go.Proofs.YthggpjiabklekaaGreatDoor
set_option linter.unusedSimpArgs false
set_option linter.unusedVariables false
open Go.RowKit Go.Lib

theorem toList_nil {s : ByteArray} (h : s.size = 0) : (s.toList == []) = true := by
  rw [Lib.toList_data]
  have : s.data.toList = [] := by
    apply List.eq_nil_of_length_eq_zero
    rw [szL]; exact h
  rw [this]
  rfl
theorem pU_le (M : Nat) : ∀ (l : List UInt8) (n m : Nat), n ≤ M → pU M n l = .ok m → m ≤ M
  | [], n, m, hn, h => by
    rw [pU] at h
    injection h with h
    omega
  | c :: r, n, m, hn, h => by
    rw [pU] at h
    cases hd : hexD c.toNat with
    | none => rw [hd] at h; cases h
    | some d =>
      rw [hd] at h
      dsimp only at h
      by_cases hM : M < n * 16 + d
      · rw [if_pos hM] at h; cases h
      · rw [if_neg hM] at h
        exact pU_le M r _ m (by omega) h
def puA (s : ByteArray) : PU := if s.size = 0 then .syn else pU 4294967295 0 s.data.toList
theorem puA_le (s : ByteArray) (n : Nat) (h : puA s = .ok n) : n ≤ 4294967295 := by
  unfold puA at h
  split at h
  · cases h
  · exact pU_le _ _ 0 n (by omega) h
set_option maxRecDepth 100000 in
set_option maxHeartbeats 1000000 in
theorem parseUint16_all (s : ByteArray) (hs : s.size ≤ 1000000) (w : World) :
    Calls Tryz.prog 103 #[.string s, .int .i64 16, .int .i64 32] w fun e w' => e = .returned (puV (puA s)) ∧ Below w.heap.size w w' := by
  by_cases h0 : s.size = 0
  · have hnil := toList_nil h0
    have hp : puA s = .syn := if_pos h0
    rw [hp]
    clear h0 hp
    go_enter Tryz.func103, Tryz.ntmps103
    go_wp2
    go_ret2
    exact ⟨rfl, Below.refl _ _⟩
  · unfold puA
    rw [if_neg h0]
    exact parseUint16 s hs (by omega) w
theorem neq_syn (W : World) : (binOp .neq 34 (.iface 150 (.int .i64 2)) (.iface 150 (.int .i64 1))).run Tryz.prog W = .ok (.bool true) W := by kernel_rfl
theorem neq_rng (W : World) : (binOp .neq 34 (.iface 150 (.int .i64 1)) (.iface 150 (.int .i64 1))).run Tryz.prog W = .ok (.bool false) W := by kernel_rfl
/-- How ParseInt ends. -/
def PiEnd (a : Int) (ev : Value) : Prop := (ev = .nilIface ∧ -2147483648 ≤ a ∧ a ≤ 2147483647) ∨ ev = .iface 150 (.int .i64 1) ∨ ev = .iface 150 (.int .i64 2)
set_option maxRecDepth 100000 in
set_option maxHeartbeats 4000000 in
theorem inner_all (s : ByteArray) (hs : s.size ≤ 1000000) : ∃ (a : Int) (ev : Value), PiEnd a ev ∧ ∀ w,
    Calls Tryz.prog 77 #[.string s, .int .i64 16, .int .i64 32] w fun e w' => e = .returned (.tuple #[.int .i64 a, ev]) ∧ Below w.heap.size w w' := by
  by_cases h0 : s.size = 0
  · have hnil := toList_nil h0
    clear h0
    refine ⟨0, (.iface 150 (.int .i64 2)), Or.inr (Or.inr rfl), fun w => ?_⟩
    go_enter Tryz.func77, Tryz.ntmps77
    go_wp2
    go_ret2
    exact ⟨rfl, Below.refl _ _⟩
  · have hpos : 0 < s.size := by omega
    have hne : (s.toList == []) = false := toList_ne hpos
    have hsz : (0 : Int) < (s.size : Int) := by omega
    have hsz1 : (1 : Int) ≤ (s.size : Int) := by omega
    have CL := Lib.hid (fun w => parseUint16_all s hs w)
    have hs1 : (s.extract 1 s.size).size ≤ 1000000 := by rw [ByteArray.size_extract]; omega
    have CL1 := Lib.hid (fun w => parseUint16_all (s.extract 1 s.size) hs1 w)
    obtain ⟨s1, hs1e⟩ : ∃ s1, s.extract 1 s.size = s1 := ⟨_, rfl⟩
    rw [hs1e] at CL1
    obtain ⟨c, hc⟩ : ∃ c, s[0].toNat = c := ⟨_, rfl⟩
    have hR := puA_le s
    have hR1 := puA_le s1
    generalize puA s = R at CL hR
    generalize puA s1 = R1 at CL1 hR1
    clear h0 hs hs1
    by_cases h43 : c = 43
    · have p1 : ((c : Int) == 43) = true := by rw [beq_iff_eq]; omega
      clear h43 CL hR
      cases R1 with
      | ok n =>
        have hn := hR1 n rfl
        clear hR1
        by_cases hb : n ≥ 2147483648
        · have g1 : (n : Int) ≥ 2147483648 := by omega
          clear hb
          refine ⟨2147483647, (.iface 150 (.int .i64 1)), Or.inr (Or.inl rfl), fun w => ?_⟩
          go_enter Tryz.func77, Tryz.ntmps77
          go_wp2_with (go_at_call 103; refine (CL1.out _).mono ?_; rintro e w' ⟨rfl, hb⟩; replace hb := Lib.hid hb; dsimp only [puV])
          go_ret2
          exact ⟨rfl, hb.out⟩
        · have g1 : ¬ (n : Int) ≥ 2147483648 := by omega
          have hn2 : n < 2147483648 := by omega
          clear hb
          refine ⟨(n : Int), .nilIface, Or.inl ⟨rfl, by omega, by omega⟩, fun w => ?_⟩
          go_enter Tryz.func77, Tryz.ntmps77
          go_wp2_with (go_at_call 103; refine (CL1.out _).mono ?_; rintro e w' ⟨rfl, hb⟩; replace hb := Lib.hid hb; dsimp only [puV])
          go_ret2
          exact ⟨rfl, hb.out⟩
      | syn =>
        clear hR1
        have q1 := neq_syn
        refine ⟨0, (.iface 150 (.int .i64 2)), Or.inr (Or.inr rfl), fun w => ?_⟩
        go_enter Tryz.func77, Tryz.ntmps77
        go_wp2_with (go_at_call 103; refine (CL1.out _).mono ?_; rintro e w' ⟨rfl, hb⟩; replace hb := Lib.hid hb; dsimp only [puV])
        go_ret2
        exact ⟨rfl, hb.out⟩
      | rng =>
        clear hR1
        have q1 := neq_rng
        refine ⟨2147483647, (.iface 150 (.int .i64 1)), Or.inr (Or.inl rfl), fun w => ?_⟩
        go_enter Tryz.func77, Tryz.ntmps77
        go_wp2_with (go_at_call 103; refine (CL1.out _).mono ?_; rintro e w' ⟨rfl, hb⟩; replace hb := Lib.hid hb; dsimp only [puV])
        go_ret2
        exact ⟨rfl, hb.out⟩
    · have p1 : ((c : Int) == 43) = false := by rw [beq_eq_false_iff_ne]; omega
      clear h43
      by_cases h45 : c = 45
      · have p2 : ((c : Int) == 45) = true := by rw [beq_iff_eq]; omega
        clear h45 CL hR
        cases R1 with
        | ok n =>
          have hn := hR1 n rfl
          clear hR1
          by_cases hb : n > 2147483648
          · have g1 : (n : Int) > 2147483648 := by omega
            clear hb
            refine ⟨-2147483648, (.iface 150 (.int .i64 1)), Or.inr (Or.inl rfl), fun w => ?_⟩
            go_enter Tryz.func77, Tryz.ntmps77
            go_wp2_with (go_at_call 103; refine (CL1.out _).mono ?_; rintro e w' ⟨rfl, hb⟩; replace hb := Lib.hid hb; dsimp only [puV])
            go_ret2
            exact ⟨rfl, hb.out⟩
          · have g1 : ¬ (n : Int) > 2147483648 := by omega
            have hn2 : n ≤ 2147483648 := by omega
            clear hb
            refine ⟨(-(n : Int)), .nilIface, Or.inl ⟨rfl, by omega, by omega⟩, fun w => ?_⟩
            go_enter Tryz.func77, Tryz.ntmps77
            go_wp2_with (go_at_call 103; refine (CL1.out _).mono ?_; rintro e w' ⟨rfl, hb⟩; replace hb := Lib.hid hb; dsimp only [puV])
            go_ret2
            exact ⟨rfl, hb.out⟩
        | syn =>
          clear hR1
          have q1 := neq_syn
          refine ⟨0, (.iface 150 (.int .i64 2)), Or.inr (Or.inr rfl), fun w => ?_⟩
          go_enter Tryz.func77, Tryz.ntmps77
          go_wp2_with (go_at_call 103; refine (CL1.out _).mono ?_; rintro e w' ⟨rfl, hb⟩; replace hb := Lib.hid hb; dsimp only [puV])
          go_ret2
          exact ⟨rfl, hb.out⟩
        | rng =>
          clear hR1
          have q1 := neq_rng
          refine ⟨-2147483648, (.iface 150 (.int .i64 1)), Or.inr (Or.inl rfl), fun w => ?_⟩
          go_enter Tryz.func77, Tryz.ntmps77
          go_wp2_with (go_at_call 103; refine (CL1.out _).mono ?_; rintro e w' ⟨rfl, hb⟩; replace hb := Lib.hid hb; dsimp only [puV])
          go_ret2
          exact ⟨rfl, hb.out⟩
      · have p2 : ((c : Int) == 45) = false := by rw [beq_eq_false_iff_ne]; omega
        clear h45 CL1 hR1
        cases R with
        | ok n =>
          have hn := hR n rfl
          clear hR
          by_cases hb : n ≥ 2147483648
          · have g1 : (n : Int) ≥ 2147483648 := by omega
            clear hb
            refine ⟨2147483647, (.iface 150 (.int .i64 1)), Or.inr (Or.inl rfl), fun w => ?_⟩
            go_enter Tryz.func77, Tryz.ntmps77
            go_wp2_with (go_at_call 103; refine (CL.out _).mono ?_; rintro e w' ⟨rfl, hb⟩; replace hb := Lib.hid hb; dsimp only [puV])
            go_ret2
            exact ⟨rfl, hb.out⟩
          · have g1 : ¬ (n : Int) ≥ 2147483648 := by omega
            have hn2 : n < 2147483648 := by omega
            clear hb
            refine ⟨(n : Int), .nilIface, Or.inl ⟨rfl, by omega, by omega⟩, fun w => ?_⟩
            go_enter Tryz.func77, Tryz.ntmps77
            go_wp2_with (go_at_call 103; refine (CL.out _).mono ?_; rintro e w' ⟨rfl, hb⟩; replace hb := Lib.hid hb; dsimp only [puV])
            go_ret2
            exact ⟨rfl, hb.out⟩
        | syn =>
          clear hR
          have q1 := neq_syn
          refine ⟨0, (.iface 150 (.int .i64 2)), Or.inr (Or.inr rfl), fun w => ?_⟩
          go_enter Tryz.func77, Tryz.ntmps77
          go_wp2_with (go_at_call 103; refine (CL.out _).mono ?_; rintro e w' ⟨rfl, hb⟩; replace hb := Lib.hid hb; dsimp only [puV])
          go_ret2
          exact ⟨rfl, hb.out⟩
        | rng =>
          clear hR
          have q1 := neq_rng
          refine ⟨2147483647, (.iface 150 (.int .i64 1)), Or.inr (Or.inl rfl), fun w => ?_⟩
          go_enter Tryz.func77, Tryz.ntmps77
          go_wp2_with (go_at_call 103; refine (CL.out _).mono ?_; rintro e w' ⟨rfl, hb⟩; replace hb := Lib.hid hb; dsimp only [puV])
          go_ret2
          exact ⟨rfl, hb.out⟩
/-- The library's own errors are laid. -/
def ErrsLaid (w : World) : Prop := (∃ a : Addr, w.cell? ⟨20, 0, none⟩ = some (.iface 189 (.pointer (some a)))) ∧ ∃ a : Addr, w.cell? ⟨21, 0, none⟩ = some (.iface 189 (.pointer (some a)))
theorem ErrsLaid.below {w w' : World} (h : ErrsLaid w) (hb : Below w.heap.size w w') : ErrsLaid w' := by
  obtain ⟨⟨a, ha⟩, b, hb'⟩ := h
  exact ⟨⟨a, cell_in hb ha⟩, b, cell_in hb hb'⟩
/-- An error, or none. -/
def Errs (ev : Value) : Prop := ev = .nilIface ∨ ∃ N, ev = .iface 153 (.pointer (some ⟨N, 0, none⟩))
set_option maxRecDepth 100000 in
set_option maxHeartbeats 1000000 in
theorem parseInt16_all (s : ByteArray) (hs : s.size ≤ 1000000) : ∃ a : Int, (-2147483648 ≤ a ∧ a ≤ 2147483647 ∧ ∀ w, ErrsLaid w → Calls Tryz.prog 56 #[.string s, .int .i64 16, .int .i64 32] w fun e w' => e = .returned (.tuple #[.int .i64 a, .nilIface]) ∧ Below w.heap.size w w') ∨
    ∀ w, ErrsLaid w → Calls Tryz.prog 56 #[.string s, .int .i64 16, .int .i64 32] w fun e w' => ∃ N, e = .returned (.tuple #[.int .i64 a, .iface 153 (.pointer (some ⟨N, 0, none⟩))]) ∧ Below w.heap.size w w' := by
  obtain ⟨a, ev, hp, hC⟩ := inner_all s hs
  have C := Lib.hid hC
  have hsl : s.size ≤ 281474976710656 := by omega
  clear hC
  rcases hp with ⟨rfl, h1, h2⟩ | rfl | rfl
  · refine ⟨a, Or.inl ⟨h1, h2, fun w hE => ?_⟩⟩
    clear hE
    go_enter Tryz.func56, Tryz.ntmps56
    go_wp2_with (go_at_call 77; refine (C.out _).mono ?_; rintro e w1 ⟨rfl, hb⟩; have HB := Lib.hid hb; clear hb)
    go_ret2
    exact ⟨rfl, HB.out⟩
  · have CR := Lib.hid (fun x ev (h : x.cell? ⟨21, 0, none⟩ = some ev) (h2 : ev = .nilIface ∨ ∃ te pe, ev = .iface te pe) => Tryz.strconv_toError_range ⟨#[80, 97, 114, 115, 101, 73, 110, 116]⟩ s 16 32 ev x hsl h h2)
    refine ⟨a, Or.inr fun w hE => ?_⟩
    have HE := Lib.hid hE
    clear hE
    go_enter Tryz.func56, Tryz.ntmps56
    go_wp2_with (first
      | (go_at_call 77; refine (C.out _).mono ?_; rintro e w1 ⟨rfl, hb⟩; have HB := Lib.hid hb; obtain ⟨-, p2, hp2⟩ := HE.out.below hb; have HP := Lib.hid hp2; clear hb hp2)
      | (go_at_call 78; refine (CR.out _ _ HP.out (Or.inr ⟨_, _, rfl⟩)).mono ?_; rintro e w2 ⟨N, rfl, -, -, hb⟩; have HB2 := Lib.hid (below_to HB.out hb); clear hb))
    go_ret2
    exact ⟨_, rfl, HB2.out⟩
  · have CR := Lib.hid (fun x ev (h : x.cell? ⟨20, 0, none⟩ = some ev) (h2 : ev = .nilIface ∨ ∃ te pe, ev = .iface te pe) => Tryz.strconv_toError_syntax ⟨#[80, 97, 114, 115, 101, 73, 110, 116]⟩ s 16 32 ev x hsl h h2)
    refine ⟨a, Or.inr fun w hE => ?_⟩
    have HE := Lib.hid hE
    clear hE
    go_enter Tryz.func56, Tryz.ntmps56
    go_wp2_with (first
      | (go_at_call 77; refine (C.out _).mono ?_; rintro e w1 ⟨rfl, hb⟩; have HB := Lib.hid hb; obtain ⟨⟨p2, hp2⟩, -⟩ := HE.out.below hb; have HP := Lib.hid hp2; clear hb hp2)
      | (go_at_call 78; refine (CR.out _ _ HP.out (Or.inr ⟨_, _, rfl⟩)).mono ?_; rintro e w2 ⟨N, rfl, -, -, hb⟩; have HB2 := Lib.hid (below_to HB.out hb); clear hb))
    go_ret2
    exact ⟨_, rfl, HB2.out⟩
theorem atoi_all (u : ByteArray) (hu : u.size ≤ 1000000) : ∃ v : Int, (-9223372036854775808 ≤ v ∧ v ≤ 9223372036854775807 ∧ ∀ w, ErrsLaid w → Calls Tryz.prog 57 #[.string u] w fun e w' => e = .returned (.tuple #[.int .i64 v, .nilIface]) ∧ Below w.heap.size w w') ∨
    ∀ w, ErrsLaid w → Calls Tryz.prog 57 #[.string u] w fun e w' => ∃ N, e = .returned (.tuple #[.int .i64 v, .iface 153 (.pointer (some ⟨N, 0, none⟩))]) ∧ Below w.heap.size w w' := by
  cases h : Lib.atoiAll u.data.toList
  · rename_i v
    obtain ⟨b1, b2⟩ := Lib.atoiAll_bounds h
    refine ⟨v, Or.inl ⟨b1, b2, fun w hE => ?_⟩⟩
    refine (Tryz.strconv_Atoi_ok u (by omega) v h w).mono ?_
    rintro e w' ⟨rfl, rfl | ⟨t, rfl⟩⟩
    · exact ⟨rfl, Below.refl _ _⟩
    · exact ⟨rfl, bytes_below w t⟩
  · refine ⟨0, Or.inr fun w hE => ?_⟩
    obtain ⟨⟨p1, hp1⟩, -⟩ := hE
    refine (Any.strconv_Atoi_syntax Tryz.laysC172 u (by omega) h _ w hp1 (Or.inr ⟨_, _, rfl⟩)).mono ?_
    rintro e w' ⟨N, rfl, -, -, hb⟩
    exact ⟨_, rfl, hb⟩
  · refine ⟨Lib.atoiSat u.data.toList, Or.inr fun w hE => ?_⟩
    obtain ⟨-, p1, hp1⟩ := hE
    refine (Tryz.strconv_Atoi_range u (by omega) h _ w hp1 (Or.inr ⟨_, _, rfl⟩)).mono ?_
    rintro e w' ⟨N, rfl, -, -, hb⟩
    exact ⟨_, rfl, hb⟩
end Go.Proofs.YthggpjiabklekaaGreatDoor
