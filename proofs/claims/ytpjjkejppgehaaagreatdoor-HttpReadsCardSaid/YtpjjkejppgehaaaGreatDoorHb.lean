/- http's reader: some, on the good way. -/
import Derived.Test.YtpjjkejppgehaaaGreatDoorHa
namespace Go.Proofs.YtpjjkejppgehaaaGreatDoor
set_option linter.unusedSimpArgs false
set_option linter.unusedVariables false
open Go.RowKit

/-- A byte is of a sort. -/
def isSort (of : Nat) (b : UInt8) : Bool := (kindN b.toNat &&& of) != 0
theorem kind_16 (c : Nat) : kindN c < 16 := by
  unfold kindN
  split
  · omega
  split
  · omega
  split
  · omega
  split
  · omega
  split <;> omega
theorem bits_fin : ∀ a : Fin 16, ∀ i : Fin 4, (bits BinOp.and IntKind.u8 (a.val : Int) ((2 ^ i.val : Nat) : Int) == 0) = (a.val &&& 2 ^ i.val == 0) ∧ (bits BinOp.and IntKind.u8 (a.val : Int) ((2 ^ i.val : Nat) : Int) != 0) = (a.val &&& 2 ^ i.val != 0) := by decide +kernel
theorem bits_kind (c of : Nat) (hof : of = 1 ∨ of = 2 ∨ of = 4 ∨ of = 8) : (bits BinOp.and IntKind.u8 (kindN c : Int) (of : Int) == 0) = (kindN c &&& of == 0) ∧ (bits BinOp.and IntKind.u8 (kindN c : Int) (of : Int) != 0) = (kindN c &&& of != 0) := by
  have h := bits_fin ⟨kindN c, kind_16 c⟩
  rcases hof with rfl | rfl | rfl | rfl
  · exact h 0
  · exact h 1
  · exact h 2
  · exact h 3
theorem At.drewN {b : Nat} {s : ByteArray} {w x : World} {k : Nat} (h : At b s w k x) (n : Nat) : At b s w k (x.drewN n) := ⟨⟨h.1.os, h.1.tape, h.1.output, h.1.size, h.1.block⟩, h.2⟩
/-- What a region may read. -/
abbrev SX (b : Nat) (s : ByteArray) (w : World) (k c : Nat) (x : World) : Prop := At b s w k x ∧ x.cell? ⟨b, 0, none⟩ = some (.string s) ∧ x.cell? ⟨b, 1, none⟩ = some (.int .i64 k) ∧ x.cell? ⟨b, 2 + c, none⟩ = some (.int .u8 (kindN c)) ∧ x.frozen? ⟨b, 1, none⟩ = false
theorem SX.of {b : Nat} {s : ByteArray} {w x : World} {k c : Nat} (hc : c < 256) (h : At b s w k x) : SX b s w k c x := ⟨h, h.2.c0, h.2.c1, h.2.kx c hc, h.2.fz 1⟩
theorem SX.drew {b : Nat} {s : ByteArray} {w x : World} {k c : Nat} (h : SX b s w k c x) : SX b s w k c x.drew := ⟨h.1.drew, h.2⟩
theorem peek_sx (b : Nat) (s : ByteArray) (w : World) (k c : Nat) (hc : c < 256) (hk : k < s.size) (hcs : s[k].toNat = c) (x : World) (h : SX b s w k c x) :
    Calls Tryz.prog 39 #[.pointer (some ⟨b, 0, none⟩)] x fun e w' => e = .returned (.int .u8 c) ∧ SX b s w k c w' := by
  refine Calls.mono (peek_byte b s k x h.1.2 hk) ?_
  rintro e w' ⟨h1, h2, h3⟩
  exact ⟨by rw [h1, hcs], SX.of hc (h.1.to h2)⟩
set_option maxHeartbeats 4000000 in
theorem some_at (b : Nat) (s : ByteArray) (w : World) (k j most : Nat) (of : Nat) (hof : of = 1 ∨ of = 2 ∨ of = 4 ∨ of = 8) (hs : s.size ≤ 70000) (hm : most ≤ 70000) (hkj : k < j) (hjs : j ≤ s.size) (hjm : j ≤ k + most) (hin : ∀ i, k ≤ i → i < j → ∀ h : i < s.size, isSort of s[i] = true) (hend : j = k + most ∨ (j < s.size ∧ ∀ h : j < s.size, isSort of s[j] = false)) (x : World) (h : At b s w k x) :
    Calls Tryz.prog 37 #[.pointer (some ⟨b, 0, none⟩), .int .u8 of, .int .i64 most] x fun e w' => e = .returned (.string (s.extract k j)) ∧ At b s w j w' := by
  have HI := Lib.hid hin
  have HE := Lib.hid hend
  obtain ⟨nA, c0, c1, z1⟩ := h.facts
  clear hin hend h
  go_enter Tryz.func37, Tryz.ntmps37
  go_wp2
  go_loopg [] (j - k) (fun g wr => ∃ q : Nat, k ≤ q ∧ q ≤ j ∧ g ≤ j - q ∧ j - q ≤ g ∧ At b s w q wr)
  case atStart => exact ⟨k, by omega, by omega, by omega, by omega, nA⟩
  case round =>
    clear nA c0 c1 z1
    obtain ⟨q, hq1, hq2, hg1, hg2, hA⟩ := hrel
    obtain ⟨nA, c0, c1, z1⟩ := hA.facts
    clear hA
    have e2 : IntKind.i64.wrap ((q : Int) - (k : Int)) = (q : Int) - (k : Int) := IntWalk.i64_in _ (by omega)
    by_cases hqj : q < j
    · have hqs : q < s.size := by omega
      have hlt : (q : Int) - (k : Int) < (most : Int) := by omega
      obtain ⟨c, hc⟩ : ∃ c, s[q].toNat = c := ⟨_, rfl⟩
      have hc256 : c < 256 := by have := s[q].toNat_lt; omega
      have HP := Lib.hid (peek_sx b s w q c hc256 hqs hc)
      have hS := HI.out q hq1 hqj hqs
      unfold isSort at hS
      rw [hc] at hS
      have hb : (bits BinOp.and IntKind.u8 (kindN c : Int) (of : Int) == 0) = false := by rw [(bits_kind c of hof).1]; simpa using hS
      have e1 : IntKind.i64.wrap ((q : Int) + 1) = (q : Int) + 1 := IntWalk.i64_in _ (by omega)
      have hc1 : (c : Int) < 256 := by omega
      have nX := SX.of hc256 nA
      clear hS nA c0 c1 z1
      go_wp2
      go_region_held3 (SX b s w q c) (first | assumption | exact SX.drew (by assumption)) (first
        | (go_at_call 39; have kA := ‹SX b s w q c _›; with_reducible refine Calls.mono (HP.out _ kA) ?_; rintro e w' ⟨rfl, nX⟩; clear kA))
      all_goals
        clear nX
        obtain ⟨nA, c0, c1, c2, z1⟩ := ‹SX b s w q c _›
        go_wp2
        go_roundg (j - (q + 1))
        case measure => omega
        case rel => exact ⟨q + 1, by omega, by omega, by omega, by omega, nA.step _ _ (by omega)⟩
    · obtain rfl : q = j := by omega
      have hne : ((q : Int) == (k : Int)) = false := by rw [beq_eq_false_iff_ne]; omega
      have w1 : (0 : Int) ≤ (k : Int) := by omega
      have w2 : (k : Int) ≤ (q : Int) := by omega
      have w3 : (q : Int) ≤ (s.size : Int) := by omega
      rcases HE.out with hend | ⟨hqs, hS⟩
      · have hlt : ¬ (q : Int) - (k : Int) < (most : Int) := by omega
        clear hend
        have HA := Lib.hid nA
        clear nA
        go_wp2
        go_quiet (fail)
        go_wp2
        go_ret
        exact ⟨rfl, HA.out.drewN _⟩
      · by_cases hlt0 : q = k + most
        · have hlt : ¬ (q : Int) - (k : Int) < (most : Int) := by omega
          clear hlt0
          have HA := Lib.hid nA
          clear nA
          go_wp2
          go_quiet (fail)
          go_wp2
          go_ret
          exact ⟨rfl, HA.out.drewN _⟩
        · have hlt : (q : Int) - (k : Int) < (most : Int) := by omega
          obtain ⟨c, hc⟩ : ∃ c, s[q].toNat = c := ⟨_, rfl⟩
          have hc256 : c < 256 := by have := s[q].toNat_lt; omega
          have HP := Lib.hid (peek_sx b s w q c hc256 hqs hc)
          have hS := hS hqs
          unfold isSort at hS
          rw [hc] at hS
          have hb : (bits BinOp.and IntKind.u8 (kindN c : Int) (of : Int) == 0) = true := by rw [(bits_kind c of hof).1]; simpa using hS
          have hc1 : (c : Int) < 256 := by omega
          have nX := SX.of hc256 nA
          clear hS nA c0 c1 z1
          go_wp2
          go_region_held3 (SX b s w q c) (first | assumption | exact SX.drew (by assumption)) (first
            | (go_at_call 39; have kA := ‹SX b s w q c _›; with_reducible refine Calls.mono (HP.out _ kA) ?_; rintro e w' ⟨rfl, nX⟩; clear kA))
          all_goals
            clear nX
            obtain ⟨nA, c0, c1, c2, z1⟩ := ‹SX b s w q c _›
            have HA := Lib.hid nA
            clear nA
            go_wp2
            go_quiet (fail)
            go_wp2
            go_ret
            exact ⟨rfl, HA.out.drewN _⟩
end Go.Proofs.YtpjjkejppgehaaaGreatDoor
