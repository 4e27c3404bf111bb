/- internal/strconv.ParseUint at base 16 and 32 bits. -/
import Derived.Test.YthggpjiabklekaaGreatDoorHy
namespace Go.Proofs.YthggpjiabklekaaGreatDoor
set_option linter.unusedSimpArgs false
set_option linter.unusedVariables false
open Go.RowKit Go.Lib

/-- A digit's number at base 16. -/
def hexD (c : Nat) : Option Nat := if 48 ≤ c ∧ c ≤ 57 then some (c - 48) else if 65 ≤ c ∧ c ≤ 70 then some (c - 55) else if 97 ≤ c ∧ c ≤ 102 then some (c - 87) else none
/-- What is read: a number, no numeral, or too great a one. -/
inductive PU where
  | ok (n : Nat)
  | syn
  | rng
/-- A numeral at base 16, up to M. -/
def pU (M : Nat) : Nat → List UInt8 → PU
  | n, [] => .ok n
  | n, c :: r => match hexD c.toNat with
    | none => .syn
    | some d => if M < n * 16 + d then .rng else pU M (n * 16 + d) r
def puV : PU → Value
  | .ok n => .tuple #[.int .u64 (n : Int), .nilIface]
  | .syn => .tuple #[.int .u64 0, .iface 150 (.int .i64 2)]
  | .rng => .tuple #[.int .u64 4294967295, .iface 150 (.int .i64 1)]
/-- How a byte's smaller letter stands. -/
theorem low_cases : ∀ c : Fin 256, ¬ (48 ≤ c.val ∧ c.val ≤ 57) →
    (97 ≤ bits .or .u8 (c.val : Int) 32 ∧ bits .or .u8 (c.val : Int) 32 ≤ 122 ∧ bits .or .u8 (c.val : Int) 32 - 87 < 16 ∧ hexD c.val = some (bits .or .u8 (c.val : Int) 32 - 87).toNat) ∨
    (97 ≤ bits .or .u8 (c.val : Int) 32 ∧ bits .or .u8 (c.val : Int) 32 ≤ 122 ∧ 16 ≤ bits .or .u8 (c.val : Int) 32 - 87 ∧ hexD c.val = none) ∨
    (¬ 97 ≤ bits .or .u8 (c.val : Int) 32 ∧ hexD c.val = none) ∨ (97 ≤ bits .or .u8 (c.val : Int) 32 ∧ ¬ bits .or .u8 (c.val : Int) 32 ≤ 122 ∧ hexD c.val = none) := by decide +kernel
theorem bytes_below (w : World) (s : ByteArray) : Below w.heap.size w (Lib.bytesWorld w 5 s) := ⟨rfl, rfl, rfl, by rw [Lib.bytesWorld_size]; omega, fun k hk => Lib.bytesWorld_at_old w 5 s k hk⟩
set_option maxRecDepth 100000 in
set_option maxHeartbeats 8000000 in
theorem parseUint16 (s : ByteArray) (hs : s.size ≤ 1000000) (h0 : 0 < s.size) (w : World) :
    Calls Tryz.prog 103 #[.string s, .int .i64 16, .int .i64 32] w fun e w' => e = .returned (puV (pU 4294967295 0 s.data.toList)) ∧ Below w.heap.size w w' := by
  have hconv := Lib.run_convert_string_bytes (P := Tryz.prog) w 9 57 5 s Tryz.underlying9 Tryz.underlying57 Tryz.underlying5
  have hcell : ∀ j (hj : j < s.size), (Lib.bytesWorld w 5 s).cell? ⟨w.heap.size, j, none⟩ = some (.int .u8 (s[j].toNat : Int)) := fun j hj => by
    rw [Lib.bytesWorld_cell w 5 s j hj]
    have h' : j < s.data.toList.length := by simpa using hj
    simp only [List.getD, List.getElem?_eq_getElem h', Option.getD_some]
    rfl
  have HC := Lib.hid hcell
  have HB := Lib.hid (bytes_below w s)
  clear hcell
  generalize Lib.bytesWorld w 5 s = W0 at hconv HC HB
  generalize grownCap w s.size 0 5 = cap at hconv
  obtain ⟨R, hR⟩ : ∃ R, pU 4294967295 0 s.data.toList = R := ⟨_, rfl⟩
  rw [hR]
  have HR := Lib.hid hR
  clear hR
  have hne : (s.toList == []) = false := toList_ne h0
  go_enter Tryz.func103, Tryz.ntmps103
  go_wp2
  go_loop [12, 13, 101] (fun su sn sk => ∃ (n k : Nat), su = .bool false ∧ k ≤ s.size ∧ n ≤ 4294967295 ∧ sn = .int .u64 n ∧ sk = .int .i64 k ∧ pU 4294967295 n (s.data.toList.drop k) = R) (fun _ _ sk => s.size - (RowKit.intOf sk).toNat)
  case atStart => exact ⟨0, 0, rfl, by omega, by omega, rfl, rfl, by rw [List.drop_zero]; exact HR.out⟩
  case round =>
    obtain ⟨n, k, rfl, hk, hn, rfl, rfl, hP⟩ := hrel
    by_cases hlt : k < s.size
    · have hlt' : (k : Int) < (s.size : Int) := by omega
      have hc0 := HC.out k hlt
      have hdr : s.data.toList.drop k = s[k] :: s.data.toList.drop (k + 1) := List.drop_eq_getElem_cons (by simpa using hlt)
      rw [hdr, pU] at hP
      have hcl := s[k].toNat_lt
      generalize s[k].toNat = c at hc0 hP hcl
      have HDR := Lib.hid hdr
      clear hdr
      by_cases hdg : 48 ≤ c ∧ c ≤ 57
      · obtain ⟨d1, d2⟩ := hdg
        have hx : hexD c = some (c - 48) := by unfold hexD; rw [if_pos ⟨d1, d2⟩]
        rw [hx] at hP
        dsimp only at hP
        have e1 : (48 : Int) ≤ (c : Int) := by omega
        have e2 : (c : Int) ≤ 57 := by omega
        have h95 : ((c : Int) == 95) = false := by rw [beq_eq_false_iff_ne]; omega
        have g1 : ¬ (c : Int) - 48 ≥ 16 := by omega
        have g2 : ¬ (n : Int) ≥ 1152921504606846976 := by omega
        have g3 : ¬ (n : Int) * 16 + ((c : Int) - 48) < (n : Int) * 16 := by omega
        by_cases hov : 4294967295 < n * 16 + (c - 48)
        · rw [if_pos hov] at hP
          have g4 : (n : Int) * 16 + ((c : Int) - 48) > 4294967295 := by omega
          have HP := Lib.hid hP
          clear hP hx hov
          go_wp2
          go_ret2
          exact ⟨by rw [← HP.out]; rfl, HB.out⟩
        · rw [if_neg hov] at hP
          have g4 : ¬ (n : Int) * 16 + ((c : Int) - 48) > 4294967295 := by omega
          have HP := Lib.hid hP
          have hov' : n * 16 + (c - 48) ≤ 4294967295 := by omega
          clear hP hx hov
          go_wp2
          go_round
          case rel => exact ⟨n * 16 + (c - 48), k + 1, rfl, by omega, hov', by congr 1; omega, by go_num, HP.out⟩
          case measure => simp [RowKit.intOf]; omega
      · have hlow := low_cases ⟨c, hcl⟩ hdg
        dsimp only at hlow
        have CL := Lib.hid (fun x => Tryz.internal_strconv_lower (c : Int) x)
        generalize bits .or .u8 (c : Int) 32 = lc at hlow CL
        by_cases hA : 48 ≤ c
        all_goals
          first
            | (have hA1 : (48 : Int) ≤ (c : Int) := by omega
               have hA2 : ¬ (c : Int) ≤ 57 := by omega)
            | have hA1 : ¬ (48 : Int) ≤ (c : Int) := by omega
          clear hA hdg
          rcases hlow with ⟨l1, l2, l3, hx⟩ | ⟨l1, l2, l3, hx⟩ | ⟨l1, hx⟩ | ⟨l1, l2, hx⟩
          · rw [hx] at hP
            dsimp only at hP
            have h95 : c ≠ 95 := fun e => by subst e; simp [hexD] at hx
            have h95' : ((c : Int) == 95) = false := by rw [beq_eq_false_iff_ne]; omega
            obtain ⟨d, hd⟩ : ∃ d : Nat, (lc - 87).toNat = d := ⟨_, rfl⟩
            rw [hd] at hP
            obtain ⟨z, hz⟩ : ∃ z : Int, lc - 97 + 10 = z := ⟨_, rfl⟩
            have HZ : z = (d : Int) := by omega
            have g1 : ¬ z ≥ 16 := by omega
            have g2 : ¬ (n : Int) ≥ 1152921504606846976 := by omega
            by_cases hov : 4294967295 < n * 16 + d
            · rw [if_pos hov] at hP
              have g4 : (n : Int) * 16 + z > 4294967295 := by omega
              have HP := Lib.hid hP
              have HZ' := Lib.hid HZ
              have HD := Lib.hid hd
              clear hP hx hov h95 HZ hd l3
              iterate 400 (first | (first | (go_big_may; go_says (go_at_call 125; refine (CL.out _).mono ?_; rintro e w' ⟨rfl, rfl⟩)) | go_values | go_skip | go_guarded | go_step | go_upon | go_back | go_simp) | skip)
              go_ret2
              exact ⟨by rw [← HP.out]; rfl, HB.out⟩
            · rw [if_neg hov] at hP
              have g4 : ¬ (n : Int) * 16 + z > 4294967295 := by omega
              have HP := Lib.hid hP
              have hov' : n * 16 + d ≤ 4294967295 := by omega
              have HZ' := Lib.hid HZ
              have HD := Lib.hid hd
              clear hP hx hov h95 HZ hd l3
              iterate 400 (first | (first | (go_big_may; go_says (go_at_call 125; refine (CL.out _).mono ?_; rintro e w' ⟨rfl, rfl⟩)) | go_values | go_skip | go_guarded | go_step | go_upon | go_back | go_simp) | skip)
              go_round
              case rel =>
                have hz' := HZ'.out
                refine ⟨n * 16 + d, k + 1, by omega, hov', by push_cast; omega, ?_⟩
                first | exact HP.out | exact ⟨by omega, HP.out⟩ | exact ⟨by push_cast; omega, HP.out⟩ | trace_state
              case measure => simp [RowKit.intOf]; omega
          · rw [hx] at hP
            dsimp only at hP
            have g1 : lc - 97 + 10 ≥ 16 := by omega
            have HP := Lib.hid hP
            clear hP
            by_cases h95' : c = 95
            · have h95'' : ((c : Int) == 95) = true := by rw [beq_iff_eq]; omega
              clear h95'
              go_wp2_with (go_at_call 125; refine (CL.out _).mono ?_; rintro e w' ⟨rfl, rfl⟩)
              go_ret2
              exact ⟨by rw [← HP.out]; rfl, HB.out⟩
            · have h95'' : ((c : Int) == 95) = false := by rw [beq_eq_false_iff_ne]; omega
              clear h95'
              go_wp2_with (go_at_call 125; refine (CL.out _).mono ?_; rintro e w' ⟨rfl, rfl⟩)
              go_ret2
              exact ⟨by rw [← HP.out]; rfl, HB.out⟩
          · rw [hx] at hP
            dsimp only at hP
            have HP := Lib.hid hP
            clear hP
            by_cases h95' : c = 95
            · have h95'' : ((c : Int) == 95) = true := by rw [beq_iff_eq]; omega
              clear h95'
              go_wp2_with (go_at_call 125; refine (CL.out _).mono ?_; rintro e w' ⟨rfl, rfl⟩)
              go_ret2
              exact ⟨by rw [← HP.out]; rfl, HB.out⟩
            · have h95'' : ((c : Int) == 95) = false := by rw [beq_eq_false_iff_ne]; omega
              clear h95'
              go_wp2_with (go_at_call 125; refine (CL.out _).mono ?_; rintro e w' ⟨rfl, rfl⟩)
              go_ret2
              exact ⟨by rw [← HP.out]; rfl, HB.out⟩
          · rw [hx] at hP
            dsimp only at hP
            have HP := Lib.hid hP
            clear hP
            by_cases h95' : c = 95
            · have h95'' : ((c : Int) == 95) = true := by rw [beq_iff_eq]; omega
              clear h95'
              go_wp2_with (go_at_call 125; refine (CL.out _).mono ?_; rintro e w' ⟨rfl, rfl⟩)
              go_ret2
              exact ⟨by rw [← HP.out]; rfl, HB.out⟩
            · have h95'' : ((c : Int) == 95) = false := by rw [beq_eq_false_iff_ne]; omega
              clear h95'
              go_wp2_with (go_at_call 125; refine (CL.out _).mono ?_; rintro e w' ⟨rfl, rfl⟩)
              go_ret2
              exact ⟨by rw [← HP.out]; rfl, HB.out⟩
    · have hkk : k = s.size := by omega
      have hlt' : ¬ (k : Int) < (s.size : Int) := by omega
      rw [List.drop_eq_nil_of_le (by simp; omega), pU] at hP
      have HP := Lib.hid hP
      clear hP hkk
      go_wp2
      go_ret2
      exact ⟨by rw [← HP.out]; rfl, HB.out⟩
end Go.Proofs.YthggpjiabklekaaGreatDoor
