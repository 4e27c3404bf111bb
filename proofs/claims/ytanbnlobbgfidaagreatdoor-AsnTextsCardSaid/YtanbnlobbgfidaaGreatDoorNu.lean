/- asn.Number: the number that a text writes, or its fault. -/
import Derived.Test.YtanbnlobbgfidaaGreatDoorUb
import Derived.LoopTactic
namespace Go.Proofs.YtanbnlobbgfidaaGreatDoor
set_option linter.unusedSimpArgs false
set_option linter.unusedVariables false
open Go.RowKit Go.Lib

/-- What the calls want of the world: the named errors, the library's error and its one number. -/
structure AInv (w : World) : Prop where
  is : IsInv w
  rng : ∃ t x, w.cell? ⟨22, 0, none⟩ = some (.iface t x)
  ml : ∃ m : Int, w.cell? ⟨19, 0, none⟩ = some (.int .i64 m)
theorem AInv.below {w w' : World} (h : AInv w) (hb : Below w.heap.size w w') : AInv w' where
  is := h.is.below hb
  rng := let ⟨t, x, hx⟩ := h.rng; ⟨t, x, cell_in hb hx⟩
  ml := let ⟨m, hm⟩ := h.ml; ⟨m, cell_in hb hm⟩
theorem AInv.drewN {w : World} (h : AInv w) (n : Nat) : AInv (w.drewN n) where
  is := h.is.drewN n
  rng := h.rng
  ml := h.ml

/-- The first byte that is no digit. -/
def badAt (l : List UInt8) : Option Nat := l.findIdx? fun c => c < 48 || 57 < c
/-- asn.Number. -/
def numS (l : List UInt8) : Int × Option (Int × Nat) :=
  if l = [] then (0, some (0, 16))
  else match badAt l with
    | some i => (0, some (i, 1))
    | none => if l.head? = some 48 ∧ 1 < l.length then (0, some (0, 5))
      else match Lib.parseUintB 32 l with
        | .ok u => ((u : Nat), none)
        | _ => (0, some (0, 4))

theorem number_empty (s : ByteArray) (w : World) (hI : AInv w) (h0 : s.toList = []) :
    Calls Tryz.prog 27 #[.string s] w fun e w' => ∃ v, e = .returned (.tuple #[.int .u32 0, v]) ∧ FltIs w' v (some (0, 16)) ∧ Below w.heap.size w w' := by
  obtain ⟨a, he, -⟩ := hI.is.sent 16 (by omega) (by omega)
  have he' : w.cell? ⟨2, 0, none⟩ = _ := he
  have C := Lib.hid (fault_any 0 16 _ w (by omega) (by omega) he _ _ rfl)
  clear hI he
  go_enter Tryz.func27, Tryz.ntmps27
  go_wp2_with (go_at_call 29; refine C.out.mono ?_; rintro e w' ⟨v, rfl, hf, hb⟩; have HF := Lib.hid hf; have HB := Lib.hid hb; clear hf hb)
  go_ret2
  exact ⟨_, rfl, HF.out, HB.out⟩

/-- The loop comes to i. -/
theorem number_bad (s : ByteArray) (w : World) (hI : AInv w) (hs : s.size ≤ 140737488351232) (i : Nat) (hi : i < s.size) (hlt : ∀ j, j < i → (h : j < s.size) → 48 ≤ (s[j].toNat : Int) ∧ (s[j].toNat : Int) ≤ 57) (hb : (s[i].toNat : Int) < 48 ∨ 57 < (s[i].toNat : Int)) :
    Calls Tryz.prog 27 #[.string s] w fun e w' => ∃ v, e = .returned (.tuple #[.int .u32 0, v]) ∧ FltIs w' v (some ((i : Int), 1)) ∧ Below w.heap.size w w' := by
  have h0b := toList_ne (s := s) (by omega)
  obtain ⟨a, he, -⟩ := hI.is.sent 1 (by omega) (by omega)
  have he' : w.cell? ⟨3, 0, none⟩ = _ := he
  have C := Lib.hid (fault_any i 1 _ w (by omega) (by omega) he _ _ rfl)
  have HL := Lib.hid hlt
  have HB0 := Lib.hid hb
  clear hI he hlt hb
  go_enter Tryz.func27, Tryz.ntmps27
  go_wp2
  go_loop [13] (fun x => ∃ k : Nat, k ≤ i ∧ x = .int .i64 k) (fun x => s.size - (RowKit.intOf x).toNat)
  case atStart => exact ⟨0, Nat.zero_le _, rfl⟩
  case round =>
    obtain ⟨k, hk, rfl⟩ := hrel
    by_cases hk2 : k < i
    · have g1 := (HL.out k hk2 (by omega)).1
      have g2 := (HL.out k hk2 (by omega)).2
      have hks : k < s.size := by omega
      go_wp2
      go_round
      case rel => exact ⟨k + 1, by omega, by go_num⟩
      case measure => simp [RowKit.intOf]; omega
    · obtain rfl : k = i := by omega
      rcases HB0.out with g | g
      · go_wp2_with (go_at_call 29; refine C.out.mono ?_; rintro e w' ⟨v, rfl, hf, hb⟩; have HF := Lib.hid hf; have HB := Lib.hid hb; clear hf hb)
        go_ret2
        exact ⟨_, rfl, HF.out, HB.out⟩
      · have g3 : ¬ (s[k].toNat : Int) < 48 := by omega
        go_wp2_with (go_at_call 29; refine C.out.mono ?_; rintro e w' ⟨v, rfl, hf, hb⟩; have HF := Lib.hid hf; have HB := Lib.hid hb; clear hf hb)
        go_ret2
        exact ⟨_, rfl, HF.out, HB.out⟩

/-- Behind the loop. -/
theorem number_form (s : ByteArray) (w : World) (hI : AInv w) (hs : s.size ≤ 140737488351232) (h1 : 1 < s.size) (hlt : ∀ j, (h : j < s.size) → 48 ≤ (s[j].toNat : Int) ∧ (s[j].toNat : Int) ≤ 57) (hz : (s[0].toNat : Int) = 48) :
    Calls Tryz.prog 27 #[.string s] w fun e w' => ∃ v, e = .returned (.tuple #[.int .u32 0, v]) ∧ FltIs w' v (some (0, 5)) ∧ Below w.heap.size w w' := by
  have h0b := toList_ne (s := s) (by omega)
  obtain ⟨a, he, -⟩ := hI.is.sent 5 (by omega) (by omega)
  have he' : w.cell? ⟨4, 0, none⟩ = _ := he
  have C := Lib.hid (fault_any 0 5 _ w (by omega) (by omega) he _ _ rfl)
  have HL := Lib.hid hlt
  have HZ := Lib.hid hz
  clear hI he hlt hz
  go_enter Tryz.func27, Tryz.ntmps27
  go_wp2
  go_loop [13] (fun x => ∃ k : Nat, k ≤ s.size ∧ x = .int .i64 k) (fun x => s.size - (RowKit.intOf x).toNat)
  case atStart => exact ⟨0, Nat.zero_le _, rfl⟩
  case round =>
    obtain ⟨k, hk, rfl⟩ := hrel
    by_cases hk2 : k < s.size
    · have g1 := (HL.out k hk2).1
      have g2 := (HL.out k hk2).2
      go_wp2
      go_round
      case rel => exact ⟨k + 1, by omega, by go_num⟩
      case measure => simp [RowKit.intOf]; omega
    · have hz := HZ.out
      go_wp2_with (go_at_call 29; refine C.out.mono ?_; rintro e w' ⟨v, rfl, hf, hb⟩; have HF := Lib.hid hf; have HB := Lib.hid hb; clear hf hb)
      go_ret2
      exact ⟨_, rfl, HF.out, HB.out⟩

/-- strconv.ParseUint has the last word: a number. -/
theorem number_ok (s : ByteArray) (w : World) (hs : s.size ≤ 140737488351232) (h1 : 0 < s.size) (hlt : ∀ j, (h : j < s.size) → 48 ≤ (s[j].toNat : Int) ∧ (s[j].toNat : Int) ≤ 57) (hz : s.size = 1 ∨ ¬ (s[0].toNat : Int) = 48) (u : Nat) (hu : Lib.parseUintB 32 s.data.toList = .ok u) :
    Calls Tryz.prog 27 #[.string s] w fun e w' => e = .returned (.tuple #[.int .u32 u, .nilIface]) ∧ Below w.heap.size w w' := by
  have C : Hid (Calls Tryz.prog 40 #[.string s, .int .i64 10, .int .i64 32] w fun e w' => e = .returned (.tuple #[.int .u64 u, .nilIface]) ∧ Below w.heap.size w w') :=
    (Tryz.strconv_ParseUint_10_at32_ok s (by omega) u hu w).mono (by rintro e w' ⟨rfl, rfl | rfl⟩ <;> first | exact ⟨rfl, Below.refl _ _⟩ | exact ⟨rfl, Lib.bytesWorld_below _ _ _⟩)
  have hu2 := Lib.parseUintB_le hu
  have h0b := toList_ne (s := s) (by omega)
  have HL := Lib.hid hlt
  have HZ := Lib.hid hz
  clear hlt hz hu
  go_enter Tryz.func27, Tryz.ntmps27
  go_wp2
  go_loop [13] (fun x => ∃ k : Nat, k ≤ s.size ∧ x = .int .i64 k) (fun x => s.size - (RowKit.intOf x).toNat)
  case atStart => exact ⟨0, Nat.zero_le _, rfl⟩
  case round =>
    obtain ⟨k, hk, rfl⟩ := hrel
    by_cases hk2 : k < s.size
    · have g1 := (HL.out k hk2).1
      have g2 := (HL.out k hk2).2
      go_wp2
      go_round
      case rel => exact ⟨k + 1, by omega, by go_num⟩
      case measure => simp [RowKit.intOf]; omega
    · by_cases hz : (s[0].toNat : Int) = 48
      · have h2 : s.size = 1 := HZ.out.resolve_right (fun h => h hz)
        have h3 : ¬ 1 < s.size := by omega
        clear h2
        go_wp2_with (go_at_call 40; refine C.out.mono ?_; rintro e w' ⟨rfl, hb⟩; have HB := Lib.hid hb; clear hb)
        go_ret2
        exact ⟨rfl, HB.out⟩
      · go_wp2_with (go_at_call 40; refine C.out.mono ?_; rintro e w' ⟨rfl, hb⟩; have HB := Lib.hid hb; clear hb)
        go_ret2
        exact ⟨rfl, HB.out⟩
/-- .. none that fits. -/
theorem number_range (s : ByteArray) (w : World) (hI : AInv w) (hs : s.size ≤ 140737488351232) (h1 : 0 < s.size) (hlt : ∀ j, (h : j < s.size) → 48 ≤ (s[j].toNat : Int) ∧ (s[j].toNat : Int) ≤ 57) (hz : s.size = 1 ∨ ¬ (s[0].toNat : Int) = 48) (hu : Lib.parseUintB 32 s.data.toList = .range) :
    Calls Tryz.prog 27 #[.string s] w fun e w' => ∃ v, e = .returned (.tuple #[.int .u32 0, v]) ∧ FltIs w' v (some (0, 4)) ∧ Below w.heap.size w w' := by
  obtain ⟨t, x, hx⟩ := hI.rng
  have C : Hid (Calls Tryz.prog 40 #[.string s, .int .i64 10, .int .i64 32] w fun e w' => ∃ N : Nat, e = .returned (.tuple #[.int .u64 4294967295, .iface 133 (.pointer (some ⟨N, 0, none⟩))]) ∧ Below w.heap.size w w') :=
    (Tryz.strconv_ParseUint_10_at32_range s (by omega) hu _ w hx (.inr ⟨_, _, rfl⟩)).mono (by rintro e w' ⟨N, rfl, _, _, hb⟩; exact ⟨N, rfl, hb⟩)
  have HI := Lib.hid hI
  have h0b := toList_ne (s := s) (by omega)
  have HL := Lib.hid hlt
  have HZ := Lib.hid hz
  clear hlt hz hu hI hx
  go_enter Tryz.func27, Tryz.ntmps27
  go_wp2
  go_loop [13] (fun x => ∃ k : Nat, k ≤ s.size ∧ x = .int .i64 k) (fun x => s.size - (RowKit.intOf x).toNat)
  case atStart => exact ⟨0, Nat.zero_le _, rfl⟩
  case round =>
    obtain ⟨k, hk, rfl⟩ := hrel
    by_cases hk2 : k < s.size
    · have g1 := (HL.out k hk2).1
      have g2 := (HL.out k hk2).2
      go_wp2
      go_round
      case rel => exact ⟨k + 1, by omega, by go_num⟩
      case measure => simp [RowKit.intOf]; omega
    · by_cases hz : (s[0].toNat : Int) = 48
      · have h2 : s.size = 1 := HZ.out.resolve_right (fun h => h hz)
        have h3 : ¬ 1 < s.size := by omega
        clear h2
        go_wp2_with (first
          | (go_at_call 40; refine C.out.mono ?_; rintro e w1 ⟨N, rfl, hb⟩; obtain ⟨a, he, -⟩ := (HI.out.is.below hb).sent 4 (by omega) (by omega); have he' : w1.cell? ⟨1, 0, none⟩ = _ := he; have C2 := Lib.hid (fault_any 0 4 _ w1 (by omega) (by omega) he _ _ rfl); have HB := Lib.hid hb; clear hb he)
          | (go_at_call 29; refine C2.out.mono ?_; rintro e w' ⟨v, rfl, hf, hb⟩; have HF := Lib.hid hf; have HB2 := Lib.hid (below_to HB.out hb); clear hf hb))
        go_ret2
        exact ⟨_, rfl, HF.out, HB2.out⟩
      · go_wp2_with (first
          | (go_at_call 40; refine C.out.mono ?_; rintro e w1 ⟨N, rfl, hb⟩; obtain ⟨a, he, -⟩ := (HI.out.is.below hb).sent 4 (by omega) (by omega); have he' : w1.cell? ⟨1, 0, none⟩ = _ := he; have C2 := Lib.hid (fault_any 0 4 _ w1 (by omega) (by omega) he _ _ rfl); have HB := Lib.hid hb; clear hb he)
          | (go_at_call 29; refine C2.out.mono ?_; rintro e w' ⟨v, rfl, hf, hb⟩; have HF := Lib.hid hf; have HB2 := Lib.hid (below_to HB.out hb); clear hf hb))
        go_ret2
        exact ⟨_, rfl, HF.out, HB2.out⟩

theorem byte_at (s : ByteArray) (j : Nat) (h : j < s.size) : s.data.toList[j]'(by rw [← Lib.size_eq]; exact h) = s[j] := rfl
theorem uintM_digits (M : Nat) : ∀ (l : List UInt8) (acc : Nat), (∀ c ∈ l, 48 ≤ c.toNat ∧ c.toNat ≤ 57) → Lib.parseUintM M acc l = .range ∨ ∃ u, Lib.parseUintM M acc l = .ok u
  | [], acc, _ => .inr ⟨acc, rfl⟩
  | c :: r, acc, h => by
    unfold Lib.parseUintM
    rw [if_pos (h c (List.mem_cons_self ..))]
    split
    · exact .inl rfl
    · split
      · exact .inl rfl
      · exact uintM_digits M r _ (fun d hd => h d (List.mem_cons_of_mem _ hd))
/-- asn.Number, at every text. -/
theorem number_any (s : ByteArray) (w : World) (hI : AInv w) (hs : s.size ≤ 140737488351232) :
    Calls Tryz.prog 27 #[.string s] w fun e w' => ∃ v, e = .returned (.tuple #[.int .u32 (numS s.data.toList).1, v]) ∧ FltIs w' v (numS s.data.toList).2 ∧ Below w.heap.size w w' := by
  have hlen : s.data.toList.length = s.size := (Lib.size_eq s).symm
  by_cases h0 : s.data.toList = []
  · have e : numS s.data.toList = (0, some (0, 16)) := by unfold numS; rw [if_pos h0]
    rw [e]
    exact number_empty s w hI (by rw [ByteArray.toList_eq]; exact h0)
  · have hpos : 0 < s.size := by
      rcases Nat.eq_zero_or_pos s.size with h | h
      · exact absurd (List.eq_nil_of_length_eq_zero (hlen.trans h)) h0
      · exact h
    cases hb : badAt s.data.toList with
    | some i =>
      have e : numS s.data.toList = (0, some ((i : Int), 1)) := by unfold numS; rw [if_neg h0, hb]
      rw [e]
      obtain ⟨hi, hp, hn⟩ := List.findIdx?_eq_some_iff_getElem.1 hb
      have hi' : i < s.size := by omega
      refine number_bad s w hI hs i hi' (fun j hj hjs => ?_) ?_
      · have := hn j hj
        rw [byte_at s j hjs] at this
        simp [UInt8.lt_iff_toNat_lt] at this
        omega
      · rw [byte_at s i hi'] at hp
        simp [UInt8.lt_iff_toNat_lt] at hp
        omega
    | none =>
      have hall : ∀ c ∈ s.data.toList, 48 ≤ c.toNat ∧ c.toNat ≤ 57 := fun c hc => by
        have := List.findIdx?_eq_none_iff.1 hb c hc
        simp [UInt8.lt_iff_toNat_lt] at this
        omega
      have hlt : ∀ j, (h : j < s.size) → 48 ≤ (s[j].toNat : Int) ∧ (s[j].toNat : Int) ≤ 57 := fun j hj => by
        have := hall _ (List.getElem_mem (by omega : j < s.data.toList.length))
        rw [byte_at s j hj] at this
        omega
      have h48 : s.data.toList.head? = some 48 ↔ (s[0].toNat : Int) = 48 := by
        rw [List.head?_eq_getElem?, List.getElem?_eq_getElem (by omega : 0 < s.data.toList.length), byte_at s 0 hpos]
        constructor
        · intro h; injection h with h; rw [h]; rfl
        · intro h; congr 1; apply UInt8.toNat_inj.1; show s[0].toNat = 48; omega
      by_cases hf : s.data.toList.head? = some 48 ∧ 1 < s.data.toList.length
      · have e : numS s.data.toList = (0, some (0, 5)) := by unfold numS; rw [if_neg h0, hb]; simp only; rw [if_pos hf]
        rw [e]
        exact number_form s w hI hs (by omega) hlt (h48.1 hf.1)
      · have hz : s.size = 1 ∨ ¬ (s[0].toNat : Int) = 48 := by
          by_cases h1 : s.size = 1
          · exact .inl h1
          · exact .inr fun h => hf ⟨h48.2 h, by omega⟩
        have hcases : Lib.parseUintB 32 s.data.toList = .range ∨ ∃ u, Lib.parseUintB 32 s.data.toList = .ok u := by
          unfold Lib.parseUintB
          rw [if_neg h0]
          exact uintM_digits _ _ _ hall
        rcases hcases with hu | ⟨u, hu⟩
        · have e : numS s.data.toList = (0, some (0, 4)) := by unfold numS; rw [if_neg h0, hb]; simp only; rw [if_neg hf, hu]
          rw [e]
          exact number_range s w hI hs hpos hlt hz hu
        · have e : numS s.data.toList = ((u : Int), none) := by unfold numS; rw [if_neg h0, hb]; simp only; rw [if_neg hf, hu]
          rw [e]
          refine (number_ok s w hs hpos hlt hz u hu).mono ?_
          rintro e w' ⟨rfl, hb⟩
          exact ⟨_, rfl, rfl, hb⟩
end Go.Proofs.YtanbnlobbgfidaaGreatDoor
