/- RangesTexts: the law's walk. -/
import Derived.Test.YthggpjiabklekaaGreatDoorRr
import Derived.Test.YthggpjiabklekaaGreatDoorPn
namespace Go.Proofs.YthggpjiabklekaaGreatDoor.PRg
set_option linter.unusedSimpArgs false
set_option linter.unusedVariables false
open Go.RowKit Go.Lib Go.Proofs.YthggpjiabklekaaGreatDoorW.PrintWords Go.Proofs.YthggpjiabklekaaGreatDoorW.PrintLast Go.Proofs.YthggpjiabklekaaGreatDoorW.PrintMore

theorem same_loop (l : List S28) (hl : l.length ≤ 2000) : ∀ (n i k : Nat), i + n = l.length → n < k → eponymref03_Same.l0 k l l (i : Int) = some true
  | 0, i, k, hi, hk => by
    obtain ⟨k, rfl⟩ : ∃ k', k = k' + 1 := ⟨k - 1, by omega⟩
    rw [eponymref03_Same.l0, if_neg (by omega)]
  | n + 1, i, k, hi, hk => by
    obtain ⟨k, rfl⟩ : ∃ k', k = k' + 1 := ⟨k - 1, by omega⟩
    have hil : i < l.length := by omega
    rw [eponymref03_Same.l0, if_pos (by omega), if_pos (by omega), if_pos (by omega), if_neg (by simp), w64_succ i (by omega)]
    exact same_loop l hl n (i + 1) k (by omega) (by omega)
theorem same_f (l : List S28) (hl : l.length ≤ 60) : eponymref03_Same.f 400 l l = some true := by
  unfold eponymref03_Same.f
  rw [if_pos rfl]
  exact same_loop l (by omega) l.length 0 400 (by omega) (by omega)
theorem right_not (l : List S28) (hl : l.length ≤ 60) (hT : ¬ Tab (-1) (rgs l)) : eponymlaw03_Right.f 400 l = some false := by
  obtain ⟨c1, c2, hc, hct⟩ := check_loop l (by omega) l.length 0 400 (by omega) (by omega)
  rw [List.drop_zero] at hct
  unfold eponymlaw03_Right.f eponymref03_Check.f
  rw [if_neg (by omega), show (0 : Int) = ((0 : Nat) : Int) from rfl, hc, Option.bind_some]
  have : ¬ c2 = 0 := fun h => hT (hct.1 h)
  simp [this]
theorem right_yes (l : List S28) (hl : l.length ≤ 60) (hT : Tab (-1) (rgs l)) : eponymlaw03_Right.f 400 l = some true := by
  obtain ⟨c1, c2, hc, hct⟩ := check_loop l (by omega) l.length 0 400 (by omega) (by omega)
  rw [List.drop_zero] at hct
  unfold eponymlaw03_Right.f eponymref03_Check.f
  rw [if_neg (by omega), show (0 : Int) = ((0 : Nat) : Int) from rfl, hc, Option.bind_some]
  have : c2 = 0 := hct.2 hT
  simp [this]
theorem checkS_iff (p : List Rg) (h : p.length ≤ 2000) : checkS p = none ↔ Tab (-1) p := by
  unfold checkS
  rw [if_neg (by omega), ← tab_of p (-1) 0]
  cases faultsL (-1) p 0 with
  | nil => simp
  | cons a r => simp
/-- The rows that were read, as the other functions are told of them. -/
theorem rows_of {w : World} {base : Nat} {v : Value} (l : List S28) (hl : l.length ≤ 60) (h : w.ownsRow base 28 3 v l.length (cells3 (rgs l))) : ∃ A c, v = .slice A l.length c ∧ l.length ≤ c ∧ Kd.C k28 w A l.length l := by
  rcases h.2 with ⟨e, h0⟩ | ⟨g, cap, cur, e, h1, h2, h3, h4, h5, h6⟩
  · have hn : l = [] := List.length_eq_zero_iff.1 h0
    subst hn
    exact ⟨none, 0, e, Nat.le_refl _, Kd.C_nil _ _⟩
  · refine ⟨some ⟨g, 0, none⟩, cap, e, h3, ⟨rfl, by first | omega | (unfold maxLen; omega), fun _ => ⟨_, rfl, fun j p hp => ⟨[.int .i32 p.f0, .int .i32 p.f1, .int .i64 p.f2], rfl, k28_mk w p, fun i u hu => ?_⟩⟩⟩⟩
    subst e
    have hj : j < l.length := (List.getElem?_eq_some_iff.1 hp).1
    have hpe : l[j] = p := (List.getElem?_eq_some_iff.1 hp).2
    have hj' : j < (rgs l).length := by rw [rgs_length]; exact hj
    have eg : (rgs l)[j] = (p.f0, p.f1, p.f2) := by rw [← hpe]; simp [rgs]
    obtain ⟨c1, c2, c3⟩ := cells3_at (rgs l) j hj'
    rw [eg] at c1 c2 c3
    match i, hu with
    | 0, hu =>
      obtain rfl : Value.int .i32 p.f0 = u := by simpa using hu
      have h := h.cellAt (j * 3) (by omega); rw [c1] at h; rw [addr0]; exact h
    | 1, hu =>
      obtain rfl : Value.int .i32 p.f1 = u := by simpa using hu
      have h := h.cellAt (j * 3 + 1) (by omega); rw [c2] at h; rw [addr0]; exact h
    | 2, hu =>
      obtain rfl : Value.int .i64 p.f2 = u := by simpa using hu
      have h := h.cellAt (j * 3 + 2) (by omega); rw [c3] at h; rw [addr0]; exact h
set_option maxRecDepth 100000 in
set_option maxHeartbeats 8000000 in
theorem texts_many (A : Option Addr) (c : Nat) (l : List S28) (w : World) (hI : RInv w) (hl : 60 < l.length) :
    Calls Tryz.prog 4 #[.slice A l.length c] w fun e w' => e = .returned (.bool true) ∧ Below w.heap.size w w' := by
  have C := Lib.hid (awake_any w hI)
  have hl' : (l.length : Int) > 60 := by omega
  clear hI hl
  go_enter Tryz.func4, Tryz.ntmps4
  go_wp2_with (go_at_call 10; refine C.out.mono ?_; rintro e w1 ⟨rfl, hb⟩; have HB := Lib.hid hb; clear hb)
  go_ret
  exact ⟨rfl, HB.out⟩
set_option maxRecDepth 100000 in
set_option maxHeartbeats 8000000 in
theorem texts_wrong (A : Option Addr) (c : Nat) (l : List S28) (w : World) (hI : RInv w) (hr : Kd.C k28 w A l.length l) (hc : l.length ≤ c) (hl : l.length ≤ 60) (hT : ¬ Tab (-1) (rgs l)) :
    Calls Tryz.prog 4 #[.slice A l.length c] w fun e w' => e = .returned (.bool true) ∧ Below w.heap.size w w' := by
  have C := Lib.hid (awake_any w hI)
  have hl' : ¬ (l.length : Int) > 60 := by omega
  have HI := Lib.hid hI
  have HR := Lib.hid hr
  have hlen : (rgs l).length = l.length := rgs_length l
  have CR := Lib.hid (fun x (hb : Below w.heap.size w x) => eponymlaw03_Right.calls 400 A c l false x (Kd.C_below HR.out hb) hc (right_not l hl hT))
  have CT := Lib.hid (fun x (hb : Below w.heap.size w x) => text_bad A c (rgs l) x (HI.out.below hb) (lies_of (Kd.C_below HR.out hb)) (by rw [hlen]; omega) (fun e => hT ((checkS_iff _ (by rw [hlen]; omega)).1 e)))
  rw [hlen] at CT
  clear hI hr hl hT hlen
  go_enter Tryz.func4, Tryz.ntmps4
  go_wp2_with (first
    | (go_at_call 10; refine C.out.mono ?_; rintro e w1 ⟨rfl, hb⟩; have HB := Lib.hid hb; clear hb)
    | (go_at_call 11; refine (CR.out _ HB.out).mono ?_; rintro e w2 ⟨rfl, hb⟩; have HB2 := Lib.hid (Go.Proofs.YthggpjiabklekaaGreatDoor.below_to HB.out hb); clear hb)
    | (go_at_call 15; refine (CT.out _ HB2.out).mono ?_; rintro e w3 ⟨rfl, hb⟩; have HB3 := Lib.hid (Go.Proofs.YthggpjiabklekaaGreatDoor.below_to HB2.out hb); clear hb))
  go_ret
  exact ⟨by first | rfl | simp, HB3.out⟩
end Go.Proofs.YthggpjiabklekaaGreatDoor.PRg
