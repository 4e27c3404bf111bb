/- eponymlaw15.awake and asn.Union, in the form in which the printed functions are told. -/
import Derived.Test.YtanbnlobbgfidaaGreatDoorPAux0
import Derived.Test.YtanbnlobbgfidaaGreatDoorAw
namespace Go.Proofs.YtanbnlobbgfidaaGreatDoor.PAu
set_option linter.unusedSimpArgs false
set_option linter.unusedVariables false
open Go.RowKit Go.Proofs.YtanbnlobbgfidaaGreatDoorW.PrintWords
/-- What the calls want of the world in which they begin. -/
def GInv (w : World) : Prop := AInv w
theorem GInv.below {w w' : World} (h : GInv w) (hb : Below w.heap.size w w') : GInv w' := AInv.below h hb
theorem GInv.drewN {w : World} (h : GInv w) (n : Nat) : GInv (w.drewN n) := AInv.drewN h n
def eponymlaw15_awake.f : Option Bool := some true
theorem eponymlaw15_awake.calls (r : Bool) (w : World) (hG : GInv w) (h : eponymlaw15_awake.f = some r) :
    Calls Tryz.prog 7 #[] w fun e w' => e = .returned (.bool r) ∧ Below w.heap.size w w' := by
  injection h with h
  subst h
  exact awake_any w hG

/-- A span as a pair, and back. -/
def tup (x : S28) : Int × Int := (x.f0, x.f1)
def untup (x : Int × Int) : S28 := ⟨x.1, x.2⟩
theorem tup_untup (x : Int × Int) : tup (untup x) = x := rfl
theorem untup_tup (x : S28) : untup (tup x) = x := rfl
theorem flat_part (l : List (Int × Int)) (j : Nat) (x : Int × Int) (h : l[j]? = some x) : ((flat l).drop (j * 2)).take 2 = [.int .u32 x.1, .int .u32 x.2] := by
  obtain ⟨hj, rfl⟩ := List.getElem?_eq_some_iff.1 h
  apply List.ext_getElem?
  intro i
  rw [List.getElem?_take]
  match i with
  | 0 => rw [if_pos (by omega), List.getElem?_drop, Nat.add_zero, flat_fst l j hj]; rfl
  | 1 => rw [if_pos (by omega), List.getElem?_drop, flat_snd l j hj]; rfl
  | k + 2 => rw [if_neg (by omega)]; rfl
theorem reads_of {w : World} {A : Option Addr} {l : List S28} {c : Nat} (h : Kd.C k28 w A l.length l) (hc : l.length ≤ c) : Reads w (.slice A l.length c) (l.map tup) := by
  by_cases h0 : l = []
  · subst h0
    cases A with
    | none => exact .inl ⟨c, rfl, rfl⟩
    | some ad => exact .inr ⟨ad, c, rfl, Nat.zero_le _, fun j u hj => by simp [flat] at hj⟩
  · have hpos : 0 < l.length := List.length_pos_iff.2 h0
    obtain ⟨ad, hA, hcell⟩ := h.2.2 hpos
    refine .inr ⟨ad, c, by rw [hA, List.length_map], by rw [List.length_map]; exact hc, fun j u hj => ?_⟩
    rw [flat_get] at hj
    by_cases hlt : j < (l.map tup).length * 2
    · rw [if_pos hlt] at hj
      injection hj with hj
      rw [List.length_map] at hlt
      have hk : j / 2 < l.length := by omega
      obtain ⟨cs, hl, hK, hcs⟩ := hcell (j / 2) _ (List.getElem?_eq_getElem hk)
      have e := k28_open hK
      have e2 : (l.map tup).getD (j / 2) (0, 0) = tup l[j / 2] := by
        rw [List.getD_eq_getElem?_getD, List.getElem?_map, List.getElem?_eq_getElem hk]
        rfl
      rw [e2] at hj
      have e3 := hcs (j % 2) u (by
        rw [e, ← hj]
        have : j % 2 = 0 ∨ j % 2 = 1 := by omega
        rcases this with h | h <;> rw [h] <;> rfl)
      have e4 : j / 2 * (k28).sz + j % 2 = j := by
        show j / 2 * 2 + j % 2 = j
        omega
      rw [e4] at e3
      exact e3
    · rw [if_neg hlt] at hj; cases hj
theorem row_of {w : World} {base : Nat} {v : Value} {l : List (Int × Int)} (h : w.ownsRow base 28 2 v l.length (flat l)) : Kd.R k28 28 w base (fun _ => True) v (l.map untup) := by
  refine ⟨fun _ _ => trivial, flat l, by rw [List.length_map]; exact h, ⟨by rw [flat_length, List.length_map]; rfl, fun j p hp => ?_⟩⟩
  rw [List.getElem?_map] at hp
  cases hx : l[j]? with
  | none => rw [hx] at hp; cases hp
  | some x =>
    rw [hx] at hp
    injection hp with hp
    subst hp
    have e : ((flat l).drop (j * (k28).sz)).take (k28).sz = [.int .u32 x.1, .int .u32 x.2] := flat_part l j x hx
    rw [e]
    exact k28_mkM w base _ (untup x)
def asn_Union.f (l0 : List S28) : Option (List S28) :=
  if l0.length ≤ 1000000 ∧ (∀ x ∈ l0, 0 ≤ x.f0 ∧ x.f0 < 4294967296 ∧ 0 ≤ x.f1 ∧ x.f1 < 4294967296) then some ((unionS (l0.map tup)).map untup) else none
theorem asn_Union.calls (A0 : Option Addr) (c0 : Nat) (l0 : List S28) (r : List S28) (w : World) (hr0 : Kd.C k28 w A0 l0.length l0) (hc0 : l0.length ≤ c0) (h : asn_Union.f l0 = some r) :
    Calls Tryz.prog 8 #[.slice A0 l0.length c0] w fun e w' => ∃ v0_ : Value, e = .returned (v0_) ∧ Kd.R k28 28 w' w.heap.size (fun _ => True) v0_ r ∧ Below w.heap.size w w' := by
  unfold asn_Union.f at h
  split at h
  · rename_i hp
    injection h with h
    subst h
    refine (union_any _ (l0.map tup) w (by rw [List.length_map]; exact hp.1) (fun x hx => ?_) (reads_of hr0 hc0)).mono ?_
    · obtain ⟨y, hy, rfl⟩ := List.mem_map.1 hx
      exact hp.2 y hy
    · rintro e w' ⟨v, rfl, ho, hb⟩
      exact ⟨v, rfl, row_of ho, hb⟩
  · cases h
end Go.Proofs.YtanbnlobbgfidaaGreatDoor.PAu
